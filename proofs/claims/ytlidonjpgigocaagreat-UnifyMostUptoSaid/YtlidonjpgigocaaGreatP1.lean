/-
  'brocadelaw07': what the laws say, in plain words. Conditions: those of each theorem.
-/
import Derived.Test.YtlidonjpgigocaaGreatProws7
namespace Go.Proofs.YtlidonjpgigocaaGreat
set_option linter.all false
set_option maxRecDepth 4000
open Go.RowKit
theorem foldW_mem : ∀ (k l : List Int) (x : Int), x ∈ l ∨ x ∈ k → x ∈ k.foldl withI l
  | [], l, x, h => by simpa using h
  | y :: k, l, x, h => by
    rw [List.foldl_cons]
    refine foldW_mem k _ x ?_
    have hw : y ∈ withI l y ∧ ∀ z ∈ l, z ∈ withI l y := by
      by_cases hy : y ∈ l
      · rw [withI_in hy]; exact ⟨hy, fun _ h => h⟩
      · rw [withI_out hy]; exact ⟨by simp, fun z hz => List.mem_append_left _ hz⟩
    rcases h with h | h
    · exact .inl (hw.2 x h)
    · rcases List.mem_cons.1 h with rfl | h
      · exact .inl hw.1
      · exact .inr h
theorem foldW_with (s l : List Int) (x : Int) : (withI l x).foldl withI s = withI (l.foldl withI s) x := by
  by_cases h : x ∈ l
  · rw [withI_in h, withI_in (foldW_mem l s x (.inr h))]
  · rw [withI_out h, List.foldl_append]; rfl
theorem foldW_fold (s : List Int) : ∀ (k l : List Int), (k.foldl withI l).foldl withI s = k.foldl withI (l.foldl withI s)
  | [], _ => rfl
  | y :: k, l => by rw [List.foldl_cons, foldW_fold s k, foldW_with]; rfl
def combW (s r : List Int × List Int) : List Int × List Int := (r.1.foldl withI s.1, r.2.foldl withI s.2)
theorem combW_assoc (s r q : List Int × List Int) : combW s (combW r q) = combW (combW s r) q := by
  unfold combW; rw [foldW_fold, foldW_fold]
theorem walk_comb (t : Ty) : ∀ s, walkT t s = combW s (walkT t ([], [])) := by
  induction t using Ty.rec_ with
  | h t ih =>
    have key : ∀ (l : List Ty), (∀ u ∈ l, u ∈ t.args) → ∀ (i : Nat) s, walkTs t.kind t.rv i l s = combW s (walkTs t.kind t.rv i l ([], [])) := by
      intro l
      induction l with
      | nil => intro _ i s; rw [walkTs, walkTs]; rfl
      | cons x l ihl =>
        intro hl i s
        rw [walkTs_cons, walkTs_cons, ihl (fun u hu => hl u (.tail _ hu)), ihl (fun u hu => hl u (.tail _ hu)) (i + 1) (if i = 0 ∧ t.kind = 5 ∧ 0 < t.rv then _ else _), combW_assoc]
        congr 1
        rw [ih x (hl x (.head _)) s]
        split
        · unfold combW; rw [foldW_with]
        · rfl
    intro s
    rw [walkT_eq, walkT_eq t ([], []), key t.args (fun u hu => hu) 0 (if t.kind = 7 then (withI s.1 t.var, s.2) else s), key t.args (fun u hu => hu) 0 (if t.kind = 7 then _ else _), combW_assoc]
    congr 1
    split
    · unfold combW; rfl
    · rfl
theorem combW_mem {s r : List Int × List Int} {x : Int} : (x ∈ s.1 ∨ x ∈ r.1 → x ∈ (combW s r).1) ∧ (x ∈ s.2 ∨ x ∈ r.2 → x ∈ (combW s r).2) := ⟨foldW_mem _ _ _, foldW_mem _ _ _⟩
theorem walkTs_comb (k rv : Int) : ∀ (i : Nat) (l : List Ty) s, walkTs k rv i l s = combW s (walkTs k rv i l ([], []))
  | _, [], s => by rw [walkTs, walkTs]; rfl
  | i, x :: l, s => by
    rw [walkTs_cons, walkTs_cons, walkTs_comb k rv (i + 1) l, walkTs_comb k rv (i + 1) l (if i = 0 ∧ k = 5 ∧ 0 < rv then _ else _), combW_assoc]
    congr 1
    rw [walk_comb x s]
    split
    · unfold combW; rw [foldW_with]
    · rfl
theorem walkTs_sub (k rv : Int) : ∀ (i : Nat) (l : List Ty) (u : Ty), u ∈ l → ∀ x, (x ∈ (walkT u ([], [])).1 → x ∈ (walkTs k rv i l ([], [])).1) ∧ (x ∈ (walkT u ([], [])).2 → x ∈ (walkTs k rv i l ([], [])).2)
  | i, t :: l, u, hu, x => by
    rw [walkTs_cons, walkTs_comb]
    rcases List.mem_cons.1 hu with rfl | hu
    · constructor
      · intro h; refine combW_mem.1 (.inl ?_); split
        · exact h
        · exact h
      · intro h; refine combW_mem.2 (.inl ?_); split
        · dsimp only; unfold withI; split
          · exact h
          · exact List.mem_append_left _ h
        · exact h
    · have := walkTs_sub k rv (i + 1) l u hu x
      exact ⟨fun h => combW_mem.1 (.inr (this.1 h)), fun h => combW_mem.2 (.inr (this.2 h))⟩
theorem walk_arg {t u : Ty} (hu : u ∈ t.args) (x : Int) : (x ∈ (walkT u ([], [])).1 → x ∈ (walkT t ([], [])).1) ∧ (x ∈ (walkT u ([], [])).2 → x ∈ (walkT t ([], [])).2) := by
  rw [walkT_eq t, walkTs_comb]
  have := walkTs_sub t.kind t.rv 0 t.args u hu x
  exact ⟨fun h => combW_mem.1 (.inr (this.1 h)), fun h => combW_mem.2 (.inr (this.2 h))⟩
theorem walk_var {t : Ty} (h : t.kind = 7) : t.var ∈ (walkT t ([], [])).1 := by
  rw [walkT_eq t, walkTs_comb, if_pos h]
  refine combW_mem.1 (.inl ?_)
  show t.var ∈ withI [] t.var
  unfold withI; simp
theorem walk_row {t : Ty} (h : t.kind = 5) (h0 : 0 < t.rv) (ha : t.args ≠ []) : t.rv ∈ (walkT t ([], [])).2 := by
  rw [walkT_eq t, if_neg (by omega)]
  cases hl : t.args with
  | nil => exact absurd hl ha
  | cons x l =>
    rw [walkTs_cons, if_pos ⟨rfl, h, h0⟩, walkTs_comb]
    refine combW_mem.2 (.inl ?_)
    dsimp only; unfold withI; split
    · rename_i hc; simpa using hc
    · simp
theorem right_fun_row {t : Ty} (h : rightT t = true) (h5 : t.kind = 5) : rowOk t.labels t.rv = true ∧ t.args ≠ [] := by
  rw [rightR_eq, hdT5 h5] at h
  simp only [Bool.and_eq_true, decide_eq_true_eq] at h
  exact ⟨h.1.1.1.2, fun e => by rw [e] at h; simp at h⟩
theorem right_arg {t u : Ty} (h : rightT t = true) (hu : u ∈ t.args) : rightT u = true := by
  rw [rightR_eq, Bool.and_eq_true] at h
  have key : ∀ l : List Ty, rightTs l = true → ∀ u ∈ l, rightT u = true := by
    intro l
    induction l with
    | nil => intro _ u hu; cases hu
    | cons x l ih =>
      intro hl u hu
      rw [rightTs, Bool.and_eq_true] at hl
      rcases List.mem_cons.1 hu with rfl | hu
      · exact hl.1
      · exact ih hl.2 u hu
  exact key _ h.2 u hu
theorem apply_closed (s : Sub) (t : Ty) : rightT t = true → (∀ v ∈ (walkT t ([], [])).1, alook v s.ts = none) → (∀ v ∈ (walkT t ([], [])).2, alook v s.rs = none) → applyT s t = t := by
  induction t using Ty.rec_ with
  | h t ih =>
    intro hr h1 h2
    by_cases h7 : t.kind = 7
    · rw [applyT_var h7, h1 _ (walk_var h7)]; rfl
    · rw [applyT_not h7]
      have hk : applyTs s t.args = t.args := by
        have key : ∀ l : List Ty, (∀ u ∈ l, u ∈ t.args) → applyTs s l = l := by
          intro l
          induction l with
          | nil => intro _; rfl
          | cons x l ihl =>
            intro hl
            have hx := hl x (.head _)
            rw [applyTs, ih x hx (right_arg hr hx) (fun v hv => h1 v ((walk_arg hx v).1 hv)) (fun v hv => h2 v ((walk_arg hx v).2 hv)), ihl fun u hu => hl u (.tail _ hu)]
        exact key _ fun u hu => hu
      rw [hk]
      by_cases h5 : t.kind = 5
      · obtain ⟨hro, hne⟩ := right_fun_row hr h5
        obtain ⟨hs, h0⟩ := rowOk_sort hro
        have e : applyR s ⟨t.labels, t.rv⟩ = ⟨t.labels, t.rv⟩ := by
          rw [applyR_out]
          · dsimp only; rw [hs]
          · by_cases hz : t.rv = 0
            · exact .inr hz
            · left; dsimp only; rw [h2 _ (walk_row h5 (by omega) hne)]; rfl
        rw [if_pos h5, if_pos h5, e]; exact (Ty.eta t).symm
      · rw [if_neg h5, if_neg h5]; exact (Ty.eta t).symm

/-- Of all variables of types P, of all of rows Q. -/
inductive AllV (P Q : Int → Prop) : Ty → Prop where
  | mk {t : Ty} (h1 : t.kind = 7 → P t.var) (h2 : t.kind = 5 → 0 < t.rv → Q t.rv) (h3 : ∀ u ∈ t.args, AllV P Q u) : AllV P Q t
theorem AllV.here {P Q : Int → Prop} {t : Ty} (h : AllV P Q t) : (t.kind = 7 → P t.var) ∧ (t.kind = 5 → 0 < t.rv → Q t.rv) ∧ ∀ u ∈ t.args, AllV P Q u := by cases h with | mk h1 h2 h3 => exact ⟨h1, h2, h3⟩
theorem AllV.mono {P Q P' Q' : Int → Prop} (hp : ∀ x, P x → P' x) (hq : ∀ x, Q x → Q' x) (t : Ty) : AllV P Q t → AllV P' Q' t := by
  induction t using Ty.rec_ with
  | h t ih =>
    intro h
    obtain ⟨h1, h2, h3⟩ := h.here
    exact .mk (fun e => hp _ (h1 e)) (fun e f => hq _ (h2 e f)) fun u hu => ih u hu (h3 u hu)
theorem withI_all {P : Int → Prop} {l : List Int} {n : Int} (h : ∀ x ∈ l, P x) (hn : P n) : ∀ x ∈ withI l n, P x := fun x hx => by
  unfold withI at hx; split at hx
  · exact h x hx
  · rcases List.mem_append.1 hx with hx | hx
    · exact h x hx
    · rw [List.mem_singleton] at hx; subst hx; exact hn
theorem withI_nodup {l : List Int} {n : Int} (h : l.Nodup) : (withI l n).Nodup := by
  unfold withI; split
  · exact h
  · rename_i hn
    refine List.nodup_append.2 ⟨h, by simp, fun a ha b hb e => ?_⟩
    rw [List.mem_singleton] at hb; subst hb; subst e
    exact hn (by simpa using ha)
theorem walk_allV {P Q : Int → Prop} (t : Ty) : AllV P Q t → ∀ s : List Int × List Int, (∀ x ∈ s.1, P x) ∧ (∀ x ∈ s.2, Q x) → (∀ x ∈ (walkT t s).1, P x) ∧ (∀ x ∈ (walkT t s).2, Q x) := by
  induction t using Ty.rec_ with
  | h t ih =>
    intro h s hs
    obtain ⟨h1, h2, h3⟩ := h.here
    have key : ∀ (l : List Ty), (∀ u ∈ l, u ∈ t.args) → ∀ (i : Nat) (s : List Int × List Int), (∀ x ∈ s.1, P x) ∧ (∀ x ∈ s.2, Q x) → (∀ x ∈ (walkTs t.kind t.rv i l s).1, P x) ∧ (∀ x ∈ (walkTs t.kind t.rv i l s).2, Q x) := by
      intro l
      induction l with
      | nil => intro _ i s hs; rw [walkTs]; exact hs
      | cons x l ihl =>
        intro hl i s hs
        rw [walkTs_cons]
        have hx := ih x (hl x (.head _)) (h3 x (hl x (.head _))) s hs
        refine ihl (fun u hu => hl u (.tail _ hu)) (i + 1) _ ?_
        split
        · rename_i hc; exact ⟨hx.1, withI_all hx.2 (h2 hc.2.1 hc.2.2)⟩
        · exact hx
    rw [walkT_eq]
    refine key t.args (fun u hu => hu) 0 _ ?_
    split
    · rename_i h7; exact ⟨withI_all hs.1 (h1 h7), hs.2⟩
    · exact hs
theorem walk_nodup (t : Ty) : ∀ s : List Int × List Int, s.1.Nodup ∧ s.2.Nodup → (walkT t s).1.Nodup ∧ (walkT t s).2.Nodup := by
  induction t using Ty.rec_ with
  | h t ih =>
    intro s hs
    have key : ∀ (l : List Ty), (∀ u ∈ l, u ∈ t.args) → ∀ (i : Nat) (s : List Int × List Int), s.1.Nodup ∧ s.2.Nodup → (walkTs t.kind t.rv i l s).1.Nodup ∧ (walkTs t.kind t.rv i l s).2.Nodup := by
      intro l
      induction l with
      | nil => intro _ i s hs; rw [walkTs]; exact hs
      | cons x l ihl =>
        intro hl i s hs
        rw [walkTs_cons]
        have hx := ih x (hl x (.head _)) s hs
        refine ihl (fun u hu => hl u (.tail _ hu)) (i + 1) _ ?_
        split
        · exact ⟨hx.1, withI_nodup hx.2⟩
        · exact hx
    rw [walkT_eq]
    refine key t.args (fun u hu => hu) 0 _ ?_
    split
    · exact ⟨withI_nodup hs.1, hs.2⟩
    · exact hs
theorem vars_nodup (t : Ty) : (varsT t).1.Nodup ∧ (varsT t).2.Nodup := walk_nodup t _ ⟨List.nodup_nil, List.nodup_nil⟩
theorem allV_vars (t : Ty) : rightT t = true → AllV (· ∈ (varsT t).1) (· ∈ (varsT t).2) t := by
  induction t using Ty.rec_ with
  | h t ih =>
    intro hr
    refine .mk (fun h => walk_var h) (fun h h0 => walk_row h h0 (right_fun_row hr h).2) fun u hu => ?_
    exact (ih u hu (right_arg hr hu)).mono (fun x hx => (walk_arg hu x).1 hx) (fun x hx => (walk_arg hu x).2 hx)

theorem sortS_ok {ls : List Str} (h : ([] : Str) ∉ ls) (rv : Int) (h0 : 0 ≤ rv) : rowOk (sortS ls) rv = true := by
  unfold rowOk
  rw [sortS_sorted, decide_eq_true h0]
  simpa [sortS_mem] using h
theorem rowOk_no {ls : List Str} {rv : Int} (h : rowOk ls rv = true) : ([] : Str) ∉ ls := by
  unfold rowOk at h
  simp only [Bool.and_eq_true, Bool.not_eq_true'] at h
  intro hm; rw [List.contains_iff_mem.2 hm] at h; exact absurd h.2 (by simp)
theorem applyR_ok {s : Sub} {r : Rw} (h : rowOk r.labels r.var = true) (hs : ∀ n x, alook n s.rs = some x → rowOk x.labels x.var = true) : rowOk (applyR s r).labels (applyR s r).var = true := by
  have h0 := (rowOk_sort h).2
  unfold applyR
  cases hq : alook r.var s.rs with
  | none => exact sortS_ok (rowOk_no h) _ h0
  | some x =>
    have hx := hs _ _ hq
    dsimp only; split
    · exact sortS_ok (rowOk_no h) _ h0
    · refine sortS_ok (fun hm => ?_) _ (rowOk_sort hx).2
      rcases List.mem_append.1 hm with hm | hm
      · exact rowOk_no h hm
      · exact rowOk_no hx hm
theorem right_apply {s : Sub} (hT : ∀ n x, alook n s.ts = some x → rightT x = true) (hR : ∀ n x, alook n s.rs = some x → rowOk x.labels x.var = true) (t : Ty) : rightT t = true → rightT (applyT s t) = true := by
  induction t using Ty.rec_ with
  | h t ih =>
    intro hr
    by_cases h7 : t.kind = 7
    · rw [applyT_var h7]
      cases hq : alook t.var s.ts with
      | none => exact hr
      | some x => exact hT _ _ hq
    · have hk : ∀ l : List Ty, (∀ u ∈ l, u ∈ t.args) → rightTs (applyTs s l) = true := by
        intro l
        induction l with
        | nil => intro _; rfl
        | cons x l ihl =>
          intro hl
          rw [applyTs, rightTs, ih x (hl x (.head _)) (right_arg hr (hl x (.head _))), ihl fun u hu => hl u (.tail _ hu)]; rfl
      have hk := hk t.args fun u hu => hu
      have hh := hr
      rw [rightR_eq, Bool.and_eq_true] at hh
      rw [rightR_eq, applyT_not h7, Bool.and_eq_true]
      refine ⟨?_, hk⟩
      by_cases h5 : t.kind = 5
      · have hro := (right_fun_row hr h5).1
        have h1 := hh.1
        rw [hdT5 h5] at h1
        rw [hdT5 (by exact h5)]
        simp only [Bool.and_eq_true, decide_eq_true_eq] at h1 ⊢
        refine ⟨⟨⟨?_, ?_⟩, h1.1.2⟩, h1.2⟩
        · show ((applyTs s t.args).length : Int) = 2; rw [applyTs_len]; exact h1.1.1.1
        · show rowOk (if t.kind = 5 then _ else _) (if t.kind = 5 then _ else _) = true
          rw [if_pos h5, if_pos h5]; exact applyR_ok hro hR
      · have : hdT ⟨t.kind, t.name, t.var, applyTs s t.args, if t.kind = 5 then (applyR s ⟨t.labels, t.rv⟩).labels else t.labels, if t.kind = 5 then (applyR s ⟨t.labels, t.rv⟩).var else t.rv⟩ = hdT t := by
          rw [if_neg h5, if_neg h5]
          unfold hdT bareT
          simp only [Ty.kind, Ty.name, Ty.var, Ty.args, Ty.labels, Ty.rv, applyTs_len]
          rfl
        rw [this]; exact hh.1

theorem sort_app {a b c : List Str} (h : a.Perm b) : sortS (a ++ c) = sortS (b ++ c) := sortS_of_perm (h.append_right c)
theorem sort_idem (a : List Str) : sortS (sortS a) = sortS a := sortS_of_perm (sortS_perm a)
theorem sort_app2 {a b c : List Str} (h : b.Perm c) : sortS (a ++ b) = sortS (a ++ c) := sortS_of_perm (h.append_left a)
theorem applyR_cat (b : Sub) (l : List Str) (x : Rw) : (⟨sortS (l ++ (applyR b x).labels), (applyR b x).var⟩ : Rw) = applyR b ⟨sortS (l ++ x.labels), x.var⟩ := by
  unfold applyR
  cases h : alook x.var b.rs with
  | none => dsimp only; rw [sort_idem, sort_app2 (sortS_perm _)]
  | some z =>
    dsimp only
    split
    · dsimp only; rw [sort_idem, sort_app2 (sortS_perm _)]
    · dsimp only; rw [sort_app2 (sortS_perm _), ← List.append_assoc, sort_app (sortS_perm _)]
theorem applyR_then {a b o : Sub} (h : ThenS a b o) (r : Rw) : applyR o r = applyR b (applyR a r) := by
  have hk := h.2 r.var
  cases ha : alook r.var a.rs with
  | none =>
    rw [ha] at hk; simp at hk
    have e : applyR a r = ⟨sortS r.labels, r.var⟩ := by unfold applyR; rw [ha]
    rw [e]; unfold applyR; dsimp only; rw [hk]
    cases alook r.var b.rs with
    | none => dsimp only; rw [sort_idem]
    | some x =>
      dsimp only; split
      · rw [sort_idem]
      · rw [sort_app (sortS_perm _)]
  | some x =>
    rw [ha] at hk; simp at hk
    by_cases h0 : r.var = 0
    · rw [applyR_out (.inr h0), applyR_out (s := a) (.inr h0), applyR_out (s := b) (r := ⟨sortS r.labels, r.var⟩) (.inr h0)]; dsimp only; rw [sort_idem]
    · have e1 : applyR o r = ⟨sortS (r.labels ++ (applyR b x).labels), (applyR b x).var⟩ := by unfold applyR; rw [hk]; dsimp only; rw [if_neg h0]; rfl
      have e2 : applyR a r = ⟨sortS (r.labels ++ x.labels), x.var⟩ := by unfold applyR; rw [ha]; dsimp only; rw [if_neg h0]
      rw [e1, e2, applyR_cat]
theorem applyT_then {a b o : Sub} (h : ThenS a b o) (t : Ty) : applyT o t = applyT b (applyT a t) := by
  induction t using Ty.rec_ with
  | h t ih =>
    by_cases h7 : t.kind = 7
    · rw [applyT_var h7, applyT_var (s := a) h7, h.1 t.var]
      cases ha : alook t.var a.ts with
      | none => simp only [Option.map_none, Option.none_or, Option.getD_none]; rw [applyT_var h7]
      | some x => rfl
    · have key : ∀ l : List Ty, (∀ u ∈ l, u ∈ t.args) → applyTs o l = applyTs b (applyTs a l) := by
        intro l
        induction l with
        | nil => intro _; rfl
        | cons x l ihl => intro hl; rw [applyTs, applyTs, applyTs, ih x (hl x (.head _)), ihl fun u hu => hl u (.tail _ hu)]
      have hr := applyR_then h ⟨t.labels, t.rv⟩
      have hk := key t.args fun u hu => hu
      rw [applyT_not h7, applyT_not (s := a) h7, applyT_not (s := b) (t := ⟨t.kind, t.name, t.var, _, _, _⟩) h7]
      show (⟨t.kind, t.name, t.var, applyTs o t.args, if t.kind = 5 then (applyR o ⟨t.labels, t.rv⟩).labels else t.labels, if t.kind = 5 then (applyR o ⟨t.labels, t.rv⟩).var else t.rv⟩ : Ty) = ⟨t.kind, t.name, t.var, applyTs b (applyTs a t.args), if t.kind = 5 then (applyR b ⟨if t.kind = 5 then (applyR a ⟨t.labels, t.rv⟩).labels else t.labels, if t.kind = 5 then (applyR a ⟨t.labels, t.rv⟩).var else t.rv⟩).labels else (if t.kind = 5 then (applyR a ⟨t.labels, t.rv⟩).labels else t.labels), if t.kind = 5 then (applyR b ⟨if t.kind = 5 then (applyR a ⟨t.labels, t.rv⟩).labels else t.labels, if t.kind = 5 then (applyR a ⟨t.labels, t.rv⟩).var else t.rv⟩).var else (if t.kind = 5 then (applyR a ⟨t.labels, t.rv⟩).var else t.rv)⟩
      rw [hk]
      by_cases h5 : t.kind = 5
      · simp only [if_pos h5]; rw [hr]
      · simp only [if_neg h5]

-- labels as they are counted
theorem count_more (x : Str) : ∀ a l : List Str, (moreS a l).count x = a.count x - l.count x
  | [], l => by simp [moreS]
  | s :: a, l => by
    by_cases h : s ∈ l
    · rw [moreS_in h, count_more x a, List.count_erase, List.count_cons]
      by_cases e : s = x
      · subst e
        have : 0 < l.count s := List.count_pos_iff.2 h
        simp; omega
      · simp [e]
    · rw [moreS_out h, List.count_cons, List.count_cons, count_more x a]
      by_cases e : s = x
      · subst e
        have : l.count s = 0 := List.count_eq_zero.2 h
        simp; omega
      · simp [e]
theorem sort_iff {l k : List Str} : sortS l = sortS k ↔ ∀ x, l.count x = k.count x := by
  rw [← List.perm_iff_count]
  exact ⟨fun h => (sortS_perm l).symm.trans (h ▸ sortS_perm k), sortS_of_perm⟩
theorem count_sort (l : List Str) (x : Str) : (sortS l).count x = l.count x := (sortS_perm l).count_eq x
/-- What is said of a row variable. -/
def Rv (s : Sub) (v : Int) : Rw := if v = 0 then ⟨[], 0⟩ else (alook v s.rs).getD ⟨[], v⟩
theorem applyR_eq (s : Sub) (r : Rw) : applyR s r = ⟨sortS (r.labels ++ (Rv s r.var).labels), (Rv s r.var).var⟩ := by
  unfold applyR Rv
  cases h : alook r.var s.rs with
  | none => by_cases h0 : r.var = 0 <;> simp [h0]
  | some x => by_cases h0 : r.var = 0 <;> simp [h0]
theorem row_iff {s t : Sub} {a b : Rw} : applyR s a = applyR t b ↔ (∀ x, a.labels.count x + (Rv s a.var).labels.count x = b.labels.count x + (Rv t b.var).labels.count x) ∧ (Rv s a.var).var = (Rv t b.var).var := by
  rw [applyR_eq, applyR_eq, Rw.mk.injEq, sort_iff]
  simp only [List.count_append]
theorem Rv_zero (s : Sub) : Rv s 0 = ⟨[], 0⟩ := by unfold Rv; rw [if_pos rfl]
theorem Rv_none {s : Sub} {v : Int} (h : alook v s.rs = none) : Rv s v = ⟨[], v⟩ := by
  unfold Rv; split
  · rename_i h0; rw [h0]
  · rw [h]; rfl
theorem Rv_some {s : Sub} {v : Int} {r : Rw} (h : alook v s.rs = some r) (h0 : v ≠ 0) : Rv s v = r := by unfold Rv; rw [if_neg h0, h]; rfl
theorem Rv_count {s : Sub} {v : Int} (a : Rw) (h : a = applyR s ⟨[], v⟩) : (∀ x, a.labels.count x = (Rv s v).labels.count x) ∧ a.var = (Rv s v).var := by
  subst h; rw [applyR_eq]; exact ⟨fun x => by rw [count_sort]; simp, rfl⟩
/-- What a says is absorbed by t. -/
structure Abs (t a : Sub) : Prop where
  ts : ∀ n x, alook n a.ts = some x → applyT t x = applyT t (varT n)
  rs : ∀ n r, alook n a.rs = some r → n ≠ 0 → applyR t r = applyR t ⟨[], n⟩
theorem right_var {t : Ty} (h : rightT t = true) (h7 : t.kind = 7) : t = varT t.var := by
  rw [rightR_eq, hdT7 h7] at h
  simp only [Bool.and_eq_true, decide_eq_true_eq, bareT] at h
  obtain ⟨⟨⟨⟨h1, h2, h3⟩, h4⟩, _⟩, _⟩ := h
  obtain ⟨k, nm, v, ks, ls, rv⟩ := t
  simp only [Ty.kind, Ty.name, Ty.var, Ty.args, Ty.labels, Ty.rv] at *
  have e1 : ks = [] := List.eq_nil_of_length_eq_zero (by omega)
  have e2 : ls = [] := List.eq_nil_of_length_eq_zero (by omega)
  subst e1; subst e2; subst h7; subst h3; subst h4; rfl
theorem abs_row {t a : Sub} (h : Abs t a) (r : Rw) : applyR t (applyR a r) = applyR t r := by
  rw [applyR_eq a r, row_iff]
  simp only [count_sort, List.count_append]
  by_cases h0 : r.var = 0
  · rw [h0, Rv_zero]; simp
  · cases hl : alook r.var a.rs with
    | none => rw [Rv_none hl]; simp
    | some x =>
      rw [Rv_some hl h0]
      obtain ⟨h1, h2⟩ := row_iff.1 (h.rs _ _ hl h0)
      refine ⟨fun y => ?_, h2⟩
      have := h1 y
      simp only [List.count_nil, Nat.zero_add] at this
      omega
theorem abs_type {t a : Sub} (h : Abs t a) (x : Ty) : rightT x = true → applyT t (applyT a x) = applyT t x := by
  induction x using Ty.rec_ with
  | h x ih =>
    intro hr
    by_cases h7 : x.kind = 7
    · rw [applyT_var (s := a) h7]
      cases hl : alook x.var a.ts with
      | none => rfl
      | some y =>
        show applyT t y = _
        rw [h.ts _ _ hl]; rw [← right_var hr h7]
    · have key : ∀ l : List Ty, (∀ u ∈ l, u ∈ x.args) → applyTs t (applyTs a l) = applyTs t l := by
        intro l
        induction l with
        | nil => intro _; rfl
        | cons u l ihl =>
          intro hl
          rw [applyTs, applyTs, applyTs, ih u (hl u (.head _)) (right_arg hr (hl u (.head _))), ihl fun v hv => hl v (.tail _ hv)]
      rw [applyT_not (s := a) h7, applyT_not (s := t) (t := ⟨x.kind, x.name, x.var, _, _, _⟩) h7, applyT_not (s := t) (t := x) h7]
      have hk := key x.args fun u hu => hu
      have hw := abs_row h ⟨x.labels, x.rv⟩
      show (⟨x.kind, x.name, x.var, applyTs t (applyTs a x.args), if x.kind = 5 then (applyR t ⟨if x.kind = 5 then (applyR a ⟨x.labels, x.rv⟩).labels else x.labels, if x.kind = 5 then (applyR a ⟨x.labels, x.rv⟩).var else x.rv⟩).labels else (if x.kind = 5 then (applyR a ⟨x.labels, x.rv⟩).labels else x.labels), if x.kind = 5 then (applyR t ⟨if x.kind = 5 then (applyR a ⟨x.labels, x.rv⟩).labels else x.labels, if x.kind = 5 then (applyR a ⟨x.labels, x.rv⟩).var else x.rv⟩).var else (if x.kind = 5 then (applyR a ⟨x.labels, x.rv⟩).var else x.rv)⟩ : Ty) = _
      rw [hk]
      by_cases h5 : x.kind = 5
      · simp only [if_pos h5]; rw [show (⟨(applyR a ⟨x.labels, x.rv⟩).labels, (applyR a ⟨x.labels, x.rv⟩).var⟩ : Rw) = applyR a ⟨x.labels, x.rv⟩ from rfl, hw]
      · simp only [if_neg h5]
theorem varT_right {m : Int} (h : 1 ≤ m) : rightT (varT m) = true := by rw [rightR_eq, hdT7 rfl, show (varT m).var = m from rfl, decide_eq_true h]; rfl
/-- What is said is right. -/
structure SubOk (s : Sub) : Prop where
  ts : ∀ n t, alook n s.ts = some t → 1 ≤ n ∧ rightT t = true
  rs : ∀ n r, alook n s.rs = some r → 1 ≤ n ∧ rowOk r.labels r.var = true
theorem Abs.trans {t b a : Sub} (h : Abs t b) (k : Abs b a) (ha : SubOk a) : Abs t a := ⟨fun n x e => by
    have h1 := ha.ts _ _ e
    rw [← abs_type h x h1.2, k.ts _ _ e, abs_type h _ (varT_right h1.1)], fun n r e h0 => by
    rw [← abs_row h r, k.rs _ _ e h0, abs_row h]⟩
theorem abs_then {u one v : Sub} (h : ThenS u one v) (hu : Abs u u) : Abs v u := ⟨fun n x e => by
    rw [applyT_then h, applyT_then h, hu.ts _ _ e], fun n r e h0 => by rw [applyR_then h, applyR_then h, hu.rs _ _ e h0]⟩
theorem abs_none (t : Sub) : Abs t noneS := ⟨fun n x e => (by cases e), fun n r e => (by cases e)⟩

end Go.Proofs.YtlidonjpgigocaaGreat
