/-
  Package scheme: the matcher goes through types. Conditions: those of each theorem.
-/
import Derived.Test.YtmpponcnohakdaaShown8
namespace Go.Proofs.Ytmpponcnohakdaa
set_option linter.all false
set_option maxRecDepth 4000
open Go.RowKit
abbrev varsT (t : Ty) : List Int × List Int := walkT t ([], [])
/-- Of all variables of types P, of all of rows Q. -/
inductive AllV (P Q : Int → Prop) : Ty → Prop where
  | mk {t : Ty} (h1 : t.kind = 7 → P t.var) (h2 : t.kind = 5 → 0 < t.rv → Q t.rv) (h3 : ∀ u ∈ t.args, AllV P Q u) : AllV P Q t
theorem AllV.here {P Q : Int → Prop} {t : Ty} (h : AllV P Q t) : (t.kind = 7 → P t.var) ∧ (t.kind = 5 → 0 < t.rv → Q t.rv) ∧ ∀ u ∈ t.args, AllV P Q u := by cases h with | mk h1 h2 h3 => exact ⟨h1, h2, h3⟩
theorem AllV.mono {P Q P' Q' : Int → Prop} (hp : ∀ x, P x → P' x) (hq : ∀ x, Q x → Q' x) (t : Ty) : AllV P Q t → AllV P' Q' t := by
  induction t using Ty.rec_ with
  | h t ih =>
    intro h
    obtain ⟨h1, h2, h3⟩ := h.here
    exact .mk (fun e => hp _ (h1 e)) (fun e f => hq _ (h2 e f)) fun u hu => ih u hu (h3 u hu)
theorem withI_all {P : Int → Prop} {l : List Int} {n : Int} (h : ∀ x ∈ l, P x) (hn : P n) : ∀ x ∈ withI l n, P x := fun x hx => by
  unfold withI at hx; split at hx
  · exact h x hx
  · rcases List.mem_append.1 hx with hx | hx
    · exact h x hx
    · rw [List.mem_singleton] at hx; subst hx; exact hn
theorem withI_nodup {l : List Int} {n : Int} (h : l.Nodup) : (withI l n).Nodup := by
  unfold withI; split
  · exact h
  · rename_i hn
    refine List.nodup_append.2 ⟨h, by simp, fun a ha b hb e => ?_⟩
    rw [List.mem_singleton] at hb; subst hb; subst e
    exact hn (by simpa using ha)
theorem walk_allV {P Q : Int → Prop} (t : Ty) : AllV P Q t → ∀ s : List Int × List Int, (∀ x ∈ s.1, P x) ∧ (∀ x ∈ s.2, Q x) → (∀ x ∈ (walkT t s).1, P x) ∧ (∀ x ∈ (walkT t s).2, Q x) := by
  induction t using Ty.rec_ with
  | h t ih =>
    intro h s hs
    obtain ⟨h1, h2, h3⟩ := h.here
    have key : ∀ (l : List Ty), (∀ u ∈ l, u ∈ t.args) → ∀ (i : Nat) (s : List Int × List Int), (∀ x ∈ s.1, P x) ∧ (∀ x ∈ s.2, Q x) → (∀ x ∈ (walkTs t.kind t.rv i l s).1, P x) ∧ (∀ x ∈ (walkTs t.kind t.rv i l s).2, Q x) := by
      intro l
      induction l with
      | nil => intro _ i s hs; rw [walkTs]; exact hs
      | cons x l ihl =>
        intro hl i s hs
        rw [walkTs_cons]
        have hx := ih x (hl x (.head _)) (h3 x (hl x (.head _))) s hs
        refine ihl (fun u hu => hl u (.tail _ hu)) (i + 1) _ ?_
        split
        · rename_i hc; exact ⟨hx.1, withI_all hx.2 (h2 hc.2.1 hc.2.2)⟩
        · exact hx
    rw [walkT_eq]
    refine key t.args (fun u hu => hu) 0 _ ?_
    split
    · rename_i h7; exact ⟨withI_all hs.1 (h1 h7), hs.2⟩
    · exact hs
theorem walk_nodup (t : Ty) : ∀ s : List Int × List Int, s.1.Nodup ∧ s.2.Nodup → (walkT t s).1.Nodup ∧ (walkT t s).2.Nodup := by
  induction t using Ty.rec_ with
  | h t ih =>
    intro s hs
    have key : ∀ (l : List Ty), (∀ u ∈ l, u ∈ t.args) → ∀ (i : Nat) (s : List Int × List Int), s.1.Nodup ∧ s.2.Nodup → (walkTs t.kind t.rv i l s).1.Nodup ∧ (walkTs t.kind t.rv i l s).2.Nodup := by
      intro l
      induction l with
      | nil => intro _ i s hs; rw [walkTs]; exact hs
      | cons x l ihl =>
        intro hl i s hs
        rw [walkTs_cons]
        have hx := ih x (hl x (.head _)) s hs
        refine ihl (fun u hu => hl u (.tail _ hu)) (i + 1) _ ?_
        split
        · exact ⟨hx.1, withI_nodup hx.2⟩
        · exact hx
    rw [walkT_eq]
    refine key t.args (fun u hu => hu) 0 _ ?_
    split
    · exact ⟨withI_nodup hs.1, hs.2⟩
    · exact hs
theorem vars_nodup (t : Ty) : (varsT t).1.Nodup ∧ (varsT t).2.Nodup := walk_nodup t _ ⟨List.nodup_nil, List.nodup_nil⟩
theorem allV_vars (t : Ty) : rightT t = true → AllV (· ∈ (varsT t).1) (· ∈ (varsT t).2) t := by
  induction t using Ty.rec_ with
  | h t ih =>
    intro hr
    refine .mk (fun h => walk_var h) (fun h h0 => walk_row h h0 (right_fun_row hr h).2) fun u hu => ?_
    exact (ih u hu (right_arg hr hu)).mono (fun x hx => (walk_arg hu x).1 hx) (fun x hx => (walk_arg hu x).2 hx)
-- fresh variables
theorem freshT_rs : ∀ (l : List Int) (k : Int) (s : Sub), (freshT l k s).rs = s.rs
  | [], _, _ => rfl
  | n :: l, k, s => by rw [freshT, freshT_rs]
theorem freshR_ts : ∀ (l : List Int) (k : Int) (s : Sub), (freshR l k s).ts = s.ts
  | [], _, _ => rfl
  | n :: l, k, s => by rw [freshR, freshR_ts]
theorem freshT_look (n : Int) : ∀ (l : List Int) (k : Int) (s : Sub), l.Nodup → alook n (freshT l k s).ts = if n ∈ l then some (varT (k + (l.idxOf n : Int))) else alook n s.ts
  | [], k, s, _ => by simp [freshT]
  | m :: l, k, s, h => by
    obtain ⟨hm, hl⟩ := List.nodup_cons.1 h
    rw [freshT, freshT_look n l (k + 1) _ hl]
    by_cases e : n = m
    · subst e
      rw [if_neg hm, if_pos (.head _)]; dsimp only
      rw [alook_same, List.idxOf_cons_self]; simp
    · by_cases hn : n ∈ l
      · rw [if_pos hn, if_pos (.tail _ hn), List.idxOf_cons, show (m == n) = false from beq_eq_false_iff_ne.2 (Ne.symm e), cond_false]
        congr 2; push_cast; omega
      · rw [if_neg hn, if_neg (by simp [e, hn])]; dsimp only
        rw [alook_other _ _ (Ne.symm e)]
theorem freshR_look (n : Int) : ∀ (l : List Int) (k : Int) (s : Sub), l.Nodup → alook n (freshR l k s).rs = if n ∈ l then some ⟨[], k + (l.idxOf n : Int)⟩ else alook n s.rs
  | [], k, s, _ => by simp [freshR]
  | m :: l, k, s, h => by
    obtain ⟨hm, hl⟩ := List.nodup_cons.1 h
    rw [freshR, freshR_look n l (k + 1) _ hl]
    by_cases e : n = m
    · subst e
      rw [if_neg hm, if_pos (.head _)]; dsimp only
      rw [alook_same, List.idxOf_cons_self]; simp
    · by_cases hn : n ∈ l
      · rw [if_pos hn, if_pos (.tail _ hn), List.idxOf_cons, show (m == n) = false from beq_eq_false_iff_ne.2 (Ne.symm e), cond_false]
        congr 2; push_cast; omega
      · rw [if_neg hn, if_neg (by simp [e, hn])]; dsimp only
        rw [alook_other _ _ (Ne.symm e)]
theorem freshS_ts {s : Sch} (h : s.ts.Nodup) (k n : Int) : alook n (freshS s k).ts = if n ∈ s.ts then some (varT (k + (s.ts.idxOf n : Int))) else none := by
  unfold freshS; rw [freshR_ts, freshT_look n _ _ _ h]; rfl
theorem freshS_rs {s : Sch} (h : s.rs.Nodup) (k n : Int) : alook n (freshS s k).rs = if n ∈ s.rs then some ⟨[], k + (s.ts.length : Int) + (s.rs.idxOf n : Int)⟩ else none := by
  unfold freshS; rw [freshR_look n _ _ _ h, freshT_rs]; rfl
-- what stays right
theorem sortS_ok {ls : List Str} (h : ([] : Str) ∉ ls) (rv : Int) (h0 : 0 ≤ rv) : rowOk (sortS ls) rv = true := by
  unfold rowOk
  rw [sortS_sorted, decide_eq_true h0]
  simpa [sortS_mem] using h
theorem rowOk_no {ls : List Str} {rv : Int} (h : rowOk ls rv = true) : ([] : Str) ∉ ls := by
  unfold rowOk at h
  simp only [Bool.and_eq_true, Bool.not_eq_true'] at h
  intro hm; rw [List.contains_iff_mem.2 hm] at h; exact absurd h.2 (by simp)
theorem applyR_ok {s : Sub} {r : Rw} (h : rowOk r.labels r.var = true) (hs : ∀ n x, alook n s.rs = some x → rowOk x.labels x.var = true) : rowOk (applyR s r).labels (applyR s r).var = true := by
  have h0 := (rowOk_sort h).2
  unfold applyR
  cases hq : alook r.var s.rs with
  | none => exact sortS_ok (rowOk_no h) _ h0
  | some x =>
    have hx := hs _ _ hq
    dsimp only; split
    · exact sortS_ok (rowOk_no h) _ h0
    · refine sortS_ok (fun hm => ?_) _ (rowOk_sort hx).2
      rcases List.mem_append.1 hm with hm | hm
      · exact rowOk_no h hm
      · exact rowOk_no hx hm
theorem right_apply {s : Sub} (hT : ∀ n x, alook n s.ts = some x → rightT x = true) (hR : ∀ n x, alook n s.rs = some x → rowOk x.labels x.var = true) (t : Ty) : rightT t = true → rightT (applyT s t) = true := by
  induction t using Ty.rec_ with
  | h t ih =>
    intro hr
    by_cases h7 : t.kind = 7
    · rw [applyT_var h7]
      cases hq : alook t.var s.ts with
      | none => exact hr
      | some x => exact hT _ _ hq
    · have hk : ∀ l : List Ty, (∀ u ∈ l, u ∈ t.args) → rightTs (applyTs s l) = true := by
        intro l
        induction l with
        | nil => intro _; rfl
        | cons x l ihl =>
          intro hl
          rw [applyTs, rightTs, ih x (hl x (.head _)) (right_arg hr (hl x (.head _))), ihl fun u hu => hl u (.tail _ hu)]; rfl
      have hk := hk t.args fun u hu => hu
      have hh := hr
      rw [rightR_eq, Bool.and_eq_true] at hh
      rw [rightR_eq, applyT_not h7, Bool.and_eq_true]
      refine ⟨?_, hk⟩
      by_cases h5 : t.kind = 5
      · have hro := (right_fun_row hr h5).1
        have h1 := hh.1
        rw [hdT5 h5] at h1
        rw [hdT5 (by exact h5)]
        simp only [Bool.and_eq_true, decide_eq_true_eq] at h1 ⊢
        refine ⟨⟨⟨?_, ?_⟩, h1.1.2⟩, h1.2⟩
        · show ((applyTs s t.args).length : Int) = 2; rw [applyTs_len]; exact h1.1.1.1
        · show rowOk (if t.kind = 5 then _ else _) (if t.kind = 5 then _ else _) = true
          rw [if_pos h5, if_pos h5]; exact applyR_ok hro hR
      · have : hdT ⟨t.kind, t.name, t.var, applyTs s t.args, if t.kind = 5 then (applyR s ⟨t.labels, t.rv⟩).labels else t.labels, if t.kind = 5 then (applyR s ⟨t.labels, t.rv⟩).var else t.rv⟩ = hdT t := by
          rw [if_neg h5, if_neg h5]
          unfold hdT bareT
          simp only [Ty.kind, Ty.name, Ty.var, Ty.args, Ty.labels, Ty.rv, applyTs_len]
          rfl
        rw [this]; exact hh.1

end Go.Proofs.Ytmpponcnohakdaa
