/-
  What has nothing said in it stays. Conditions: those of each theorem.
-/
import Derived.Test.YtfphefkfbhjfdaaPlain5
namespace Go.Proofs.Ytfphefkfbhjfdaa
set_option linter.all false
set_option maxRecDepth 4000
open Go.RowKit
theorem foldW_mem : ∀ (k l : List Int) (x : Int), x ∈ l ∨ x ∈ k → x ∈ k.foldl withI l
  | [], l, x, h => by simpa using h
  | y :: k, l, x, h => by
    rw [List.foldl_cons]
    refine foldW_mem k _ x ?_
    have hw : y ∈ withI l y ∧ ∀ z ∈ l, z ∈ withI l y := by
      by_cases hy : y ∈ l
      · rw [withI_in hy]; exact ⟨hy, fun _ h => h⟩
      · rw [withI_out hy]; exact ⟨by simp, fun z hz => List.mem_append_left _ hz⟩
    rcases h with h | h
    · exact .inl (hw.2 x h)
    · rcases List.mem_cons.1 h with rfl | h
      · exact .inl hw.1
      · exact .inr h
theorem foldW_with (s l : List Int) (x : Int) : (withI l x).foldl withI s = withI (l.foldl withI s) x := by
  by_cases h : x ∈ l
  · rw [withI_in h, withI_in (foldW_mem l s x (.inr h))]
  · rw [withI_out h, List.foldl_append]; rfl
theorem foldW_fold (s : List Int) : ∀ (k l : List Int), (k.foldl withI l).foldl withI s = k.foldl withI (l.foldl withI s)
  | [], _ => rfl
  | y :: k, l => by rw [List.foldl_cons, foldW_fold s k, foldW_with]; rfl
def combW (s r : List Int × List Int) : List Int × List Int := (r.1.foldl withI s.1, r.2.foldl withI s.2)
theorem combW_assoc (s r q : List Int × List Int) : combW s (combW r q) = combW (combW s r) q := by
  unfold combW; rw [foldW_fold, foldW_fold]
theorem walk_comb (t : Ty) : ∀ s, walkT t s = combW s (walkT t ([], [])) := by
  induction t using Ty.rec_ with
  | h t ih =>
    have key : ∀ (l : List Ty), (∀ u ∈ l, u ∈ t.args) → ∀ (i : Nat) s, walkTs t.kind t.rv i l s = combW s (walkTs t.kind t.rv i l ([], [])) := by
      intro l
      induction l with
      | nil => intro _ i s; rw [walkTs, walkTs]; rfl
      | cons x l ihl =>
        intro hl i s
        rw [walkTs_cons, walkTs_cons, ihl (fun u hu => hl u (.tail _ hu)), ihl (fun u hu => hl u (.tail _ hu)) (i + 1) (if i = 0 ∧ t.kind = 5 ∧ 0 < t.rv then _ else _), combW_assoc]
        congr 1
        rw [ih x (hl x (.head _)) s]
        split
        · unfold combW; rw [foldW_with]
        · rfl
    intro s
    rw [walkT_eq, walkT_eq t ([], []), key t.args (fun u hu => hu) 0 (if t.kind = 7 then (withI s.1 t.var, s.2) else s), key t.args (fun u hu => hu) 0 (if t.kind = 7 then _ else _), combW_assoc]
    congr 1
    split
    · unfold combW; rfl
    · rfl
theorem combW_mem {s r : List Int × List Int} {x : Int} : (x ∈ s.1 ∨ x ∈ r.1 → x ∈ (combW s r).1) ∧ (x ∈ s.2 ∨ x ∈ r.2 → x ∈ (combW s r).2) := ⟨foldW_mem _ _ _, foldW_mem _ _ _⟩
theorem walkTs_comb (k rv : Int) : ∀ (i : Nat) (l : List Ty) s, walkTs k rv i l s = combW s (walkTs k rv i l ([], []))
  | _, [], s => by rw [walkTs, walkTs]; rfl
  | i, x :: l, s => by
    rw [walkTs_cons, walkTs_cons, walkTs_comb k rv (i + 1) l, walkTs_comb k rv (i + 1) l (if i = 0 ∧ k = 5 ∧ 0 < rv then _ else _), combW_assoc]
    congr 1
    rw [walk_comb x s]
    split
    · unfold combW; rw [foldW_with]
    · rfl
theorem walkTs_sub (k rv : Int) : ∀ (i : Nat) (l : List Ty) (u : Ty), u ∈ l → ∀ x, (x ∈ (walkT u ([], [])).1 → x ∈ (walkTs k rv i l ([], [])).1) ∧ (x ∈ (walkT u ([], [])).2 → x ∈ (walkTs k rv i l ([], [])).2)
  | i, t :: l, u, hu, x => by
    rw [walkTs_cons, walkTs_comb]
    rcases List.mem_cons.1 hu with rfl | hu
    · constructor
      · intro h; refine combW_mem.1 (.inl ?_); split
        · exact h
        · exact h
      · intro h; refine combW_mem.2 (.inl ?_); split
        · dsimp only; unfold withI; split
          · exact h
          · exact List.mem_append_left _ h
        · exact h
    · have := walkTs_sub k rv (i + 1) l u hu x
      exact ⟨fun h => combW_mem.1 (.inr (this.1 h)), fun h => combW_mem.2 (.inr (this.2 h))⟩
theorem walk_arg {t u : Ty} (hu : u ∈ t.args) (x : Int) : (x ∈ (walkT u ([], [])).1 → x ∈ (walkT t ([], [])).1) ∧ (x ∈ (walkT u ([], [])).2 → x ∈ (walkT t ([], [])).2) := by
  rw [walkT_eq t, walkTs_comb]
  have := walkTs_sub t.kind t.rv 0 t.args u hu x
  exact ⟨fun h => combW_mem.1 (.inr (this.1 h)), fun h => combW_mem.2 (.inr (this.2 h))⟩
theorem walk_var {t : Ty} (h : t.kind = 7) : t.var ∈ (walkT t ([], [])).1 := by
  rw [walkT_eq t, walkTs_comb, if_pos h]
  refine combW_mem.1 (.inl ?_)
  show t.var ∈ withI [] t.var
  unfold withI; simp
theorem walk_row {t : Ty} (h : t.kind = 5) (h0 : 0 < t.rv) (ha : t.args ≠ []) : t.rv ∈ (walkT t ([], [])).2 := by
  rw [walkT_eq t, if_neg (by omega)]
  cases hl : t.args with
  | nil => exact absurd hl ha
  | cons x l =>
    rw [walkTs_cons, if_pos ⟨rfl, h, h0⟩, walkTs_comb]
    refine combW_mem.2 (.inl ?_)
    dsimp only; unfold withI; split
    · rename_i hc; simpa using hc
    · simp
theorem rowOk_sort {ls : List Str} {rv : Int} (h : rowOk ls rv = true) : sortS ls = ls ∧ 0 ≤ rv := by
  unfold rowOk at h
  simp only [Bool.and_eq_true, decide_eq_true_eq] at h
  exact ⟨sortS_id h.1.2, h.1.1⟩
theorem right_fun_row {t : Ty} (h : rightT t = true) (h5 : t.kind = 5) : rowOk t.labels t.rv = true ∧ t.args ≠ [] := by
  rw [rightR_eq, hdT5 h5] at h
  simp only [Bool.and_eq_true, decide_eq_true_eq] at h
  exact ⟨h.1.1.1.2, fun e => by rw [e] at h; simp at h⟩
theorem right_arg {t u : Ty} (h : rightT t = true) (hu : u ∈ t.args) : rightT u = true := by
  rw [rightR_eq, Bool.and_eq_true] at h
  have key : ∀ l : List Ty, rightTs l = true → ∀ u ∈ l, rightT u = true := by
    intro l
    induction l with
    | nil => intro _ u hu; cases hu
    | cons x l ih =>
      intro hl u hu
      rw [rightTs, Bool.and_eq_true] at hl
      rcases List.mem_cons.1 hu with rfl | hu
      · exact hl.1
      · exact ih hl.2 u hu
  exact key _ h.2 u hu
theorem apply_closed (s : Sub) (t : Ty) : rightT t = true → (∀ v ∈ (walkT t ([], [])).1, alook v s.ts = none) → (∀ v ∈ (walkT t ([], [])).2, alook v s.rs = none) → applyT s t = t := by
  induction t using Ty.rec_ with
  | h t ih =>
    intro hr h1 h2
    by_cases h7 : t.kind = 7
    · rw [applyT_var h7, h1 _ (walk_var h7)]; rfl
    · rw [applyT_not h7]
      have hk : applyTs s t.args = t.args := by
        have key : ∀ l : List Ty, (∀ u ∈ l, u ∈ t.args) → applyTs s l = l := by
          intro l
          induction l with
          | nil => intro _; rfl
          | cons x l ihl =>
            intro hl
            have hx := hl x (.head _)
            rw [applyTs, ih x hx (right_arg hr hx) (fun v hv => h1 v ((walk_arg hx v).1 hv)) (fun v hv => h2 v ((walk_arg hx v).2 hv)), ihl fun u hu => hl u (.tail _ hu)]
        exact key _ fun u hu => hu
      rw [hk]
      by_cases h5 : t.kind = 5
      · obtain ⟨hro, hne⟩ := right_fun_row hr h5
        obtain ⟨hs, h0⟩ := rowOk_sort hro
        have e : applyR s ⟨t.labels, t.rv⟩ = ⟨t.labels, t.rv⟩ := by
          rw [applyR_out]
          · dsimp only; rw [hs]
          · by_cases hz : t.rv = 0
            · exact .inr hz
            · left; dsimp only; rw [h2 _ (walk_row h5 (by omega) hne)]; rfl
        rw [if_pos h5, if_pos h5, e]; exact (Ty.eta t).symm
      · rw [if_neg h5, if_neg h5]; exact (Ty.eta t).symm
def funVV : Ty := ⟨5, [], 0, [tvarT 9, tvarT 9], [], 0⟩
def funTT (u : Ty) : Ty := ⟨5, [], 0, [u, u], [], 0⟩
theorem funVV_apply (s : Sub) (u : Ty) : applyT ⟨aset 9 u s.ts, s.rs⟩ funVV = funTT u := by
  have hv : applyT ⟨aset 9 u s.ts, s.rs⟩ (tvarT 9) = u := by rw [applyT_var rfl]; show (alook 9 (aset 9 u s.ts)).getD _ = u; rw [alook_same]; rfl
  have hr : applyR ⟨aset 9 u s.ts, s.rs⟩ ⟨[], 0⟩ = ⟨[], 0⟩ := by rw [applyR_out (.inr rfl)]; show (⟨sortS [], 0⟩ : Rw) = _; rw [sortS_id rfl]
  rw [applyT_not (by decide)]
  show (⟨5, [], 0, applyTs _ [tvarT 9, tvarT 9], if (5 : Int) = 5 then _ else _, if (5 : Int) = 5 then _ else _⟩ : Ty) = _
  rw [if_pos rfl, if_pos rfl]
  show (⟨5, [], 0, [applyT _ (tvarT 9), applyT _ (tvarT 9)], (applyR _ ⟨[], 0⟩).labels, (applyR _ ⟨[], 0⟩).var⟩ : Ty) = _
  rw [hv, hr]; rfl
theorem closed_apply {w : World} {m : Mem} {s : Sub} {u : Ty} {q : QQ} {p : Addr} (hA : Agree w m) (hS : SubR m ⟨aset 9 u s.ts, s.rs⟩ (subV q)) (hc : CellsAt m p ([.int .i64 7, S [], .int .i64 9, .slice none 0 0, .slice none 0 0, .int .i64 0] ++ [.int .i64 7, S [], .int .i64 9, .slice none 0 0, .slice none 0 0, .int .i64 0])) (hw : SubW 17592186044416 40 ⟨aset 9 u s.ts, s.rs⟩) :
    FnV Try.prog 18 #[.agg (subV q).toArray, .agg #[.int .i64 5, S [], .int .i64 0, .slice (some p) 2 2, .slice none 0 0, .int .i64 0]] w m fun _ m v => (MP.ty (funTT u)).p m v := by
  have h := apply_c funVV hA hS (TyR.build (k := 5) (s := []) (v := 0) (ks := [tvarT 9, tvarT 9]) (ls := []) (r := 0) (Sl.two (vs := [_, _, _, _, _, _]) (us := [_, _, _, _, _, _]) hc rfl rfl (tvarR ⟨by omega, by omega⟩) (tvarR ⟨by omega, by omega⟩)) (Sl.empty (o := none) (c := 0)) ⟨by omega, by omega⟩ ⟨by omega, by omega⟩ ⟨by omega, by omega⟩) hw (by decide)
  rw [funVV_apply] at h; exact h

end Go.Proofs.Ytfphefkfbhjfdaa
