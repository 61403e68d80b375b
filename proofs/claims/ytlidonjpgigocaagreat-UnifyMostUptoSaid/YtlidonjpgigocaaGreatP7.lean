/-
  'brocadelaw07': what the laws say, in plain words. Conditions: those of each theorem.
-/
import Derived.Test.YtlidonjpgigocaaGreatP6
namespace Go.Proofs.YtlidonjpgigocaaGreat
set_option linter.all false
set_option maxRecDepth 4000
open Go.RowKit
-- small types, from nothing on
def vs8 : List Int := [1, 2, 3, 4, 5, 6, 7, 8]
theorem mem_vs8 {v : Int} : v ∈ vs8 ↔ 1 ≤ v ∧ v ≤ 8 := by
  simp only [vs8, List.mem_cons, List.not_mem_nil, or_false]; omega
theorem allV_pos (t : Ty) : rightT t = true → AllV (fun v => 1 ≤ v) (fun v => 1 ≤ v) t := by
  induction t using Ty.rec_ with
  | h t ih =>
    intro hr
    refine .mk (fun h7 => ?_) (fun _ p => by omega) fun u hu => ih u hu (right_arg hr hu)
    rw [rightR_eq, hdT7 h7] at hr
    simp only [Bool.and_eq_true, decide_eq_true_eq] at hr
    exact hr.1.2
theorem right_args2 {t : Ty} (h : rightT t = true) : t.args.length ≤ 2 := by
  by_cases h7 : t.kind = 7
  · rw [right_var h h7]; simp [varT, Ty.args]
  · by_cases h5 : t.kind = 5
    · obtain ⟨x, y, l, r, e, _⟩ := right_fun h h5; rw [e]; simp [Ty.args]
    · by_cases h6 : t.kind = 6
      · obtain ⟨x, e, _⟩ := right_ref h h6; rw [e]; simp [Ty.args]
      · have e : t.args = [] := by
          rw [rightR_eq, Bool.and_eq_true] at h
          have h1 := h.1
          by_cases h4 : t.kind = 4
          · rw [hdT4 h4] at h1; simp only [Bool.and_eq_true, decide_eq_true_eq] at h1; exact List.eq_nil_of_length_eq_zero (by omega)
          · by_cases h3 : t.kind = 1 ∨ t.kind = 2 ∨ t.kind = 3
            · rw [hdT1 h3] at h1; simp only [Bool.and_eq_true, decide_eq_true_eq] at h1; exact List.eq_nil_of_length_eq_zero (by omega)
            · rw [hdT0 h3 h4 h7 h6 h5] at h1; cases h1
        rw [e]; simp
theorem wd_few (t : Ty) : rightT t = true → fewT t = true → wdT t ≤ 10 := by
  induction t using Ty.rec_ with
  | h t ih =>
    intro hr hf
    rw [fewT_eq, Bool.and_eq_true, decide_eq_true_eq] at hf
    have key : ∀ l : List Ty, (∀ u ∈ l, u ∈ t.args) → fewTs l = true → wdTs l ≤ 10 := by
      intro l
      induction l with
      | nil => intro _ _; simp [wdTs]
      | cons x l ihl =>
        intro hl h
        rw [fewTs, Bool.and_eq_true] at h
        have h1 := ih x (hl x (.head _)) (right_arg hr (hl x (.head _))) h.1
        have h2 := ihl (fun u hu => hl u (.tail _ hu)) h.2
        simp only [wdTs]; omega
    have h1 := key t.args (fun u hu => hu) hf.2
    have h2 := right_args2 hr
    rw [wdT_eq]; omega
theorem small_open {t : Ty} (h : smallT t = true) : rightT t = true ∧ Sc vs8 vs8 t ∧ wdT t ≤ 10 ∧ cntT t ≤ 30 := by
  unfold smallT at h
  simp only [Bool.and_eq_true, decide_eq_true_eq] at h
  obtain ⟨⟨⟨⟨h1, h2, h3⟩, h4⟩, h5⟩, h6⟩ := h
  have l5 : ∀ v ∈ (varsT t).1, v ≤ 8 := fun v hv => by have := List.all_eq_true.1 h5 v hv; simpa using this
  have l6 : ∀ v ∈ (varsT t).2, v ≤ 8 := fun v hv => by have := List.all_eq_true.1 h6 v hv; simpa using this
  refine ⟨h3, ?_, wd_few t h3 h4, h1⟩
  exact ((allV_vars t h3).and _ (allV_pos t h3)).mono (fun v q => mem_vs8.2 ⟨q.2, l5 v q.1⟩) (fun v q => mem_vs8.2 ⟨q.2, l6 v q.1⟩)
theorem cnt_said {s : Sub} {C : Nat} (h : ∀ n x, alook n s.ts = some x → cntT x ≤ C) (hC : 1 ≤ C) (t : Ty) : cntT (applyT s t) ≤ cntT t * C := by
  induction t using Ty.rec_ with
  | h t ih =>
    by_cases h7 : t.kind = 7
    · rw [applyT_var h7]
      cases hl : alook t.var s.ts with
      | none => exact Nat.le_mul_of_pos_right _ hC
      | some x => exact Nat.le_trans (h _ _ hl) (Nat.le_mul_of_pos_left _ (cnt_pos t))
    · have key : ∀ l : List Ty, (∀ u ∈ l, u ∈ t.args) → cntTs (applyTs s l) ≤ cntTs l * C := by
        intro l
        induction l with
        | nil => intro _; simp [applyTs, cntTs]
        | cons x l ihl =>
          intro hl
          have h1 := ih x (hl x (.head _)); have h2 := ihl fun u hu => hl u (.tail _ hu)
          rw [applyTs]; simp only [cntTs]; rw [Nat.add_mul]; omega
      have hk := key t.args fun u hu => hu
      rw [cntT_eq, cntT_eq t, (apply_args (s := s) h7).2.2.2.1, Nat.add_mul]; omega
theorem UInv.cnt {tv rv : List Int} {w : Nat} {U : USt} (h : UInv tv rv w U) (t : Ty) : cntT (applyT U.s t) ≤ cntT t * 1000 := cnt_said (fun n x e => by
  have := (h.tk n x e).2.2.1
  unfold largeT at this
  rw [Bool.or_eq_false_iff] at this
  have := this.1
  simp only [decide_eq_false_iff_not] at this; omega) (by omega) t
theorem cb_of {tv : List Int} {U : USt} {t : Ty} (h : cntT t ≤ 100000) : CB tv U t := fun rv' w' V hV _ => by have := hV.cnt t; omega
theorem UInv.none {tv rv : List Int} {w : Nat} {n : Int} (ht : ∀ v ∈ tv, 1 ≤ v ∧ v ≤ 1000000) (hr : ∀ v ∈ rv, 1 ≤ v ∧ v < n) (hw : 2 ≤ w) : UInv tv rv w ⟨noneS, n⟩ :=
  ⟨⟨List.nodup_nil, List.nodup_nil⟩, fun n x e => (by cases e), fun n r e => (by cases e), ht, hr, hw⟩
theorem apply_none {t : Ty} (h : rightT t = true) : applyT noneS t = t := apply_closed noneS t h (fun _ _ => rfl) fun _ _ => rfl
/-- A state behind small types. -/
structure SmU (rv : List Int) (w : Nat) (U : USt) : Prop where
  inv : UInv vs8 rv w U
  sub : ∀ v ∈ vs8, v ∈ rv
  n9 : 9 ≤ U.nx
  bud : w * 2 ^ rlive rv U ≤ 50000000
  nx : U.nx + rlive rv U ≤ 1000000
  wd : ∀ t, smallT t = true → wdT (applyT U.s t) ≤ w
theorem rlive_le (rv : List Int) (U : USt) : rlive rv U ≤ rv.length := List.length_filter_le _ _
theorem smU_none {n : Int} (h1 : 9 ≤ n) (h2 : n ≤ 1000) : SmU vs8 10 ⟨noneS, n⟩ := by
  have hl : rlive vs8 ⟨noneS, n⟩ = 8 := rfl
  refine ⟨UInv.none (fun v hv => by have := mem_vs8.1 hv; omega) (fun v hv => by have := mem_vs8.1 hv; omega) (by omega), fun _ h => h, h1, by rw [hl]; decide, by rw [hl]; show n + 8 ≤ _; omega, fun t ht => ?_⟩
  obtain ⟨h3, _, h4, _⟩ := small_open ht
  show wdT (applyT noneS t) ≤ 10
  rw [apply_none h3]; exact h4
theorem SmU.okS {rv : List Int} {w : Nat} {U : USt} (h : SmU rv w U) : OkS U := h.inv.okS (Nat.le_trans le_pow h.bud) (by have := h.n9; omega) (by have := h.nx; omega)
theorem SmU.w {rv : List Int} {w : Nat} {U : USt} (h : SmU rv w U) : SubW 50000000 U.s := h.okS.w
theorem SmU.post {rv rv' : List Int} {w w' : Nat} {U V : USt} (h : SmU rv w U) (hP : UP vs8 rv w U rv' w' V) : SmU rv' w' V :=
  ⟨hP.inv, fun v hv => hP.sub v (h.sub v hv), by have := h.n9; have := hP.nx; omega, Nat.le_trans hP.bud h.bud, by have := h.nx; have := hP.nx; omega, fun t ht => hP.wd t (small_open ht).1 (h.wd t ht)⟩
/-- What is known of a call. -/
structure Ran (U : USt) (a b : Ty) (R : Int × USt) : Prop where
  ab : Abs R.2.s U.s
  e : R.1 = 0 ∨ R.1 = 5 ∨ R.1 = 6
  eq : R.1 = 0 → applyT R.2.s a = applyT R.2.s b
  mgu : ∀ θ, SubOk θ → Abs θ U.s → applyT θ a = applyT θ b → R.1 ≠ 5 ∧ (R.1 = 0 → ∃ θ', Goes U θ θ' ∧ Abs θ' R.2.s)
theorem sm_run {rv : List Int} {w : Nat} {U : USt} {a b : Ty} (h : SmU rv w U) (ha : smallT a = true) (hb : smallT b = true) : ∃ k R, typesU k a b U = some R ∧ (∃ rv' w', SmU rv' w' R.2) ∧ Ran U a b R := by
  obtain ⟨a1, a2, a3, a4⟩ := small_open ha
  obtain ⟨b1, b2, b3, b4⟩ := small_open hb
  have up : ∀ {t : Ty}, Sc vs8 vs8 t → Sc vs8 rv t := fun q => q.mono (fun _ z => z) (fun v z => h.sub v z)
  have h9 := h.n9
  obtain ⟨k, R, hR⟩ := types_ex vs8 _ _ a b U rv w h.inv (by omega) a1 b1 (up a2) (up b2) (h.wd a ha) (h.wd b hb) h.bud h.nx (by omega) (by omega) (cb_of (by omega)) (cb_of (by omega)) rfl rfl
  obtain ⟨rv', w', hP, h2, h3⟩ := types_post k a b U R hR vs8 rv w h.inv (by omega) a1 b1 (up a2) (up b2) (h.wd a ha) (h.wd b hb)
  exact ⟨k, R, hR, ⟨rv', w', h.post hP⟩, hP.ab, h2, h3, types_mgu k a b U R hR vs8 rv w h.inv (by omega) a1 b1 (up a2) (up b2) (h.wd a ha) (h.wd b hb)⟩
theorem types_same {k : Nat} {a b : Ty} {U : USt} {R : Int × USt} (h : typesU k a b U = some R) (he : applyT U.s a = applyT U.s b) : R = (0, U) := by
  cases k with
  | zero => rw [typesU] at h; cases h
  | succ k =>
    obtain ⟨_, h⟩ := typesU_ok h
    unfold typesB at h
    rw [if_pos he] at h; injection h with h; exact h.symm
theorem out_ok {R : Int × USt} {U : USt} (h : R.1 = 0) : outU R U = (0, R.2) := by unfold outU; rw [if_neg (by omega)]
theorem out_err {R : Int × USt} {U : USt} (h : R.1 ≠ 0) : outU R U = (R.1, U) := by unfold outU; rw [if_pos h]
/-- Turned round it is alike. -/
theorem turn_round {U : USt} {a b : Ty} {R1 R2 : Int × USt} (h1 : Ran U a b R1) (h2 : Ran U b a R2) (o1 : SubOk R1.2.s) (o2 : SubOk R2.2.s) (n1 : R1.1 ≠ 6) (n2 : R2.1 ≠ 6) : R1.1 = R2.1 := by
  rcases h1.e with e1 | e1 | e1
  · have := (h2.mgu _ o1 h1.ab (h1.eq e1).symm).1
    rcases h2.e with e2 | e2 | e2
    · rw [e1, e2]
    · exact absurd e2 this
    · exact absurd e2 n2
  · rcases h2.e with e2 | e2 | e2
    · exact absurd e1 (h1.mgu _ o2 h2.ab (h2.eq e2).symm).1
    · rw [e1, e2]
    · exact absurd e2 n2
  · exact absurd e1 n1
-- types without variables
theorem ground_open {t : Ty} (h : groundT t = true) : (varsT t).1 = [] ∧ (varsT t).2 = [] := by
  unfold groundT at h
  simpa using h
theorem ground_free {t : Ty} (hr : rightT t = true) (h : groundT t = true) (s : Sub) : applyT s t = t := by
  obtain ⟨h1, h2⟩ := ground_open h
  exact apply_closed s t hr (fun v hv => by rw [h1] at hv; cases hv) fun v hv => by rw [h2] at hv; cases hv
theorem ground_sc {tv rv : List Int} {t : Ty} (hr : rightT t = true) (h : groundT t = true) : Sc tv rv t := by
  obtain ⟨h1, h2⟩ := ground_open h
  exact AllV.mono (P := (· ∈ (varsT t).1)) (Q := (· ∈ (varsT t).2)) (fun v hv => by rw [h1] at hv; cases hv) (fun v hv => by rw [h2] at hv; cases hv) t (allV_vars t hr)
theorem ground_kind {t : Ty} (h : groundT t = true) : t.kind ≠ 7 := fun h7 => by
  have := walk_var h7
  rw [(ground_open h).1] at this; cases this
theorem is_ground {n : Int} {t : Ty} (h : groundT t = true) (hl : largeT t = false) : isU n t ⟨noneS, 9⟩ = (0, ⟨oneT n t, 9⟩) := by
  unfold isU
  rw [if_neg (by rw [(ground_open h).1]; simp), if_neg (by rw [hl]; simp [noneS])]
  rfl
theorem ground_var1 {n : Int} {t : Ty} (hn : 1 ≤ n ∧ n ≤ 1000) (hr : rightT t = true) (hg : groundT t = true) (hc : cntT t ≤ 100000) (hd : deepT t ≤ 200) (hw : wdT t ≤ 50000000) (hl : cntT t ≤ 1000) : typesU 1 (varT n) t ⟨noneS, 9⟩ = some (0, ⟨oneT n t, 9⟩) ∧ typesU 1 t (varT n) ⟨noneS, 9⟩ = some (0, ⟨oneT n t, 9⟩) := by
  have hv : applyT noneS (varT n) = varT n := by rw [applyT_var rfl]; rfl
  have ht := ground_free hr hg noneS
  have hne : ¬ varT n = t := fun e => ground_kind hg (by rw [← e]; rfl)
  have hL : largeT t = false := by unfold largeT; rw [decide_eq_false (by omega), decide_eq_false (by omega)]; rfl
  have o1 : OkT ⟨noneS, 9⟩ (varT n) := ⟨by simp [varT, wdT, wdTs], by show cntT (applyT noneS (varT n)) ≤ _; rw [hv]; simp [varT, cntT, cntTs]⟩
  have o2 : OkT ⟨noneS, 9⟩ t := ⟨hw, by show cntT (applyT noneS t) ≤ _; rw [ht]; omega⟩
  have o0 : OkS ⟨noneS, 9⟩ := noneU_ok ⟨by omega, by omega⟩
  constructor
  · rw [typesU, if_pos ⟨o0, o1, o2⟩]
    show typesB _ (applyT noneS (varT n)) (applyT noneS t) _ = _
    rw [hv, ht]; unfold typesB
    rw [if_neg hne, if_pos (show (varT n).kind = 7 from rfl), show (varT n).var = n from rfl, is_ground hg hL]
  · rw [typesU, if_pos ⟨o0, o2, o1⟩]
    show typesB _ (applyT noneS t) (applyT noneS (varT n)) _ = _
    rw [hv, ht]; unfold typesB
    rw [if_neg (fun e => hne e.symm), if_neg (ground_kind hg), if_pos (show (varT n).kind = 7 from rfl), show (varT n).var = n from rfl, is_ground hg hL]
theorem ground_run {a b : Ty} (ra : rightT a = true) (rb : rightT b = true) (ga : groundT a = true) (gb : groundT b = true) (ca : cntT a ≤ 30) (cb : cntT b ≤ 30) (wa : wdT a ≤ 10000000) (wb : wdT b ≤ 10000000) : ∃ k R, typesU k a b ⟨noneS, 9⟩ = some R ∧ outU R ⟨noneS, 9⟩ = (R.1, ⟨noneS, 9⟩) ∧ (R.1 = 0 ↔ a = b) := by
  have hI : UInv [] [] (max 2 (max (wdT a) (wdT b))) ⟨noneS, 9⟩ := UInv.none (fun v hv => (by cases hv)) (fun v hv => (by cases hv)) (by omega)
  have ha := ground_free ra ga noneS; have hb := ground_free rb gb noneS
  obtain ⟨k, R, hR⟩ := types_ex [] _ _ a b ⟨noneS, 9⟩ [] _ hI (by show (0 : Int) < 9; omega) ra rb (ground_sc ra ga) (ground_sc rb gb) (by show wdT (applyT noneS a) ≤ _; rw [ha]; omega) (by show wdT (applyT noneS b) ≤ _; rw [hb]; omega)
    (by show max 2 (max (wdT a) (wdT b)) * 2 ^ 0 ≤ _; omega) (by show (9 : Int) + 0 ≤ _; omega) (by omega) (by omega) (cb_of (by omega)) (cb_of (by omega)) rfl rfl
  obtain ⟨rv', w', hP, h2, h3⟩ := types_post k a b _ R hR [] [] _ hI (by show (0 : Int) < 9; omega) ra rb (ground_sc ra ga) (ground_sc rb gb) (by show wdT (applyT noneS a) ≤ _; rw [ha]; omega) (by show wdT (applyT noneS b) ≤ _; rw [hb]; omega)
  by_cases hab : a = b
  · subst hab
    have := types_same hR rfl
    subst this
    exact ⟨k, _, hR, rfl, ⟨fun _ => rfl, fun _ => rfl⟩⟩
  · have h0 : R.1 ≠ 0 := fun h => hab (by have := h3 h; rw [ground_free ra ga, ground_free rb gb] at this; exact this)
    exact ⟨k, R, hR, out_err h0, ⟨fun h => absurd h h0, fun h => absurd h hab⟩⟩

end Go.Proofs.YtlidonjpgigocaaGreat
