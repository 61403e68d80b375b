/-
  'brocadelaw07': what the laws say, in plain words. Conditions: those of each theorem.
-/
import Derived.Test.YtlidonjpgigocaaGreatP8
namespace Go.Proofs.YtlidonjpgigocaaGreat
set_option linter.all false
set_option maxRecDepth 4000
open Go.RowKit
-- what is said one after the other
theorem comp_row {t a b : Sub} {r : Rw} (h : r.var ≠ 0 → applyR t ⟨[], r.var⟩ = applyR b (applyR a ⟨[], r.var⟩)) : applyR t r = applyR b (applyR a r) := by
  rw [applyR_eq a r, row_iff]
  simp only [count_sort, List.count_append]
  by_cases h0 : r.var = 0
  · rw [h0, Rv_zero, Rv_zero, Rv_zero]; simp
  · have h1 := h h0
    rw [applyR_eq a ⟨[], r.var⟩, row_iff] at h1
    simp only [count_sort, List.count_append, List.count_nil, Nat.zero_add] at h1
    exact ⟨fun x => by have := h1.1 x; omega, h1.2⟩
theorem comp_type {t a b : Sub} (x : Ty) : rightT x = true → AllV (fun v => applyT t (varT v) = applyT b (applyT a (varT v))) (fun v => applyR t ⟨[], v⟩ = applyR b (applyR a ⟨[], v⟩)) x → applyT t x = applyT b (applyT a x) := by
  induction x using Ty.rec_ with
  | h x ih =>
    intro hr h
    obtain ⟨h1, h2, h3⟩ := h.here
    by_cases h7 : x.kind = 7
    · rw [right_var hr h7]; exact h1 h7
    · have key : ∀ l : List Ty, (∀ u ∈ l, u ∈ x.args) → applyTs t l = applyTs b (applyTs a l) := by
        intro l
        induction l with
        | nil => intro _; rfl
        | cons u l ihl =>
          intro hl
          rw [applyTs, applyTs, applyTs, ih u (hl u (.head _)) (right_arg hr (hl u (.head _))) (h3 u (hl u (.head _))), ihl fun v hv => hl v (.tail _ hv)]
      have hk := key x.args fun u hu => hu
      rw [applyT_not (s := t) h7, applyT_not (s := a) h7, applyT_not (s := b) (t := ⟨x.kind, x.name, x.var, _, _, _⟩) h7]
      show _ = (⟨x.kind, x.name, x.var, applyTs b (applyTs a x.args), if x.kind = 5 then (applyR b ⟨if x.kind = 5 then (applyR a ⟨x.labels, x.rv⟩).labels else x.labels, if x.kind = 5 then (applyR a ⟨x.labels, x.rv⟩).var else x.rv⟩).labels else (if x.kind = 5 then (applyR a ⟨x.labels, x.rv⟩).labels else x.labels), if x.kind = 5 then (applyR b ⟨if x.kind = 5 then (applyR a ⟨x.labels, x.rv⟩).labels else x.labels, if x.kind = 5 then (applyR a ⟨x.labels, x.rv⟩).var else x.rv⟩).var else (if x.kind = 5 then (applyR a ⟨x.labels, x.rv⟩).var else x.rv)⟩ : Ty)
      rw [hk]
      by_cases h5 : x.kind = 5
      · have hv := (rowOk_sort (right_fun_row hr h5).1).2
        have hw := comp_row (t := t) (a := a) (b := b) (r := ⟨x.labels, x.rv⟩) (fun h0 => h2 h5 (by dsimp only at hv h0; omega))
        simp only [if_pos h5]; rw [hw]
      · simp only [if_neg h5]
theorem look_map {α : Type} (f : Int → α) (n : Int) : ∀ l : List Int, alook n (l.map fun v => (v, f v)) = if n ∈ l then some (f n) else none
  | [] => by simp [alook]
  | v :: l => by
    rw [List.map_cons, alook, look_map f n l]
    by_cases h : n = v
    · subst h; simp
    · simp [h]
/-- What may be said so that two types become the same. -/
structure MostS (s : Sub) : Prop where
  ts : ∀ n t, alook n s.ts = some t → n ∈ vs8 ∧ smallT t = true ∧ cntT t ≤ 10
  rs : ∀ n r, alook n s.rs = some r → n ∈ vs8 ∧ rowOk r.labels r.var = true ∧ r.var = 0 ∧ r.labels.length ≤ 5
theorem MostS.none : MostS noneS := ⟨fun n t e => (by cases e), fun n r e => (by cases e)⟩
theorem MostS.ty {s : Sub} (h : MostS s) {n : Int} {t : Ty} (hn : n ∈ vs8) (ht : smallT t = true) (hc : cntT t ≤ 10) : MostS ⟨aset n t s.ts, s.rs⟩ := ⟨fun k u e => by
  rw [alook_aset] at e; split at e
  · rename_i hk; injection e with e; subst e; subst hk; exact ⟨hn, ht, hc⟩
  · exact h.ts _ _ e, h.rs⟩
theorem MostS.row {s : Sub} (h : MostS s) {n : Int} {r : Rw} (hn : n ∈ vs8) (hr : rowOk r.labels r.var = true) (h0 : r.var = 0) (hl : r.labels.length ≤ 5) : MostS ⟨s.ts, aset n r s.rs⟩ := ⟨h.ts, fun k u e => by
  rw [alook_aset] at e; split at e
  · rename_i hk; injection e with e; subst e; subst hk; exact ⟨hn, hr, h0, hl⟩
  · exact h.rs _ _ e⟩
theorem pos8 {n : Int} (h : n ∈ vs8) : 1 ≤ n := (mem_vs8.1 h).1
theorem MostS.ok {s : Sub} (h : MostS s) : SubOk s := ⟨fun n t e => ⟨pos8 (h.ts n t e).1, (small_open (h.ts n t e).2.1).1⟩, fun n r e => ⟨pos8 (h.rs n r e).1, (h.rs n r e).2.1⟩⟩
theorem MostS.w {s : Sub} (h : MostS s) : SubW 10 s := ⟨fun n t e => (small_open (h.ts n t e).2.1).2.2.1, fun n r e => by have := (h.rs n r e).2.2.2; omega⟩
theorem MostS.sc {s : Sub} (h : MostS s) {t : Ty} (hr : rightT t = true) (ht : Sc vs8 vs8 t) : Sc vs8 vs8 (applyT s t) :=
  allV_apply (fun v p _ => p) (fun v x _ e => (small_open (h.ts v x e).2.1).2.1) (fun v p _ => p) (fun v r _ e p => by have := (h.rs v r e).2.2.1; omega) t hr ht
/-- All variables up to k become others. -/
def renS : Nat → Sub
  | 0 => noneS
  | y + 1 => ⟨aset ((y + 1 : Nat) : Int) (varT (100 + ((y + 1 : Nat) : Int))) (renS y).ts, aset ((y + 1 : Nat) : Int) ⟨[], 100 + ((y + 1 : Nat) : Int)⟩ (renS y).rs⟩
theorem ren_ts (n : Int) : ∀ k, alook n (renS k).ts = if 1 ≤ n ∧ n ≤ k then some (varT (100 + n)) else none
  | 0 => by rw [if_neg (by omega)]; rfl
  | k + 1 => by
    rw [renS, alook_aset, ren_ts n k]
    by_cases h : n = ((k + 1 : Nat) : Int)
    · rw [if_pos h, if_pos (by omega), h]
    · rw [if_neg h]
      by_cases h2 : 1 ≤ n ∧ n ≤ k
      · rw [if_pos h2, if_pos (by omega)]
      · rw [if_neg h2, if_neg (by omega)]
theorem ren_rs (n : Int) : ∀ k, alook n (renS k).rs = if 1 ≤ n ∧ n ≤ k then some ⟨[], 100 + n⟩ else none
  | 0 => by rw [if_neg (by omega)]; rfl
  | k + 1 => by
    rw [renS, alook_aset, ren_rs n k]
    by_cases h : n = ((k + 1 : Nat) : Int)
    · rw [if_pos h, if_pos (by omega), h]
    · rw [if_neg h]
      by_cases h2 : 1 ≤ n ∧ n ≤ k
      · rw [if_pos h2, if_pos (by omega)]
      · rw [if_neg h2, if_neg (by omega)]
theorem ren_some {k : Nat} {n : Int} {t : Ty} (e : alook n (renS k).ts = some t) : (1 ≤ n ∧ n ≤ k) ∧ t = varT (100 + n) := by
  rw [ren_ts] at e; split at e
  · injection e with e; exact ⟨by assumption, e.symm⟩
  · cases e
theorem ren_someR {k : Nat} {n : Int} {t : Rw} (e : alook n (renS k).rs = some t) : (1 ≤ n ∧ n ≤ k) ∧ t = ⟨[], 100 + n⟩ := by
  rw [ren_rs] at e; split at e
  · injection e with e; exact ⟨by assumption, e.symm⟩
  · cases e
theorem bare_ok {n : Int} (h : 0 ≤ n) : rowOk [] n = true := by unfold rowOk; simp [h]; rfl
theorem ren_ok (k : Nat) : SubOk (renS k) := ⟨fun n t e => by obtain ⟨h, rfl⟩ := ren_some e; exact ⟨h.1, varT_right (by omega)⟩, fun n t e => by obtain ⟨h, rfl⟩ := ren_someR e; exact ⟨h.1, bare_ok (by show (0 : Int) ≤ 100 + n; omega)⟩⟩
theorem ren_w (k : Nat) : SubW 0 (renS k) := ⟨fun n t e => by obtain ⟨h, rfl⟩ := ren_some e; simp [varT, wdT, wdTs], fun n t e => by obtain ⟨h, rfl⟩ := ren_someR e; simp⟩
theorem ren_cnt (k : Nat) (t : Ty) : cntT (applyT (renS k) t) ≤ cntT t * 1 := cnt_said (fun n x e => by obtain ⟨h, rfl⟩ := ren_some e; simp [varT, cntT, cntTs]) (Nat.le_refl _) t
def vs108 : List Int := [101, 102, 103, 104, 105, 106, 107, 108]
theorem mem_vs108 {v : Int} : v ∈ vs108 ↔ 101 ≤ v ∧ v ≤ 108 := by
  simp only [vs108, List.mem_cons, List.not_mem_nil, or_false]; omega
theorem ren_sc {t : Ty} (hr : rightT t = true) (ht : Sc vs8 vs8 t) : Sc vs108 vs108 (applyT (renS 8) t) :=
  allV_apply (fun v p e => by have := mem_vs8.1 p; rw [ren_ts, if_pos (by omega)] at e; cases e) (fun v x p e => by
    obtain ⟨h, rfl⟩ := ren_some e
    exact .mk (fun _ => mem_vs108.2 (by show 101 ≤ 100 + v ∧ 100 + v ≤ 108; omega)) (fun q => absurd (show (7 : Int) = 5 from q) (by decide)) fun u hu => (by cases hu)) (fun v p e => by have := mem_vs8.1 p; rw [ren_rs, if_pos (by omega)] at e; cases e) (fun v r p e _ => by
    obtain ⟨h, rfl⟩ := ren_someR e
    exact mem_vs108.2 (by show 101 ≤ 100 + v ∧ 100 + v ≤ 108; omega)) t hr ht
def vs100 : List Int := (List.range 100).map fun k => ((k + 1 : Nat) : Int)
theorem mem_vs100 {v : Int} : v ∈ vs100 ↔ 1 ≤ v ∧ v ≤ 100 := by
  unfold vs100
  rw [List.mem_map]
  constructor
  · rintro ⟨k, hk, rfl⟩; have := List.mem_range.1 hk; omega
  · intro h; exact ⟨(v - 1).toNat, List.mem_range.2 (by omega), by omega⟩
/-- What is to be said so that the most general is made the same as another one, its variables being others. -/
def mostS (θ : Sub) : Sub := ⟨vs8.map fun v => (v, applyT (renS 8) (applyT θ (varT v))), vs100.map fun v => (v, applyR (renS 8) (applyR θ ⟨[], v⟩))⟩
theorem most_ts (θ : Sub) (n : Int) : alook n (mostS θ).ts = if n ∈ vs8 then some (applyT (renS 8) (applyT θ (varT n))) else none := look_map _ n vs8
theorem most_rs (θ : Sub) (n : Int) : alook n (mostS θ).rs = if n ∈ vs100 then some (applyR (renS 8) (applyR θ ⟨[], n⟩)) else none := look_map _ n vs100
theorem most_ok {θ : Sub} (h : SubOk θ) : SubOk (mostS θ) := by
  refine ⟨fun n t e => ?_, fun n t e => ?_⟩
  · rw [most_ts] at e; split at e
    · rename_i hn; injection e with e; subst e; exact ⟨pos8 hn, right_and (ren_ok 8) (right_and h (varT_right (pos8 hn)))⟩
    · cases e
  · rw [most_rs] at e; split at e
    · rename_i hn; injection e with e; subst e
      have h1 := (mem_vs100.1 hn).1
      exact ⟨h1, applyR_ok (applyR_ok (r := ⟨[], n⟩) (bare_ok (by show (0 : Int) ≤ n; omega)) fun n x e => (h.rs n x e).2) fun n x e => ((ren_ok 8).rs n x e).2⟩
    · cases e
theorem most_left {θ : Sub} (h : SubOk θ) {x : Ty} (hr : rightT x = true) (hs : AllV (· ∈ vs8) (· ∈ vs100) x) : applyT (mostS θ) x = applyT (renS 8) (applyT θ x) := by
  refine comp_type x hr (AllV.mono (P := (· ∈ vs8)) (Q := (· ∈ vs100)) (fun v hv => ?_) (fun v hv => ?_) x hs)
  · rw [applyT_var (s := mostS θ) (t := varT v) rfl, show (varT v).var = v from rfl, most_ts, if_pos hv]; rfl
  · have h1 := (mem_vs100.1 hv).1
    exact applyR_nil (by rw [most_rs, if_pos hv]) (by omega) ((most_ok h).rs v _ (by rw [most_rs, if_pos hv])).2
theorem most_right {θ : Sub} {x : Ty} (hr : rightT x = true) (hs : Sc vs108 vs108 x) : applyT (mostS θ) x = x :=
  apply_free hr (AllV.mono (P := (· ∈ vs108)) (Q := (· ∈ vs108)) (fun v hv => by have := mem_vs108.1 hv; rw [most_ts, if_neg (by rw [mem_vs8]; omega)]) (fun v hv => by have := mem_vs108.1 hv; rw [most_rs, if_neg (by rw [mem_vs100]; omega)]) x hs)
theorem most_run {s : Sub} {a b : Ty} (hs : MostS s) (ha : smallT a = true) (hb : smallT b = true) (he : applyT s a = applyT s b) :
    ∃ k R, typesU k a b ⟨noneS, 20⟩ = some R ∧ (R.1 = 0 ∨ R.1 = 6) ∧ SubW 50000000 R.2.s ∧ (20 ≤ R.2.nx ∧ R.2.nx ≤ 100) ∧ (R.1 = 0 → ∃ k2 R2, typesU k2 (applyT R.2.s a) (applyT (renS 8) (applyT s a)) ⟨noneS, R.2.nx + 200⟩ = some R2 ∧ (R2.1 = 0 ∨ R2.1 = 6)) := by
  obtain ⟨a1, a2, a3, a4⟩ := small_open ha
  obtain ⟨b1, b2, b3, b4⟩ := small_open hb
  have h0 : UInv vs8 vs8 10 ⟨noneS, 20⟩ := UInv.none (fun v hv => by have := mem_vs8.1 hv; omega) (fun v hv => by have := mem_vs8.1 hv; omega) (by omega)
  have hl0 : rlive vs8 ⟨noneS, 20⟩ = 8 := rfl
  have wa : wdT (applyT noneS a) ≤ 10 := by rw [apply_none a1]; exact a3
  have wb : wdT (applyT noneS b) ≤ 10 := by rw [apply_none b1]; exact b3
  obtain ⟨k, R, hR⟩ := types_ex vs8 _ _ a b ⟨noneS, 20⟩ vs8 10 h0 (by show (0 : Int) < 20; omega) a1 b1 a2 b2 wa wb (by rw [hl0]; decide) (by rw [hl0]; show (20 : Int) + 8 ≤ _; omega) (by omega) (by omega) (cb_of (by omega)) (cb_of (by omega)) rfl rfl
  obtain ⟨rv', w', hP, h2, h3⟩ := types_post k a b _ R hR vs8 vs8 10 h0 (by show (0 : Int) < 20; omega) a1 b1 a2 b2 wa wb
  have hm := types_mgu k a b _ R hR vs8 vs8 10 h0 (by show (0 : Int) < 20; omega) a1 b1 a2 b2 wa wb s hs.ok (abs_none s) he
  have hbud := hP.bud; rw [hl0] at hbud
  have hnx := hP.nx; rw [hl0] at hnx
  have hnx1 : (20 : Int) ≤ R.2.nx := hnx.1
  have hnx2 : R.2.nx + rlive rv' R.2 ≤ 20 + 8 := hnx.2
  have hwl : 10 ≤ w' := hP.wl
  have hww : w' ≤ 2560 := Nat.le_trans le_pow hbud
  refine ⟨k, R, hR, by rcases h2 with h | h | h; (exact .inl h); (exact absurd h hm.1); exact .inr h, (hP.inv.okS (by omega) (by omega) (by omega)).w, ⟨hnx1, by omega⟩, fun hz => ?_⟩
  obtain ⟨θ, hG, hA⟩ := hm.2 hz
  have hθ : applyT θ (applyT R.2.s a) = applyT s a := by rw [abs_type hA a a1, hG.type h0 a1 a2]
  have ra := right_and hP.inv.ok a1
  have rb := right_and (ren_ok 8) (right_and hs.ok a1)
  have s1 := hP.inv.sc a1 (a2.mono (fun _ z => z) (fun v z => hP.sub v z))
  have s2 := ren_sc (right_and hs.ok a1) (hs.sc a1 a2)
  have hq : applyT (mostS θ) (applyT R.2.s a) = applyT (mostS θ) (applyT (renS 8) (applyT s a)) := by
    rw [most_right rb s2, most_left hG.ok ra (s1.mono (fun v z => z.1) (fun v z => mem_vs100.2 (by have := hP.inv.rp v z.1; omega))), hθ]
  have hI : UInv (vs8 ++ vs108) ((rv'.filter fun v => (alook v R.2.s.rs).isNone) ++ vs108) (w' + 20) ⟨noneS, R.2.nx + 200⟩ := UInv.none (fun v hv => by
      rcases List.mem_append.1 hv with h | h
      · have := mem_vs8.1 h; omega
      · have := mem_vs108.1 h; omega) (fun v hv => by
      rcases List.mem_append.1 hv with h | h
      · have := hP.inv.rp v (List.mem_filter.1 h).1; omega
      · have := mem_vs108.1 h; omega) (by omega)
  have sa : Sc (vs8 ++ vs108) ((rv'.filter fun v => (alook v R.2.s.rs).isNone) ++ vs108) (applyT R.2.s a) := s1.mono (fun v z => List.mem_append_left _ z.1) (fun v z => List.mem_append_left _ (List.mem_filter.2 ⟨z.1, by rw [z.2]; rfl⟩))
  have sb : Sc (vs8 ++ vs108) ((rv'.filter fun v => (alook v R.2.s.rs).isNone) ++ vs108) (applyT (renS 8) (applyT s a)) := s2.mono (fun v z => List.mem_append_right _ z) (fun v z => List.mem_append_right _ z)
  have w1 : wdT (applyT R.2.s a) ≤ w' := hP.wd a a1 wa
  have w2 : wdT (applyT (renS 8) (applyT s a)) ≤ 20 := by have h1 := applyT_wd (ren_w 8) (applyT s a); have h2 := applyT_wd hs.w a; omega
  have w3 : wdT (applyT noneS (applyT R.2.s a)) ≤ w' + 20 := by rw [apply_none ra]; omega
  have w4 : wdT (applyT noneS (applyT (renS 8) (applyT s a))) ≤ w' + 20 := by rw [apply_none rb]; omega
  have hl : rlive ((rv'.filter fun v => (alook v R.2.s.rs).isNone) ++ vs108) ⟨noneS, R.2.nx + 200⟩ ≤ rlive rv' R.2 + 8 := Nat.le_trans (rlive_le _ _) (by rw [List.length_append]; exact Nat.le_refl _)
  have hp : (w' + 20) * 2 ^ rlive ((rv'.filter fun v => (alook v R.2.s.rs).isNone) ++ vs108) ⟨noneS, R.2.nx + 200⟩ ≤ 50000000 := by
    refine Nat.le_trans (Nat.mul_le_mul_left _ (Nat.pow_le_pow_right (by omega) hl)) ?_
    rw [Nat.pow_add]
    have h9 : 10 * 2 ^ rlive rv' R.2 ≤ w' * 2 ^ rlive rv' R.2 := Nat.mul_le_mul_right _ hwl
    generalize 2 ^ rlive rv' R.2 = p at *
    rw [← Nat.mul_assoc, Nat.add_mul]
    generalize w' * p = q at *
    omega
  have c1 : cntT (applyT R.2.s a) ≤ 100000 := by have := hP.inv.cnt a; omega
  have c2 : cntT (applyT (renS 8) (applyT s a)) ≤ 100000 := by
    have h1 := ren_cnt 8 (applyT s a)
    have h2 := cnt_said (C := 10) (fun n x e => (hs.ts n x e).2.2) (by omega) a
    omega
  have hn0 : (0 : Int) < R.2.nx + 200 := by omega
  obtain ⟨k2, R2, hR2⟩ := types_ex _ _ _ _ _ _ _ _ hI hn0 ra rb sa sb w3 w4 hp (by show R.2.nx + 200 + _ ≤ _; omega) (by omega) (by omega) (cb_of c1) (cb_of c2) rfl rfl
  obtain ⟨_, _, _, e2, _⟩ := types_post k2 _ _ _ R2 hR2 _ _ _ hI hn0 ra rb sa sb w3 w4
  have hm2 := types_mgu k2 _ _ _ R2 hR2 _ _ _ hI hn0 ra rb sa sb w3 w4 (mostS θ) (most_ok hG.ok) (abs_none _) hq
  exact ⟨k2, R2, hR2, by rcases e2 with h | h | h; (exact .inl h); (exact absurd h hm2.1); exact .inr h⟩

end Go.Proofs.YtlidonjpgigocaaGreat
