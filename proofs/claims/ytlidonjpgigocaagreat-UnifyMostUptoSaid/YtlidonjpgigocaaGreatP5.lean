/-
  'brocadelaw07': what the laws say, in plain words. Conditions: those of each theorem.
-/
import Derived.Test.YtlidonjpgigocaaGreatP4
namespace Go.Proofs.YtlidonjpgigocaaGreat
set_option linter.all false
set_option maxRecDepth 4000
open Go.RowKit
theorem runU_mono {f g h f' h' : USt → Option (Int × USt)} (hf : ∀ U R, f U = some R → f' U = some R) (hh : ∀ U R, h U = some R → h' U = some R) {U : USt} {R : Int × USt} (e : runU [f, g, h] U = some R) : runU [f', g, h'] U = some R := by
  obtain ⟨r1, a1, b1⟩ := run_cons e
  rw [runU, hf _ _ a1]; dsimp only
  split at b1
  · rw [if_pos (by assumption)]; exact b1
  · rw [if_neg (by assumption)]
    obtain ⟨r2, a2, b2⟩ := run_cons b1
    rw [runU, a2]; dsimp only
    split at b2
    · rw [if_pos (by assumption)]; exact b2
    · rw [if_neg (by assumption)]
      obtain ⟨r3, a3, b3⟩ := run_cons b2
      rw [runU, hh _ _ a3]; exact b3
theorem typesB_mono {r r' : Ty → Ty → USt → Option (Int × USt)} (h : ∀ a b U R, r a b U = some R → r' a b U = some R) {a b : Ty} {U : USt} {R : Int × USt} (e : typesB r a b U = some R) : typesB r' a b U = some R := by
  unfold typesB at e ⊢
  by_cases c1 : a = b
  · rw [if_pos c1] at e ⊢; exact e
  · rw [if_neg c1] at e ⊢
    by_cases c2 : a.kind = 7
    · rw [if_pos c2] at e ⊢; exact e
    · rw [if_neg c2] at e ⊢
      by_cases c3 : b.kind = 7
      · rw [if_pos c3] at e ⊢; exact e
      · rw [if_neg c3] at e ⊢
        by_cases c4 : a.kind ≠ b.kind ∨ a.args.length ≠ b.args.length
        · rw [if_pos c4] at e ⊢; exact e
        · rw [if_neg c4] at e ⊢
          by_cases c5 : a.kind = 6 ∧ a.args.length = 1
          · rw [if_pos c5] at e ⊢; exact h _ _ _ _ e
          · rw [if_neg c5] at e ⊢
            by_cases c6 : a.kind = 5 ∧ a.args.length = 2
            · rw [if_pos c6] at e ⊢; exact runU_mono (fun U R q => h _ _ _ _ q) (fun U R q => h _ _ _ _ q) e
            · rw [if_neg c6] at e ⊢; exact e
theorem typesU_succ : ∀ (k : Nat) (a b : Ty) (U : USt) (R : Int × USt), typesU k a b U = some R → typesU (k + 1) a b U = some R
  | 0, a, b, U, R, h => by rw [typesU] at h; cases h
  | k + 1, a, b, U, R, h => by
    obtain ⟨h1, h2⟩ := typesU_ok h
    rw [typesU, if_pos h1]
    exact typesB_mono (typesU_succ k) h2
theorem typesU_le {k j : Nat} (h : k ≤ j) {a b : Ty} {U : USt} {R : Int × USt} (e : typesU k a b U = some R) : typesU j a b U = some R := by
  induction h with
  | refl => exact e
  | step _ ih => exact typesU_succ _ _ _ _ _ ih
theorem nodup_bound : ∀ (N : Nat) (l : List Int), l.Nodup → (∀ x ∈ l, 1 ≤ x ∧ x ≤ (N : Int)) → l.length ≤ N
  | 0, l, _, h => by
    cases l with
    | nil => exact Nat.le_refl _
    | cons x l => have := h x (.head _); omega
  | N + 1, l, hn, h => by
    have h1 := nodup_bound N (l.erase ((N + 1 : Nat) : Int)) (hn.erase _) (fun x hx => by
      have h2 := h x (List.mem_of_mem_erase hx)
      have h3 : x ≠ ((N + 1 : Nat) : Int) := fun e => by subst e; exact (List.Nodup.not_mem_erase hn) hx
      omega)
    have h2 := List.length_erase (a := ((N + 1 : Nat) : Int)) (l := l)
    split at h2 <;> omega
theorem UInv.okS {tv rv : List Int} {w : Nat} {U : USt} (h : UInv tv rv w U) (hw : w ≤ 50000000) (h0 : 0 < U.nx) (hn : U.nx ≤ 1000000) : OkS U := by
  have hk : ∀ p ∈ U.s.ts, alook p.1 U.s.ts = some p.2 := fun p hp => alook_of_mem h.ap.1 hp
  have hr : ∀ p ∈ U.s.rs, alook p.1 U.s.rs = some p.2 := fun p hp => alook_of_mem h.ap.2 hp
  refine ⟨fun p hp => ?_, fun p hp => ?_, ⟨?_, ?_⟩, ⟨by omega, by omega⟩⟩
  · obtain ⟨a, _, c, d, _⟩ := h.tk _ _ (hk p hp)
    have := h.tp _ a
    unfold largeT at c
    rw [Bool.or_eq_false_iff] at c
    have c1 := c.1
    simp only [decide_eq_false_iff_not] at c1
    exact ⟨by omega, by omega, by unfold InI64; omega⟩
  · obtain ⟨a, _, c, _⟩ := h.rk _ _ (hr p hp)
    have := h.rp _ a
    exact ⟨by omega, by unfold InI64; omega⟩
  · rw [← List.length_map (f := Prod.fst)]
    refine nodup_bound _ _ h.ap.1 fun x hx => ?_
    obtain ⟨p, hp, rfl⟩ := List.mem_map.1 hx
    exact h.tp _ (h.tk _ _ (hk p hp)).1
  · rw [← List.length_map (f := Prod.fst)]
    refine nodup_bound _ _ h.ap.2 fun x hx => ?_
    obtain ⟨p, hp, rfl⟩ := List.mem_map.1 hx
    have := h.rp _ (h.rk _ _ (hr p hp)).1
    exact ⟨this.1, by omega⟩
/-- However much more is said, a type does not become too large for a machine. -/
def CB (tv : List Int) (U : USt) (a : Ty) : Prop := ∀ rv' w' V, UInv tv rv' w' V → Abs V.s U.s → cntT (applyT V.s a) ≤ 100000000
theorem CB.arg {tv rv : List Int} {w : Nat} {U V : USt} {a x : Ty} (h : CB tv U a) (hU : UInv tv rv w U) (hab : Abs V.s U.s) (ra : rightT a = true) (h7 : ¬ (applyT U.s a).kind = 7) (hx : x ∈ (applyT U.s a).args) : CB tv V x := fun rv' w' W hW hWV => by
  have hWU := hWV.trans hab hU.ok
  have h1 := h rv' w' W hW hWU
  rw [← abs_type hWU a ra, cntT_eq, (apply_args (s := W.s) h7).2.2.2.1, applyTs_map] at h1
  have h2 := cntTs_mem (List.mem_map.2 ⟨x, hx, rfl⟩ : applyT W.s x ∈ (applyT U.s a).args.map (applyT W.s))
  omega
theorem typesB_fun {r : Ty → Ty → USt → Option (Int × USt)} {x1 y1 x2 y2 : Ty} {l1 l2 : List Str} {r1 r2 : Int} {U : USt} (hne : ¬ (⟨5, [], 0, [x1, y1], l1, r1⟩ : Ty) = ⟨5, [], 0, [x2, y2], l2, r2⟩) :
    typesB r ⟨5, [], 0, [x1, y1], l1, r1⟩ ⟨5, [], 0, [x2, y2], l2, r2⟩ U = runU [r x1 x2, rowsO ⟨l1, r1⟩ ⟨l2, r2⟩, r y1 y2] U := by
  unfold typesB
  rw [if_neg hne, if_neg (by simp [Ty.kind]), if_neg (by simp [Ty.kind]), if_neg (by simp [Ty.kind, Ty.args]), if_neg (by simp [Ty.kind]), if_pos (by simp [Ty.kind, Ty.args])]
  rfl
theorem typesB_ref {r : Ty → Ty → USt → Option (Int × USt)} {x y : Ty} {U : USt} (hne : ¬ (⟨6, [], 0, [x], [], 0⟩ : Ty) = ⟨6, [], 0, [y], [], 0⟩) : typesB r ⟨6, [], 0, [x], [], 0⟩ ⟨6, [], 0, [y], [], 0⟩ U = r x y U := by
  unfold typesB
  rw [if_neg hne, if_neg (by simp [Ty.kind]), if_neg (by simp [Ty.kind]), if_neg (by simp [Ty.kind, Ty.args]), if_pos (by simp [Ty.kind, Ty.args])]
  rfl
theorem run_stop {f : USt → Option (Int × USt)} {l : List (USt → Option (Int × USt))} {U : USt} {r : Int × USt} (h : f U = some r) (h0 : r.1 ≠ 0) : runU (f :: l) U = some r := by rw [runU, h]; dsimp only; rw [if_pos h0]
theorem run_go {f : USt → Option (Int × USt)} {l : List (USt → Option (Int × USt))} {U : USt} {r : Int × USt} (h : f U = some r) (h0 : r.1 = 0) : runU (f :: l) U = runU l r.2 := by rw [runU, h]; dsimp only; rw [if_neg (by omega)]
theorem le_pow {w n : Nat} : w ≤ w * 2 ^ n := Nat.le_mul_of_pos_right _ (Nat.pow_pos (by omega))
/-- Types that are in scope, and not too large, come to an end. -/
theorem types_ex (tv : List Int) : ∀ (m n : Nat) (a b : Ty) (U : USt) (rv : List Int) (w : Nat), UInv tv rv w U → 0 < U.nx → rightT a = true → rightT b = true → Sc tv rv a → Sc tv rv b → wdT (applyT U.s a) ≤ w → wdT (applyT U.s b) ≤ w →
    w * 2 ^ rlive rv U ≤ 50000000 → U.nx + rlive rv U ≤ 1000000 → wdT a ≤ 50000000 → wdT b ≤ 50000000 → CB tv U a → CB tv U b → tlive tv U = m → cntT (applyT U.s a) = n → ∃ k R, typesU k a b U = some R := by
  intro m
  induction m using Nat.strongRecOn with
  | _ m ihm =>
  intro n
  induction n using Nat.strongRecOn with
  | _ n ihn =>
  intro a b U rv w hI h0 ra rb sa sb wa wb hbud hnx ba bb ca cb hm hn
  have hw5 : w ≤ 50000000 := Nat.le_trans le_pow hbud
  have hok : OkS U ∧ OkT U a ∧ OkT U b := ⟨hI.okS hw5 h0 (by omega), ⟨ba, ca _ _ _ hI hI.self⟩, ⟨bb, cb _ _ _ hI hI.self⟩⟩
  have da := hI.sc ra sa; have db := hI.sc rb sb
  have pra := right_and hI.ok ra; have prb := right_and hI.ok rb
  have ea := abs_type hI.self a ra; have eb := abs_type hI.self b rb
  have argA : ∀ {V : USt} {x : Ty}, Abs V.s U.s → ¬ (applyT U.s a).kind = 7 → x ∈ (applyT U.s a).args → CB tv V x := fun h1 h2 h3 => ca.arg hI h1 ra h2 h3
  have argB : ∀ {V : USt} {x : Ty}, Abs V.s U.s → ¬ (applyT U.s b).kind = 7 → x ∈ (applyT U.s b).args → CB tv V x := fun h1 h2 h3 => cb.arg hI h1 rb h2 h3
  suffices hs : ∃ k R, typesB (typesU k) (applyT U.s a) (applyT U.s b) U = some R by
    obtain ⟨k, R, h⟩ := hs
    exact ⟨k + 1, R, by rw [typesU, if_pos hok]; exact h⟩
  clear hok
  generalize applyT U.s a = pa at *
  generalize applyT U.s b = pb at *
  by_cases c1 : pa = pb
  · exact ⟨0, _, by unfold typesB; rw [if_pos c1]⟩
  by_cases c2 : pa.kind = 7
  · exact ⟨0, _, by unfold typesB; rw [if_neg c1, if_pos c2]⟩
  by_cases c3 : pb.kind = 7
  · exact ⟨0, _, by unfold typesB; rw [if_neg c1, if_neg c2, if_pos c3]⟩
  by_cases c4 : pa.kind ≠ pb.kind ∨ pa.args.length ≠ pb.args.length
  · exact ⟨0, _, by unfold typesB; rw [if_neg c1, if_neg c2, if_neg c3, if_pos c4]⟩
  have hk : pa.kind = pb.kind := Decidable.byContradiction fun h => c4 (.inl h)
  by_cases c5 : pa.kind = 6 ∧ pa.args.length = 1
  · obtain ⟨x, rfl, rx⟩ := right_ref pra c5.1
    obtain ⟨y, rfl, ry⟩ := right_ref prb (hk ▸ c5.1)
    have dx := da.here.2.2 x (.head _); have dy := db.here.2.2 y (.head _)
    have ux : applyT U.s x = x := apply_free rx (dx.mono (fun _ q => q.2) (fun _ q => q.2))
    have uy : applyT U.s y = y := apply_free ry (dy.mono (fun _ q => q.2) (fun _ q => q.2))
    have wx : wdT x ≤ w := Nat.le_trans (wdT_arg (t := ⟨6, [], 0, [x], [], 0⟩) (.head _)) wa
    have wy : wdT y ≤ w := Nat.le_trans (wdT_arg (t := ⟨6, [], 0, [y], [], 0⟩) (.head _)) wb
    have hc := cntT_eq (⟨6, [], 0, [x], [], 0⟩ : Ty)
    simp only [Ty.args, cntTs] at hc
    obtain ⟨k, R, h⟩ := ihn (cntT (applyT U.s x)) (by rw [ux]; omega) x y U rv w hI h0 rx ry (dx.mono (fun _ q => q.1) (fun _ q => q.1)) (dy.mono (fun _ q => q.1) (fun _ q => q.1)) (by rw [ux]; exact wx) (by rw [uy]; exact wy) hbud hnx (by omega) (by omega)
      (argA hI.self c2 (.head _)) (argB hI.self c3 (.head _)) hm rfl
    exact ⟨k, R, by rw [typesB_ref c1]; exact h⟩
  by_cases c6 : pa.kind = 5 ∧ pa.args.length = 2
  · obtain ⟨x1, y1, l1, r1, rfl, rx1, ry1, ro1⟩ := right_fun pra c6.1
    obtain ⟨x2, y2, l2, r2, rfl, rx2, ry2, ro2⟩ := right_fun prb (hk ▸ c6.1)
    have dx1 := da.here.2.2 x1 (.head _); have dx2 := db.here.2.2 x2 (.head _)
    have dy1 := da.here.2.2 y1 (.tail _ (.head _)); have dy2 := db.here.2.2 y2 (.tail _ (.head _))
    have dr1 := da.here.2.1 rfl; have dr2 := db.here.2.1 rfl
    have fr : ∀ {z : Ty}, rightT z = true → AllV (fun v => v ∈ tv ∧ alook v U.s.ts = none) (fun v => v ∈ rv ∧ alook v U.s.rs = none) z → applyT U.s z = z := fun h k => apply_free h (k.mono (fun _ q => q.2) (fun _ q => q.2))
    have sc : ∀ {z : Ty} {rv' : List Int}, (∀ v ∈ rv, v ∈ rv') → AllV (fun v => v ∈ tv ∧ alook v U.s.ts = none) (fun v => v ∈ rv ∧ alook v U.s.rs = none) z → Sc tv rv' z := fun h k => k.mono (fun _ q => q.1) (fun _ q => h _ q.1)
    have w1 : ∀ {z : Ty}, z ∈ [x1, y1] → wdT z ≤ w := fun h => Nat.le_trans (wdT_arg (t := ⟨5, [], 0, [x1, y1], l1, r1⟩) h) wa
    have w2 : ∀ {z : Ty}, z ∈ [x2, y2] → wdT z ≤ w := fun h => Nat.le_trans (wdT_arg (t := ⟨5, [], 0, [x2, y2], l2, r2⟩) h) wb
    have hc := cntT_eq (⟨5, [], 0, [x1, y1], l1, r1⟩ : Ty)
    simp only [Ty.args, cntTs] at hc
    have up : ∀ {z : Ty}, wdT z ≤ w → wdT z ≤ 50000000 := fun h => Nat.le_trans h hw5
    obtain ⟨k1, R1, e1⟩ := ihn (cntT (applyT U.s x1)) (by rw [fr rx1 dx1]; omega) x1 x2 U rv w hI h0 rx1 rx2 (sc (fun _ q => q) dx1) (sc (fun _ q => q) dx2) (by rw [fr rx1 dx1]; exact w1 (.head _)) (by rw [fr rx2 dx2]; exact w2 (.head _)) hbud hnx (up (w1 (.head _))) (up (w2 (.head _)))
      (argA hI.self c2 (.head _)) (argB hI.self c3 (.head _)) hm rfl
    obtain ⟨rv1, z1, hP1, _, g1⟩ := types_post _ _ _ _ _ e1 tv rv w hI h0 rx1 rx2 (sc (fun _ q => q) dx1) (sc (fun _ q => q) dx2) (by rw [fr rx1 dx1]; exact w1 (.head _)) (by rw [fr rx2 dx2]; exact w2 (.head _))
    by_cases hn1 : R1.1 = 0
    · have wp1 := hP1.wd _ pra (by rw [ea]; exact wa)
      have wp2 := hP1.wd _ prb (by rw [eb]; exact wb)
      rw [fun_apply, wdT_eq] at wp1 wp2
      simp only [Ty.labels] at wp1 wp2
      have hz1 : z1 ≤ 50000000 := Nat.le_trans le_pow (Nat.le_trans hP1.bud hbud)
      have hn1' := hP1.nx
      have hw1 := wdT_eq (⟨5, [], 0, [x1, y1], l1, r1⟩ : Ty); have hw2 := wdT_eq (⟨5, [], 0, [x2, y2], l2, r2⟩ : Ty)
      simp only [Ty.labels] at hw1 hw2
      have e3 : rowsO ⟨l1, r1⟩ ⟨l2, r2⟩ R1.2 = some (rowsU ⟨l1, r1⟩ ⟨l2, r2⟩ R1.2) := by
        unfold rowsO; rw [if_pos ⟨hP1.inv.okS hz1 (by omega) (by omega), by show l1.length ≤ _; omega, by show l2.length ≤ _; omega⟩]
      rcases hr2 : rowsU ⟨l1, r1⟩ ⟨l2, r2⟩ R1.2 with ⟨f2, V2⟩
      rw [hr2] at e3
      rcases rows_post hP1.inv (by omega) ro1 ro2 (fun p => hP1.sub _ (dr1 p).1) (fun p => hP1.sub _ (dr2 p).1) (by omega) (by omega) hr2 with ⟨q1, q2⟩ | ⟨q1, rv2, z2, hP2, g2⟩
      · exact ⟨k1, (f2, V2), by rw [typesB_fun c1, run_go e1 hn1, run_stop e3 (by rw [q1]; simp)]⟩
      · have hP12 := hP1.trans hI hP2
        have hn2 := hP12.nx
        have hy : ∃ k3 R3, typesU k3 y1 y2 V2 = some R3 := by
          have args := And.intro (hP12.wd _ ry1 (by rw [fr ry1 dy1]; exact w1 (.tail _ (.head _)))) (hP12.wd _ ry2 (by rw [fr ry2 dy2]; exact w2 (.tail _ (.head _))))
          rcases Nat.lt_or_ge (tlive tv V2) m with hlt | hge
          · exact ihm (tlive tv V2) hlt (cntT (applyT V2.s y1)) y1 y2 V2 rv2 z2 hP12.inv (by omega) ry1 ry2 (sc hP12.sub dy1) (sc hP12.sub dy2) args.1 args.2 (Nat.le_trans hP12.bud hbud) (by omega) (up (w1 (.tail _ (.head _)))) (up (w2 (.tail _ (.head _)))) (argA hP12.ab c2 (.tail _ (.head _))) (argB hP12.ab c3 (.tail _ (.head _))) rfl rfl
          · have hcn : cntT (applyT V2.s y1) = cntT y1 := by
              rcases hP12.cn with q | q
              · omega
              · rw [q, fr ry1 dy1]
            exact ihn (cntT (applyT V2.s y1)) (by omega) y1 y2 V2 rv2 z2 hP12.inv (by omega) ry1 ry2 (sc hP12.sub dy1) (sc hP12.sub dy2) args.1 args.2 (Nat.le_trans hP12.bud hbud) (by omega) (up (w1 (.tail _ (.head _)))) (up (w2 (.tail _ (.head _)))) (argA hP12.ab c2 (.tail _ (.head _))) (argB hP12.ab c3 (.tail _ (.head _))) (by have := hP12.tl; omega) rfl
        obtain ⟨k3, R3, e5⟩ := hy
        have e1' := typesU_le (Nat.le_max_left k1 k3) e1
        have e5' := typesU_le (Nat.le_max_right k1 k3) e5
        by_cases hn3 : R3.1 = 0
        · exact ⟨max k1 k3, (0, R3.2), by rw [typesB_fun c1, run_go e1' hn1, run_go e3 q1, run_go e5' hn3]; rfl⟩
        · exact ⟨max k1 k3, R3, by rw [typesB_fun c1, run_go e1' hn1, run_go e3 q1, run_stop e5' hn3]⟩
    · exact ⟨k1, R1, by rw [typesB_fun c1, run_stop e1 hn1]⟩
  · exact ⟨0, _, by unfold typesB; rw [if_neg c1, if_neg c2, if_neg c3, if_neg c4, if_neg c5, if_neg c6]⟩

end Go.Proofs.YtlidonjpgigocaaGreat
