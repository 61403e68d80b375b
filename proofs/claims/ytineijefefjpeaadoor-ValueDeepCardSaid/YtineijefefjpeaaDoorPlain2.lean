/-
  Laws of values, no program in sight. Conditions: those of each theorem.
-/
import Derived.Test.YtineijefefjpeaaDoorRefs2
namespace Go.Proofs.YtineijefefjpeaaDoor
set_option linter.all false
open Go.RowKit
theorem kids_all {p : VT → Prop} (t : VT) (h : ∀ u ∈ t.kids, p u) (q : List VT → Prop) (h0 : q []) (h1 : ∀ x l, p x → q l → q (x :: l)) : q t.kids := by
  have key : ∀ l : List VT, (∀ u ∈ l, u ∈ t.kids) → q l := by
    intro l
    induction l with
    | nil => intro _; exact h0
    | cons x xs ih => intro hl; exact h1 x xs (h x (hl x (.head _))) (ih fun u hu => hl u (.tail _ hu))
  exact key _ fun u hu => hu
theorem sameV_iff (t u : VT) : sameV t u = true ↔ t = u := by
  induction t using VT.rec_ generalizing u with
  | h t ih =>
    have hk := kids_all t ih (fun l => ∀ l' : List VT, sameL l l' = true ↔ l = l') (fun l' => by cases l' <;> simp [sameL]) (fun x l hx hl l' => by
      cases l' with
      | nil => simp [sameL]
      | cons y l' => simp [sameL, hx, hl])
    rw [sameV_eq]
    obtain ⟨k, n, s, ks⟩ := t; obtain ⟨k', n', s', ks'⟩ := u
    simp only [VT.kids, VT.kind, VT.n, VT.name] at *
    simp only [hk, Bool.and_eq_true, VT.mk.injEq, and_assoc]
    exact ⟨fun ⟨a, b, c, d⟩ => ⟨of_decide_eq_true a, of_decide_eq_true b, of_decide_eq_true c, d⟩, fun ⟨a, b, c, d⟩ => ⟨decide_eq_true a, decide_eq_true b, decide_eq_true c, d⟩⟩
theorem sameV_self (t : VT) : sameV t t = true := (sameV_iff t t).2 rfl
theorem sameV_dec (t u : VT) : sameV t u = true ∨ (sameV t u = false ∧ t ≠ u) := by
  cases h : sameV t u with
  | true => exact .inl rfl
  | false => exact .inr ⟨rfl, fun e => by rw [(sameV_iff t u).2 e] at h; cases h⟩
theorem right_eq (t : VT) (left : Nat) : rightV left t = (decide (depthV (left + 1) t ≤ left) && shapeV true t) := by
  induction t using VT.rec_ generalizing left with
  | h t ih =>
    have hk := kids_all t ih (fun l => ∀ left, rightL left l = (decide (depthL (left + 1) l ≤ left) && shapeL true l)) (fun left => by simp [rightL, depthL, shapeL]) (fun x l hx hl left => by
      rw [rightL, hx, hl, depthL, shapeL]
      by_cases h1 : depthV (left + 1) x ≤ left <;> by_cases h2 : depthL (left + 1) l ≤ left
      · rw [show decide (max (depthV (left + 1) x) (depthL (left + 1) l) ≤ left) = true from decide_eq_true (by omega)]; simp [h1, h2, Bool.and_left_comm, Bool.and_assoc]
      · rw [show decide (max (depthV (left + 1) x) (depthL (left + 1) l) ≤ left) = false from decide_eq_false (by omega)]; simp [h1, h2]
      · rw [show decide (max (depthV (left + 1) x) (depthL (left + 1) l) ≤ left) = false from decide_eq_false (by omega)]; simp [h1, h2]
      · rw [show decide (max (depthV (left + 1) x) (depthL (left + 1) l) ≤ left) = false from decide_eq_false (by omega)]; simp [h1, h2])
    rw [rightV_eq, depthV_eq, shapeV_eq]
    unfold rightB shapeB
    by_cases h0 : left = 0
    · subst h0; simp
    · have hl := hk (left - 1)
      rw [show left - 1 + 1 = left by omega] at hl
      have hd : decide ((if left + 1 ≤ 1 then left + 1 else depthL (left + 1 - 1) t.kids + 1) ≤ left) = decide (depthL left t.kids ≤ left - 1) := by
        rw [if_neg (by omega), decide_eq_decide, Nat.add_sub_cancel]; omega
      rw [hd, hl]
      by_cases h4 : t.kind = 4
      · simp [h0, h4, Bool.and_left_comm]
      · by_cases hlen : t.kids.length = 0
        · have hks := List.eq_nil_of_length_eq_zero hlen
          simp only [hks, depthL]
          by_cases hs : t.name = [] <;> simp [h0, h4, hs]
          by_cases h1 : t.kind = 1 <;> by_cases h2 : t.kind = 2 <;> by_cases h3 : t.kind = 3 <;> by_cases h5 : t.kind = 5 <;> by_cases h6 : t.kind = 6 <;> simp_all <;> omega
        · have hp : 0 < t.kids.length := by omega
          simp [h0, h4, hlen, hp]
theorem plain_shape (t : VT) : shapeV false t = (shapeV true t && plainV t) := by
  induction t using VT.rec_ with
  | h t ih =>
    have hk := kids_all t ih (fun l => shapeL false l = (shapeL true l && plainL l)) (by simp [shapeL, plainL]) (fun x l hx hl => by
      rw [shapeL, hx, hl, shapeL, plainL]; cases shapeV true x <;> cases plainV x <;> simp)
    rw [shapeV_eq, shapeV_eq, plainV_eq, hk]
    unfold shapeB
    by_cases h4 : t.kind = 4
    · simp [h4, Bool.and_assoc]
    · by_cases hlen : t.kids.length = 0
      · have hks := List.eq_nil_of_length_eq_zero hlen
        simp only [hks, plainL]
        by_cases h5 : t.kind = 5 <;> by_cases h6 : t.kind = 6 <;> simp_all
      · simp [h4, hlen]
theorem right0_eq (t : VT) : rightV 1000 t = (decide (depthV 1001 t ≤ 1000) && shapeV true t) := right_eq t 1000
theorem first0_eq (t : VT) : (rightV 1000 t && plainV t) = (decide (depthV 1001 t ≤ 1000) && shapeV false t) := by rw [right0_eq, plain_shape, Bool.and_assoc]

end Go.Proofs.YtineijefefjpeaaDoor
