/-
  Laws of values, no program in sight. Conditions: those of each theorem.
-/
import Derived.Test.YtineijefefjpeaaDoorRefs2
import Derived.Test.YtineijefefjpeaaDoorPlain2
namespace Go.Proofs.YtineijefefjpeaaDoor
set_option linter.all false
open Go.RowKit
open Go.Lib (itoa formatBool decDigits)
theorem depth_min (t : VT) (left : Nat) (h : 1 ≤ left) : depthV left t = min left (deepV t) := by
  induction t using VT.rec_ generalizing left with
  | h t ih =>
    rw [depthV_eq, deepV_eq]
    have hk := kids_all t ih (fun l => ∀ left, 1 ≤ left → depthL left l = min left (deepL l)) (fun left _ => by simp [depthL, deepL]) (fun x l hx hl left h1 => by
      simp only [depthL, deepL, hx left h1, hl left h1]; omega)
    split
    · omega
    · rw [hk (left - 1) (by omega)]; omega
theorem right_deep (t : VT) (left : Nat) : rightV left t = (decide (deepV t ≤ left) && shapeV true t) := by
  rw [right_eq, depth_min t (left + 1) (by omega)]; congr 1
  rw [decide_eq_decide]; omega
theorem rightL_all (left : Nat) : ∀ l : List VT, rightL left l = l.all (rightV left)
  | [] => by simp [rightL]
  | x :: l => by simp [rightL, rightL_all left l]
theorem plainL_all : ∀ l : List VT, plainL l = l.all plainV
  | [] => by simp [plainL]
  | x :: l => by simp [plainL, plainL_all l]
theorem con_right {nm : Str} {l : List VT} (hn : nm ≠ []) (hd : ∀ u ∈ l, rightV 1000 u = true → deepV u < 999) : rightV 1000 ⟨4, 0, nm, l⟩ = l.all (rightV 1000) := by
  rw [rightV_eq]
  simp only [rightB, VT.kind, VT.n, VT.name, VT.kids]
  simp [hn, rightL_all]
  rw [Bool.eq_iff_iff]
  simp only [List.all_eq_true]
  constructor
  · intro h u hu
    have := h u hu
    rw [right_deep] at this ⊢
    simp only [Bool.and_eq_true, decide_eq_true_eq] at this ⊢
    exact ⟨by omega, this.2⟩
  · intro h u hu
    have h1 := h u hu
    have h2 := hd u hu h1
    rw [right_deep] at h1 ⊢
    simp only [Bool.and_eq_true, decide_eq_true_eq] at h1 ⊢
    exact ⟨by omega, h1.2⟩
theorem con_first {nm : Str} {l : List VT} (hn : nm ≠ []) (hd : ∀ u ∈ l, rightV 1000 u = true → deepV u < 999) : (rightV 1000 ⟨4, 0, nm, l⟩ && plainV ⟨4, 0, nm, l⟩) = l.all fun u => rightV 1000 u && plainV u := by
  rw [con_right hn hd, plainV_eq]
  simp only [VT.kind, VT.kids, plainL_all]
  simp only [show ¬ (4 : Int) = 6 by decide, show ¬ (4 : Int) = 5 by decide, decide_false, Bool.not_false, Bool.true_and]
  induction l with
  | nil => rfl
  | cons x l ih =>
    simp only [List.all_cons]
    rw [← ih fun u hu => hd u (.tail _ hu)]
    cases rightV 1000 x <;> cases plainV x <;> simp
theorem con_text {nm : Str} {l : List VT} : textV ⟨4, 0, nm, l⟩ = nm ++ pre l ++ (if l = [] then [] else [41]) := by
  rw [textV_eq]; unfold textB pre
  simp only [VT.kind, VT.n, VT.name, VT.kids]
  by_cases h : l = [] <;> simp [h]
def tower : Nat → VT → VT
  | 0, v => v
  | n + 1, v => ⟨4, 0, [67], [tower n v]⟩
theorem tower_bulk (v : VT) : ∀ n, bulkV (tower n v) = 2 * n + bulkV v
  | 0 => by simp [tower]
  | n + 1 => by simp only [tower, bulkV, bulkL, tower_bulk v n, List.length_cons, List.length_nil]; omega
theorem tower_deep (v : VT) : ∀ n, deepV (tower n v) = n + deepV v
  | 0 => by simp [tower]
  | n + 1 => by simp only [tower, deepV, deepL, tower_deep v n]; omega
theorem tower_shape (v : VT) : ∀ n, shapeV true (tower n v) = shapeV true v
  | 0 => by simp [tower]
  | n + 1 => by simp [tower, shapeV, shapeB, shapeL, tower_shape v n]
theorem tower_plain (v : VT) : ∀ n, plainV (tower n v) = plainV v
  | 0 => by simp [tower]
  | n + 1 => by simp [tower, plainV, plainL, tower_plain v n]
theorem tower_right {k n : Int} {s : Str} (N : Nat) : rightV 1000 (tower N ⟨k, n, s, []⟩) = (rightV 1000 ⟨k, n, s, []⟩ && decide (N < 1000)) := by
  rw [right_deep, right_deep, tower_deep, tower_shape]
  have : deepV ⟨k, n, s, []⟩ = 1 := by simp [deepV, deepL]
  rw [this]
  rw [show decide (N + 1 ≤ 1000) = decide (N < 1000) from by rw [decide_eq_decide]; omega]
  simp [Bool.and_comm]
theorem tower_len (v : VT) : ∀ n, (textV (tower n v)).length = 3 * n + (textV v).length
  | 0 => by simp [tower]
  | n + 1 => by
    have ih := tower_len v n
    rw [tower, con_text]
    have hj : Go.Lib.join [textV (tower n v)] [44, 32] = textV (tower n v) := by simp [Go.Lib.join]
    simp [pre, hj, ih]; omega
theorem leaf_len {k n : Int} {s : Str} (hn : InI64 n) : (textV ⟨k, n, s, []⟩).length ≤ s.length + 24 := by
  have h4 := itoa_len hn
  have h6 : ∀ b, (formatBool b).length ≤ 5 := fun b => by cases b <;> decide
  rw [textV_eq]; unfold textB
  simp only [VT.kind, VT.n, VT.name, VT.kids, List.map_nil, List.length_nil]
  split; omega
  split; exact Nat.le_trans (h6 _) (by omega)
  split; simp
  split; simp
  split; simp; omega
  simp
theorem tower_fit {k n : Int} {s : Str} (hn : InI64 n) (hs : s.length ≤ 140737488351232) : ∀ N, N < 1200 → fitV (tower N ⟨k, n, s, []⟩)
  | 0, _ => by
    have := leaf_len (k := k) (s := s) hn
    rw [tower, fitV_eq]
    exact ⟨by omega, by simp [VT.kids], by simp [VT.kids, fitL]⟩
  | N + 1, h => by
    have h1 := leaf_len (k := k) (s := s) hn
    have h2 := tower_len ⟨k, n, s, []⟩ (N + 1)
    have h3 := tower_fit (k := k) hn hs N (by omega)
    rw [fitV_eq]
    refine ⟨by omega, by simp [tower, VT.kids], ?_⟩
    simp only [tower, VT.kids, fitL]
    exact ⟨h3, trivial⟩

end Go.Proofs.YtineijefefjpeaaDoor
