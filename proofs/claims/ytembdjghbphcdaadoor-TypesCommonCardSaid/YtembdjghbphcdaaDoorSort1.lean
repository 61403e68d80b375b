/-
  slices.Sort, Clone and Delete at strings, said of rows of one's own; sorted rows of labels. Conditions: those of each theorem.
-/
import Derived.Test.YtembdjghbphcdaaDoorLib1
import Derived.Test.YtembdjghbphcdaaDoorMrow
import Derived.Test.YtembdjghbphcdaaDoorSlices1
import Derived.Sort.Walk0
namespace Go.Proofs.YtembdjghbphcdaaDoor
set_option linter.all false
set_option maxRecDepth 4000
open Go.RowKit
theorem mrow_of_owns {w w' : World} {m : Mem} {e : TypeId} {size n : Nat} {v : Value} {xs : List Value} (ha : Agree w m) (h : w'.ownsRow w.heap.size e size v n xs) (hb : Below w.heap.size w w') : Touch .free (.mrow v n size e xs) w m w' m := by
  obtain ⟨hl, h⟩ := h
  rcases h with ⟨rfl, rfl⟩ | ⟨g, cap, cur, rfl, hg, hh, h1, h2, h3, h4⟩
  · exact ⟨(ExtG.of_below ha hb).mono (by simp), ⟨hl, none, 0, rfl, Nat.le_refl _, Nat.zero_le _, .inl rfl⟩, List.nodup_nil, fun g hg => by cases hg⟩
  · exact mrow_new ha hl h1 h2 h3 h4 hb hg hh
theorem put_heap {w w' : World} {g k : Nat} {f : Array Value → Array Value} {os : Array Obj} {cur : Array Value} {e : TypeId} (hh : w.heap[g]? = some (.cells cur e (0, 0))) (hw : w' = Go.Sort.grow (Go.Sort.mapBlock (Go.Sort.ahead w k) g f) os) :
    w'.heap[g]? = some (.cells (f cur) e (0, 0)) ∧ w'.os = w.os ∧ w'.tape = w.tape ∧ w'.output = w.output ∧ w.heap.size ≤ w'.heap.size ∧ ∀ b, b < w.heap.size → b ≠ g → w'.heap[b]? = w.heap[b]? := by
  have hg : g < w.heap.size := lt_of_heap hh
  subst hw
  refine ⟨?_, rfl, rfl, rfl, by simp [Go.Sort.grow, Go.Sort.mapBlock, Go.Sort.ahead], fun b hb hne => ?_⟩
  · simp only [Go.Sort.grow, Go.Sort.mapBlock, Go.Sort.ahead]
    rw [Array.getElem?_append_left (by simpa using hg), Array.getElem?_modify, if_pos rfl, hh]; rfl
  · simp only [Go.Sort.grow, Go.Sort.mapBlock, Go.Sort.ahead]
    rw [Array.getElem?_append_left (by simpa using hb), Array.getElem?_modify, if_neg (Ne.symm hne)]
theorem putCells_take {α : Type} [Inhabited α] (enc : α → Value) (d : List α) (c : Array Value) (h : d.length ≤ c.size) : (Go.Sort.putCells enc 0 d.toArray c).toList.take d.length = d.map enc := by
  apply List.ext_getElem?
  intro i
  rw [List.getElem?_take, List.getElem?_map]
  split
  · rename_i hi
    have h1 : i < c.size := by omega
    simp only [Go.Sort.putCells, Array.getElem?_toList, Array.getElem?_mapIdx, List.size_toArray, Nat.zero_le, Nat.zero_add, true_and, if_pos hi, Nat.sub_zero, Array.getElem?_eq_getElem h1, Option.map_some]
    rw [getElem!_pos d.toArray i (by simpa using hi), List.getElem?_eq_getElem hi]; simp
  · rename_i hi
    rw [List.getElem?_eq_none (by omega)]; rfl
theorem putCells_size {α : Type} [Inhabited α] (enc : α → Value) (o : Nat) (d : Array α) (c : Array Value) : (Go.Sort.putCells enc o d c).size = c.size := by simp [Go.Sort.putCells]
theorem holds_row {w : World} {g : Nat} {cur : Array Value} {e : TypeId} {l : List Str} (hh : w.heap[g]? = some (.cells cur e (0, 0))) (ht : cur.toList.take (l.length * 1) = l.map S) (hl : l.length ≤ cur.size) : Go.Sort.Holds S w g 0 l.toArray := by
  intro j hj
  have hj' : j < l.length := by simpa using hj
  have h1 : cur[j]? = some (S l[j]) := by
    have h2 := congrArg (fun q => q[j]?) ht
    simp only [List.getElem?_take, Nat.mul_one, if_pos hj', List.getElem?_map, List.getElem?_eq_getElem hj', Option.map_some, Array.getElem?_toList] at h2
    exact h2
  refine ⟨?_, ?_⟩
  · unfold World.cell?; simp only [hh, Nat.zero_add, h1]
    rw [getElem!_pos l.toArray j hj]; simp
  · unfold World.frozen?; simp [hh]
def sortS (l : List Str) : List Str := l.mergeSort fun x y => decide (x ≤ y)

theorem sortS_t {w : World} {m : Mem} {o : Option Addr} {cap : Nat} {l : List Str} (hA : Agree w m) (hr : (Res.mrow (.slice o l.length cap) l.length 1 9 (l.map S)).holds w m) (hsz : l.length < 4611686018427387904) :
    Calls Tryd.prog 43 #[.slice o l.length cap] w fun e w' => ∃ v m', e = .returned v ∧ Touch (.mrow (.slice o l.length cap) l.length 1 9 (l.map S)) (.mrow (.slice o l.length cap) l.length 1 9 ((sortS l).map S)) w m w' m' ∧ (Kn.ex MP.any).holds m' v := by
  by_cases h0 : l.length = 0
  · obtain rfl : l = [] := List.eq_nil_of_length_eq_zero h0
    refine Calls.mono (Tryd.slices_Sort_string_none o cap w) fun e w' ⟨e1, e2⟩ => ⟨_, m, e1, ?_, _, rfl, trivial⟩
    subst e2
    exact ⟨ExtG.refl _ hA, by simpa [sortS] using hr, mrow_nodup _ _ _ _ _, fun g hg => .inl hg⟩
  · obtain ⟨hlen, o', cap', e1, hnc, hcm, h⟩ := hr
    injection e1 with e1 e2 e3; subst e1; subst e3
    rcases h with h | ⟨g, cur, rfl, hh, h3, h4, h5⟩
    · omega
    · refine Calls.mono (Tryd.slices_Sort_string g 0 cap l w (holds_row hh h4 (by omega)) (lt_of_heap hh) hsz) fun e w' ⟨e1, k, os, e2⟩ => ⟨_, m, e1, ?_, _, rfl, trivial⟩
      obtain ⟨p1, p2, p3, p4, p5, p6⟩ := put_heap hh e2
      have hsl : (sortS l).length = l.length := by simp [sortS]
      refine mrow_write hA (by omega) hcm hh h5 hnc (by simp [hsl]) p1 (by rw [putCells_size]; exact h3) ?_ p2 p3 p4 p5 p6
      have := putCells_take S (sortS l) cur (by omega)
      rw [hsl] at this
      rw [Nat.mul_one]; exact this

theorem cloneS_t {w : World} {m : Mem} {o : Option Addr} {c : Nat} {l : List Str} (hA : Agree w m) (h : Strs m o l.length c l) (hbig : l.length ≤ 1073741824) :
    Calls Tryd.prog 45 #[.slice o l.length c] w fun e w' => ∃ v m', e = .returned v ∧ Touch .free (.mrow v l.length 1 9 (l.map S)) w m w' m' ∧ (Kn.ex (MP.made' l.length)).holds m' v := by
  cases o with
  | none =>
    cases l with
    | cons x l => obtain ⟨p, vs, e, _⟩ := h.at_ 0 x rfl; cases e
    | nil =>
      refine Calls.mono (Tryd.slices_Clone_string_nil 0 c w) fun e w' ⟨e1, e2⟩ => ⟨_, m, e1, ?_, (none, 0), rfl, Nat.le_refl _⟩
      subst e2
      exact ⟨ExtG.refl _ hA, ⟨rfl, none, 0, rfl, Nat.le_refl _, Nat.zero_le _, .inl rfl⟩, List.nodup_nil, fun g hg => by cases hg⟩
  | some p =>
    cases l with
    | nil =>
      refine Calls.mono (Tryd.slices_Clone_string_zero p c w) fun e w' ⟨v, e1, e2, _, e3⟩ => ⟨v, m, e1, mrow_of_owns hA e2 e3, ?_⟩
      obtain ⟨o', cap', e4, e5, _⟩ := Res.mrow_val (mrow_of_owns hA e2 e3).now
      exact ⟨(o', cap'), e4, e5⟩
    | cons x l =>
      have hr := h.row1 (f := S)
      rcases hr with hr | ⟨q, e0, hc⟩
      · simp at hr
      · injection e0 with e0; subst e0
        obtain ⟨b, off, spot⟩ := p
        obtain rfl : spot = none := hc.1
        refine Calls.mono (Tryd.slices_Clone_string b off (x :: l).length c ((x :: l).map fun s => (⟨s.toArray⟩ : ByteArray)) w (by simp) (by omega) (fun j hj => ?_)) fun e w' ⟨v, e1, e2, _, e3⟩ => ?_
        · have hj' : j < (x :: l).length := by simpa using hj
          have h1 := hA.cell _ _ _ (hc.2 j (S (x :: l)[j]) (by rw [List.getElem?_map, List.getElem?_eq_getElem hj']; rfl))
          rw [h1, List.getD_eq_getElem?_getD, List.getElem?_map, List.getElem?_eq_getElem hj']; rfl
        · rw [List.take_of_length_le (by simp), List.map_map] at e2
          have ht := mrow_of_owns hA e2 e3
          obtain ⟨o', cap', e4, e5, _⟩ := Res.mrow_val ht.now
          exact ⟨v, m, e1, ht, (o', cap'), e4, e5⟩

theorem cloneR_t {w : World} {m : Mem} {o : Option Addr} {c : Nat} {l : List Str} (hA : Agree w m) (h : Strs m o l.length c l) (hbig : l.length ≤ 1073741824) :
    Calls Tryd.prog 45 #[.slice o l.length c] w fun e w' => ∃ v m', e = .returned v ∧ Touch .free (.row (nz v) l.length 1 9 (l.map S)) w m w' m' ∧ (Kn.ex (MP.sl l.length (l.map S))).holds m' v :=
  Calls.mono (cloneS_t hA h hbig) fun e w' ⟨v, m1, e1, ht, _⟩ => by
    obtain ⟨m2, ht2, o', c', e2, h1, _, h2⟩ := mrow_freeze ht.ext.agree ht.now
    exact ⟨v, m2, e1, ht.trans ht2, (o', c'), e2, h2, h1⟩

theorem deleteS_t {w : World} {m : Mem} {o : Option Addr} {cap i j : Nat} {a b : Int} {l : List Str} (ea : a = (i : Int)) (eb : b = (j : Int)) (hA : Agree w m) (hr : (Res.mrow (.slice o l.length cap) l.length 1 9 (l.map S)).holds w m) (hij : i ≤ j) (hj : j ≤ l.length) (h0 : l ≠ []) :
    Calls Tryd.prog 47 #[.slice o l.length cap, .int .i64 a, .int .i64 b] w fun e w' => ∃ v m', e = .returned v ∧ Touch (.mrow (.slice o l.length cap) l.length 1 9 (l.map S)) (.mrow v (l.take i ++ l.drop j).length 1 9 ((l.take i ++ l.drop j).map S)) w m w' m' ∧ (Kn.ex (MP.made' (l.take i ++ l.drop j).length)).holds m' v := by
  subst ea; subst eb
  have hl0 : 0 < l.length := List.length_pos_iff.2 h0
  have hlen' : (l.take i ++ l.drop j).length = l.length - (j - i) := by simp; omega
  obtain ⟨hlen, o', cap', e1, hnc, hcm, h⟩ := hr
  injection e1 with e1 e2 e3; subst e1; subst e3
  rcases h with h | ⟨g, cur, rfl, hh, h3, h4, h5⟩
  · omega
  · refine Calls.mono (Tryd.slices_Delete_string g 0 cap i j l w (holds_row hh h4 (by omega)) hnc (by simp only [maxLen] at hcm; omega) hij hj) fun e w' ⟨e1, q, e2⟩ => ⟨_, m, e1, ?_, (some ⟨g, 0, none⟩, cap), by rw [hlen']; rfl, by show (l.take i ++ l.drop j).length ≤ cap; rw [hlen']; omega⟩
    obtain ⟨p1, p2, p3, p4, p5, p6⟩ := put_heap (os := #[]) hh (e2.trans (Go.Sort.grow_empty _).symm)
    rw [← hlen']
    refine mrow_write hA (by omega) hcm hh h5 (by omega) (by simp) p1 (by rw [putCells_size]; exact h3) ?_ p2 p3 p4 p5 p6
    have := putCells_take S (l.take i ++ l.drop j ++ List.replicate (j - i) []) cur (by simp only [List.length_append, List.length_replicate] at hlen' ⊢; omega)
    have h2 := congrArg (fun z => z.take (l.take i ++ l.drop j).length) this
    simp only [List.take_take] at h2
    rw [Nat.min_eq_left (by simp only [List.length_append, List.length_replicate]; omega), List.map_append, List.take_append_of_le_length (by rw [List.length_map]; exact Nat.le_refl _), show ((l.take i ++ l.drop j).map S).take (l.take i ++ l.drop j).length = (l.take i ++ l.drop j).map S from List.take_of_length_le (by rw [List.length_map]; exact Nat.le_refl _)] at h2
    rw [Nat.mul_one]; exact h2

theorem deleteR_t {w : World} {m : Mem} {v : Value} {i j : Nat} {a b : Int} {l : List Str} (ea : a = (i : Int)) (eb : b = (j : Int)) (hA : Agree w m) (hr : (Res.mrow v l.length 1 9 (l.map S)).holds w m) (hij : i ≤ j) (hj : j ≤ l.length) (h0 : l ≠ []) :
    Calls Tryd.prog 47 #[v, .int .i64 a, .int .i64 b] w fun e w' => ∃ v' m', e = .returned v' ∧ Touch (.mrow v l.length 1 9 (l.map S)) (.row (nz v') (l.take i ++ l.drop j).length 1 9 ((l.take i ++ l.drop j).map S)) w m w' m' ∧ (Kn.ex (MP.sl (l.take i ++ l.drop j).length ((l.take i ++ l.drop j).map S))).holds m' v' := by
  obtain ⟨o, cap, rfl, -, -⟩ := Res.mrow_val hr
  refine Calls.mono (deleteS_t ea eb hA hr hij hj h0) fun e w' ⟨v, m1, e1, ht, _⟩ => ?_
  obtain ⟨m2, ht2, o', c', e2, h1, _, h2⟩ := mrow_freeze ht.ext.agree ht.now
  exact ⟨v, m2, e1, ht.trans ht2, (o', c'), e2, h2, h1⟩
theorem less_le (a b : Str) : (!Op.bytesLess b a) = decide (a ≤ b) := by
  rw [bytesLess_eq, ← decide_not, decide_eq_decide]; exact List.not_lt
theorem sorted_iff : ∀ l : List Str, isSortedS l = true ↔ l.Pairwise (· ≤ ·)
  | [] => by simp [isSortedS]
  | [a] => by simp [isSortedS]
  | a :: b :: r => by
    have ih := sorted_iff (b :: r)
    rw [isSortedS, Bool.and_eq_true, less_le, decide_eq_true_eq, ih, List.pairwise_cons (l := b :: r)]
    constructor
    · rintro ⟨h1, h2⟩
      refine ⟨fun x hx => ?_, h2⟩
      rcases List.mem_cons.1 hx with rfl | hx
      · exact h1
      · exact List.le_trans h1 ((List.pairwise_cons.1 h2).1 x hx)
    · rintro ⟨h1, h2⟩
      exact ⟨h1 b (.head _), h2⟩
theorem sortS_perm (l : List Str) : (sortS l).Perm l := List.mergeSort_perm l _
theorem sortS_pw (l : List Str) : (sortS l).Pairwise (· ≤ ·) := by
  have h := List.pairwise_mergeSort (le := fun x y : Str => decide (x ≤ y)) (fun a b c h1 h2 => by simp only [decide_eq_true_eq] at *; exact List.le_trans h1 h2) (fun a b => by
    rcases List.le_total a b with h | h <;> simp [h]) l
  exact h.imp fun h => by simpa using h
theorem sortS_sorted (l : List Str) : isSortedS (sortS l) = true := (sorted_iff _).2 (sortS_pw l)
theorem perm_sorted {l k : List Str} (h : l.Perm k) (h1 : isSortedS l = true) (h2 : isSortedS k = true) : l = k :=
  List.Perm.eq_of_pairwise (le := (· ≤ ·)) (fun _ _ _ _ a b => List.le_antisymm a b) ((sorted_iff l).1 h1) ((sorted_iff k).1 h2) h
theorem sortS_of_perm {l k : List Str} (h : l.Perm k) : sortS l = sortS k :=
  perm_sorted (((sortS_perm l).trans h).trans (sortS_perm k).symm) (sortS_sorted l) (sortS_sorted k)
theorem sortS_id {l : List Str} (h : isSortedS l = true) : sortS l = l := perm_sorted (sortS_perm l) (sortS_sorted l) h
theorem sortS_len (l : List Str) : (sortS l).length = l.length := (sortS_perm l).length_eq
theorem sortS_mem {l : List Str} {s : Str} : s ∈ sortS l ↔ s ∈ l := (sortS_perm l).mem_iff
theorem erase_sorted {l : List Str} (h : isSortedS l = true) (s : Str) : isSortedS (l.erase s) = true := (sorted_iff _).2 (((sorted_iff l).1 h).sublist List.erase_sublist)
theorem idx_erase (s : Str) : ∀ (l : List Str) (i : Nat), s ∈ l → ∃ k : Nat, idxA i l s = ((i + k : Nat) : Int) ∧ k < l.length ∧ l.take k ++ l.drop (k + 1) = l.erase s
  | [], _, h => by cases h
  | x :: l, i, h => by
    by_cases e : s = x
    · subst e; exact ⟨0, by simp [idxA], by simp, by simp⟩
    · obtain ⟨k, h1, h2, h3⟩ := idx_erase s l (i + 1) (by rcases List.mem_cons.1 h with h | h; exact absurd h e; exact h)
      refine ⟨k + 1, by rw [idxA, if_neg e, h1]; congr 1; omega, by simpa using h2, ?_⟩
      rw [List.erase_cons_tail (by simpa using Ne.symm e), ← h3]; simp
theorem idx_neg (s : Str) (l : List Str) (h : ¬ s ∈ l) : idxA 0 l s < 0 := by
  have := idxA_mem s l 0
  by_cases h2 : 0 ≤ idxA 0 l s
  · exact absurd (this.1 h2) h
  · omega
theorem add_less {l : List Str} (h : isSortedS l = true) (s : Str) : (sortS (l ++ [s])).erase s = l := by
  refine perm_sorted ?_ (erase_sorted (sortS_sorted _) s) h
  have h1 := (sortS_perm (l ++ [s])).erase s
  refine h1.trans ?_
  have h2 : (l ++ [s]).Perm (s :: l) := List.perm_append_comm
  have h3 := h2.erase s
  rw [List.erase_cons_head] at h3
  exact h3

end Go.Proofs.YtembdjghbphcdaaDoor
