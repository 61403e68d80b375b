/-
  Code: the names that stand free, as the program gathers them. Conditions: those of each theorem.
-/
import Derived.Test.YtlihpgjabohebaaDoorCright2
import Derived.Test.YtlihpgjabohebaaDoorShelf
namespace Go.Proofs.YtlihpgjabohebaaDoor
set_option linter.all false
set_option maxRecDepth 4000
open Go.RowKit
def uS : Str := [95]
/-- Are names in order? -/
def isSortedS : List Str → Bool
  | a :: b :: r => !Op.bytesLess b a && isSortedS (b :: r)
  | _ => true
mutual
/-- How many pieces, and names of arms. -/
def cntC : Cd → Nat
  | ⟨_, _, _, _, ks, az⟩ => 1 + cntKs ks + cntAs az
def cntKs : List Cd → Nat
  | [] => 0
  | t :: ts => cntC t + cntKs ts
def cntAs : List Ca → Nat
  | [] => 0
  | ⟨_, l, _, b⟩ :: ts => l.length + cntC b + cntAs ts
end
theorem cntC_eq (t : Cd) : cntC t = 1 + cntKs t.kids + cntAs t.arms := by obtain ⟨k, s, p, n, ks, az⟩ := t; rw [cntC]; rfl
theorem cntAs_cons (a : Ca) (ts : List Ca) : cntAs (a :: ts) = a.vars.length + cntC a.body + cntAs ts := by obtain ⟨s, l, tl, b⟩ := a; rw [cntAs]; rfl
theorem cntKs_mem : ∀ {l : List Cd} {u : Cd}, u ∈ l → cntC u ≤ cntKs l
  | t :: ts, u, h => by
    rw [cntKs]
    rcases List.mem_cons.1 h with rfl | h
    · omega
    · have := cntKs_mem h; omega
theorem cntAs_mem : ∀ {l : List Ca} {a : Ca}, a ∈ l → a.vars.length + cntC a.body ≤ cntAs l
  | b :: ts, a, h => by
    rw [cntAs_cons]
    rcases List.mem_cons.1 h with rfl | h
    · omega
    · have := cntAs_mem h; omega
theorem cnt_kid {t u : Cd} (h : u ∈ t.kids) : cntC u + 1 ≤ cntC t := by rw [cntC_eq t]; have := cntKs_mem h; omega
theorem cnt_arm {t : Cd} {a : Ca} (h : a ∈ t.arms) : a.vars.length + cntC a.body + 1 ≤ cntC t := by rw [cntC_eq t]; have := cntAs_mem h; omega
/-- What is bound in a kid; none: it is not looked at. -/
def bindP (k : Int) (s p : Str) (i : Nat) : Option (List Str) :=
  if k = 1 then none else if k = 5 then (if i = 0 then some [s] else none) else if k = 7 ∨ k = 8 then (if i = 0 then some [] else if i = 1 then some [s] else none)
  else if k = 9 then (if i = 0 then some [s, p] else if i = 1 then some [s] else none) else some []
mutual
/-- The names that stand free, in order. -/
def occP : Cd → List Str → List Str
  | ⟨k, s, p, _, ks, az⟩, bd => (if k = 1 then (if s = uS ∨ ¬ s ∈ bd then [s] else []) else []) ++ occKs (bindP k s p) bd 0 ks ++ occAs bd az
def occKs (f : Nat → Option (List Str)) (bd : List Str) : Nat → List Cd → List Str
  | _, [] => []
  | i, t :: ts => (match f i with | some l => occP t (bd ++ l) | none => []) ++ occKs f bd (i + 1) ts
def occAs (bd : List Str) : List Ca → List Str
  | [] => []
  | ⟨_, l, _, b⟩ :: ts => occP b (bd ++ l) ++ occAs bd ts
end
def headO (t : Cd) (bd : List Str) : List Str := if t.kind = 1 then (if t.name = uS ∨ ¬ t.name ∈ bd then [t.name] else []) else []
def kidsO (t : Cd) (bd : List Str) : List Str := occKs (bindP t.kind t.name t.param) bd 0 t.kids
theorem occP_eq (t : Cd) (bd : List Str) : occP t bd = headO t bd ++ kidsO t bd ++ occAs bd t.arms := by obtain ⟨k, s, p, n, ks, az⟩ := t; rw [occP]; rfl
theorem occAs_cons (bd : List Str) (a : Ca) (ts : List Ca) : occAs bd (a :: ts) = occP a.body (bd ++ a.vars) ++ occAs bd ts := by obtain ⟨s, l, tl, b⟩ := a; rw [occAs]; rfl
theorem occKs_no {f : Nat → Option (List Str)} {bd : List Str} : ∀ (l : List Cd) (i : Nat), (∀ j, i ≤ j → f j = none) → occKs f bd i l = []
  | [], _, _ => by rw [occKs]
  | t :: ts, i, h => by rw [occKs, h i (Nat.le_refl _), occKs_no ts (i + 1) fun j hj => h j (by omega)]; rfl
/-- What a call of the closure that looks at a kid gathers. -/
def kidO (t : Cd) (bd : List Str) (i : Nat) (ns : List Str) : List Str := match t.kids[i]? with | some u => occP u (bd ++ ns) | none => []
theorem kidO_at {t u : Cd} {bd ns : List Str} {i : Nat} (h : t.kids[i]? = some u) : kidO t bd i ns = occP u (bd ++ ns) := by unfold kidO; rw [h]
theorem kidO_no {t : Cd} {bd ns : List Str} {i : Nat} (h : t.kids.length ≤ i) : kidO t bd i ns = [] := by unfold kidO; rw [List.getElem?_eq_none h]
theorem kidsO_two {t : Cd} {bd a b : List Str} (h0 : bindP t.kind t.name t.param 0 = some a) (h1 : bindP t.kind t.name t.param 1 = some b) (h2 : ∀ j, 2 ≤ j → bindP t.kind t.name t.param j = none) : kidsO t bd = kidO t bd 0 a ++ kidO t bd 1 b := by
  unfold kidsO kidO
  generalize bindP t.kind t.name t.param = f at h0 h1 h2
  cases t.kids with
  | nil => simp [occKs]
  | cons u l =>
    cases l with
    | nil => simp [occKs, h0]
    | cons v l => rw [occKs, occKs, h0, h1, occKs_no l _ h2]; simp
theorem kidsO_one {t : Cd} {bd a : List Str} (h0 : bindP t.kind t.name t.param 0 = some a) (h2 : ∀ j, 1 ≤ j → bindP t.kind t.name t.param j = none) : kidsO t bd = kidO t bd 0 a := by
  unfold kidsO kidO
  generalize bindP t.kind t.name t.param = f at h0 h2
  cases t.kids with
  | nil => simp [occKs]
  | cons u l => rw [occKs, h0, occKs_no l _ h2]; simp
theorem hk_1 {t : Cd} {bd : List Str} (h : t.kind = 1) (hn : t.name = uS ∨ ¬ t.name ∈ bd) : headO t bd ++ kidsO t bd = [t.name] := by
  unfold headO kidsO; rw [if_pos h, if_pos hn, occKs_no _ _ fun j _ => by unfold bindP; rw [if_pos h]]; rfl
theorem hk_1n {t : Cd} {bd : List Str} (h : t.kind = 1) (hn : ¬ (t.name = uS ∨ ¬ t.name ∈ bd)) : headO t bd ++ kidsO t bd = [] := by
  unfold headO kidsO; rw [if_pos h, if_neg hn, occKs_no _ _ fun j _ => by unfold bindP; rw [if_pos h]]; rfl
theorem headO_no {t : Cd} {bd : List Str} (h : ¬ t.kind = 1) : headO t bd ++ kidsO t bd = kidsO t bd := by unfold headO; rw [if_neg h]; rfl
theorem hk_5 {t : Cd} {bd : List Str} (h : t.kind = 5) : headO t bd ++ kidsO t bd = kidO t bd 0 [t.name] := by
  rw [headO_no (by omega)]
  refine kidsO_one (by unfold bindP; simp [h]) fun j hj => ?_
  have : ¬ j = 0 := by omega
  unfold bindP; simp [h, this]
theorem hk_7 {t : Cd} {bd : List Str} (h : t.kind = 7 ∨ t.kind = 8) : headO t bd ++ kidsO t bd = kidO t bd 0 [] ++ kidO t bd 1 [t.name] := by
  rw [headO_no (by omega)]
  refine kidsO_two (by unfold bindP; rcases h with h | h <;> simp [h]) (by unfold bindP; rcases h with h | h <;> simp [h]) fun j hj => ?_
  have h0 : ¬ j = 0 := by omega
  have h1 : ¬ j = 1 := by omega
  unfold bindP; rcases h with h | h <;> simp [h, h0, h1]
theorem hk_9 {t : Cd} {bd : List Str} (h : t.kind = 9) : headO t bd ++ kidsO t bd = kidO t bd 0 [t.name, t.param] ++ kidO t bd 1 [t.name] := by
  rw [headO_no (by omega)]
  refine kidsO_two (by unfold bindP; simp [h]) (by unfold bindP; simp [h]) fun j hj => ?_
  have h0 : ¬ j = 0 := by omega
  have h1 : ¬ j = 1 := by omega
  unfold bindP; simp [h, h0, h1]
theorem bindP_d {t : Cd} (h1 : ¬ t.kind = 1) (h5 : ¬ t.kind = 5) (h7 : ¬ (t.kind = 7 ∨ t.kind = 8)) (h9 : ¬ t.kind = 9) (i : Nat) : bindP t.kind t.name t.param i = some [] := by
  unfold bindP; rw [if_neg h1, if_neg h5, if_neg h7, if_neg h9]
/-- Names are put into a map. -/
def addAll (l : List Str) (ml : List (Str × Bool)) : List (Str × Bool) := l.foldl (fun ml s => aset s true ml) ml
theorem addAll_app (a b : List Str) (ml : List (Str × Bool)) : addAll (a ++ b) ml = addAll b (addAll a ml) := by unfold addAll; rw [List.foldl_append]
theorem addAll_nil (ml : List (Str × Bool)) : addAll [] ml = ml := rfl
theorem mrow_of_owns {w w' : World} {m : Mem} {e : TypeId} {size n : Nat} {v : Value} {xs : List Value} (ha : Agree w m) (h : w'.ownsRow w.heap.size e size v n xs) (hb : Below w.heap.size w w') : Touch .free (.mrow v n size e xs) w m w' m := by
  obtain ⟨hl, h⟩ := h
  rcases h with ⟨rfl, rfl⟩ | ⟨g, cap, cur, rfl, hg, hh, h1, h2, h3, h4⟩
  · exact ⟨(ExtG.of_below ha hb).mono (by simp), ⟨hl, none, 0, rfl, Nat.le_refl _, Nat.zero_le _, .inl rfl⟩, List.nodup_nil, fun g hg => by cases hg⟩
  · exact mrow_new ha hl h1 h2 h3 h4 hb hg hh
theorem put_heap {w w' : World} {g k : Nat} {f : Array Value → Array Value} {os : Array Obj} {cur : Array Value} {e : TypeId} (hh : w.heap[g]? = some (.cells cur e (0, 0))) (hw : w' = Go.Sort.grow (Go.Sort.mapBlock (Go.Sort.ahead w k) g f) os) :
    w'.heap[g]? = some (.cells (f cur) e (0, 0)) ∧ w'.os = w.os ∧ w'.tape = w.tape ∧ w'.output = w.output ∧ w.heap.size ≤ w'.heap.size ∧ ∀ b, b < w.heap.size → b ≠ g → w'.heap[b]? = w.heap[b]? := by
  have hg : g < w.heap.size := lt_of_heap hh
  subst hw
  refine ⟨?_, rfl, rfl, rfl, by simp [Go.Sort.grow, Go.Sort.mapBlock, Go.Sort.ahead], fun b hb hne => ?_⟩
  · simp only [Go.Sort.grow, Go.Sort.mapBlock, Go.Sort.ahead]
    rw [Array.getElem?_append_left (by simpa using hg), Array.getElem?_modify, if_pos rfl, hh]; rfl
  · simp only [Go.Sort.grow, Go.Sort.mapBlock, Go.Sort.ahead]
    rw [Array.getElem?_append_left (by simpa using hb), Array.getElem?_modify, if_neg (Ne.symm hne)]
theorem putCells_take {α : Type} [Inhabited α] (enc : α → Value) (d : List α) (c : Array Value) (h : d.length ≤ c.size) : (Go.Sort.putCells enc 0 d.toArray c).toList.take d.length = d.map enc := by
  apply List.ext_getElem?
  intro i
  rw [List.getElem?_take, List.getElem?_map]
  split
  · rename_i hi
    have h1 : i < c.size := by omega
    simp only [Go.Sort.putCells, Array.getElem?_toList, Array.getElem?_mapIdx, List.size_toArray, Nat.zero_le, Nat.zero_add, true_and, if_pos hi, Nat.sub_zero, Array.getElem?_eq_getElem h1, Option.map_some]
    rw [getElem!_pos d.toArray i (by simpa using hi), List.getElem?_eq_getElem hi]; simp
  · rename_i hi
    rw [List.getElem?_eq_none (by omega)]; rfl
theorem putCells_size {α : Type} [Inhabited α] (enc : α → Value) (o : Nat) (d : Array α) (c : Array Value) : (Go.Sort.putCells enc o d c).size = c.size := by simp [Go.Sort.putCells]
theorem holds_row {w : World} {g : Nat} {cur : Array Value} {e : TypeId} {l : List Str} (hh : w.heap[g]? = some (.cells cur e (0, 0))) (ht : cur.toList.take (l.length * 1) = l.map S) (hl : l.length ≤ cur.size) : Go.Sort.Holds S w g 0 l.toArray := by
  intro j hj
  have hj' : j < l.length := by simpa using hj
  have h1 : cur[j]? = some (S l[j]) := by
    have h2 := congrArg (fun q => q[j]?) ht
    simp only [List.getElem?_take, Nat.mul_one, if_pos hj', List.getElem?_map, List.getElem?_eq_getElem hj', Option.map_some, Array.getElem?_toList] at h2
    exact h2
  refine ⟨?_, ?_⟩
  · unfold World.cell?; simp only [hh, Nat.zero_add, h1]
    rw [getElem!_pos l.toArray j hj]; simp
  · unfold World.frozen?; simp [hh]
def sortS (l : List Str) : List Str := l.mergeSort fun x y => decide (x ≤ y)

theorem sortS_t {w : World} {m : Mem} {o : Option Addr} {cap : Nat} {l : List Str} (hA : Agree w m) (hr : (Res.mrow (.slice o l.length cap) l.length 1 9 (l.map S)).holds w m) (hsz : l.length < 4611686018427387904) :
    Calls Tryd.prog 33 #[.slice o l.length cap] w fun e w' => ∃ v m', e = .returned v ∧ Touch (.mrow (.slice o l.length cap) l.length 1 9 (l.map S)) (.mrow (.slice o l.length cap) l.length 1 9 ((sortS l).map S)) w m w' m' ∧ (Kn.ex MP.any).holds m' v := by
  by_cases h0 : l.length = 0
  · obtain rfl : l = [] := List.eq_nil_of_length_eq_zero h0
    refine Calls.mono (Tryd.slices_Sort_string_none o cap w) fun e w' ⟨e1, e2⟩ => ⟨_, m, e1, ?_, _, rfl, trivial⟩
    subst e2
    exact ⟨ExtG.refl _ hA, by simpa [sortS] using hr, mrow_nodup _ _ _ _ _, fun g hg => .inl hg⟩
  · obtain ⟨hlen, o', cap', e1, hnc, hcm, h⟩ := hr
    injection e1 with e1 e2 e3; subst e1; subst e3
    rcases h with h | ⟨g, cur, rfl, hh, h3, h4, h5⟩
    · omega
    · refine Calls.mono (Tryd.slices_Sort_string g 0 cap l w (holds_row hh h4 (by omega)) (lt_of_heap hh) hsz) fun e w' ⟨e1, k, os, e2⟩ => ⟨_, m, e1, ?_, _, rfl, trivial⟩
      obtain ⟨p1, p2, p3, p4, p5, p6⟩ := put_heap hh e2
      have hsl : (sortS l).length = l.length := by simp [sortS]
      refine mrow_write hA (by omega) hcm hh h5 hnc (by simp [hsl]) p1 (by rw [putCells_size]; exact h3) ?_ p2 p3 p4 p5 p6
      have := putCells_take S (sortS l) cur (by omega)
      rw [hsl] at this
      rw [Nat.mul_one]; exact this

theorem cloneS_t {w : World} {m : Mem} {o : Option Addr} {c : Nat} {l : List Str} (hA : Agree w m) (h : Strs m o l.length c l) (hbig : l.length ≤ 1073741824) :
    Calls Tryd.prog 45 #[.slice o l.length c] w fun e w' => ∃ v m', e = .returned v ∧ Touch .free (.mrow v l.length 1 9 (l.map S)) w m w' m' ∧ (Kn.ex (MP.made' l.length)).holds m' v := by
  cases o with
  | none =>
    cases l with
    | cons x l => obtain ⟨p, vs, e, _⟩ := h.at_ 0 x rfl; cases e
    | nil =>
      refine Calls.mono (Tryd.slices_Clone_string_nil 0 c w) fun e w' ⟨e1, e2⟩ => ⟨_, m, e1, ?_, (none, 0), rfl, Nat.le_refl _⟩
      subst e2
      exact ⟨ExtG.refl _ hA, ⟨rfl, none, 0, rfl, Nat.le_refl _, Nat.zero_le _, .inl rfl⟩, List.nodup_nil, fun g hg => by cases hg⟩
  | some p =>
    cases l with
    | nil =>
      refine Calls.mono (Tryd.slices_Clone_string_zero p c w) fun e w' ⟨v, e1, e2, _, e3⟩ => ⟨v, m, e1, mrow_of_owns hA e2 e3, ?_⟩
      obtain ⟨o', cap', e4, e5, _⟩ := Res.mrow_val (mrow_of_owns hA e2 e3).now
      exact ⟨(o', cap'), e4, e5⟩
    | cons x l =>
      have hr := h.row1 (f := S)
      rcases hr with hr | ⟨q, e0, hc⟩
      · simp at hr
      · injection e0 with e0; subst e0
        obtain ⟨b, off, spot⟩ := p
        obtain rfl : spot = none := hc.1
        refine Calls.mono (Tryd.slices_Clone_string b off (x :: l).length c ((x :: l).map fun s => (⟨s.toArray⟩ : ByteArray)) w (by simp) (by omega) (fun j hj => ?_)) fun e w' ⟨v, e1, e2, _, e3⟩ => ?_
        · have hj' : j < (x :: l).length := by simpa using hj
          have h1 := hA.cell _ _ _ (hc.2 j (S (x :: l)[j]) (by rw [List.getElem?_map, List.getElem?_eq_getElem hj']; rfl))
          rw [h1, List.getD_eq_getElem?_getD, List.getElem?_map, List.getElem?_eq_getElem hj']; rfl
        · rw [List.take_of_length_le (by simp), List.map_map] at e2
          have ht := mrow_of_owns hA e2 e3
          obtain ⟨o', cap', e4, e5, _⟩ := Res.mrow_val ht.now
          exact ⟨v, m, e1, ht, (o', cap'), e4, e5⟩

theorem cloneR_t {w : World} {m : Mem} {o : Option Addr} {c : Nat} {l : List Str} (hA : Agree w m) (h : Strs m o l.length c l) (hbig : l.length ≤ 1073741824) :
    Calls Tryd.prog 45 #[.slice o l.length c] w fun e w' => ∃ v m', e = .returned v ∧ Touch .free (.row (nz v) l.length 1 9 (l.map S)) w m w' m' ∧ (Kn.ex (MP.sl l.length (l.map S))).holds m' v :=
  Calls.mono (cloneS_t hA h hbig) fun e w' ⟨v, m1, e1, ht, _⟩ => by
    obtain ⟨m2, ht2, o', c', e2, h1, _, h2⟩ := mrow_freeze ht.ext.agree ht.now
    exact ⟨v, m2, e1, ht.trans ht2, (o', c'), e2, h2, h1⟩
theorem less_le (a b : Str) : (!Op.bytesLess b a) = decide (a ≤ b) := by
  rw [bytesLess_eq, ← decide_not, decide_eq_decide]; exact List.not_lt
theorem sorted_iff : ∀ l : List Str, isSortedS l = true ↔ l.Pairwise (· ≤ ·)
  | [] => by simp [isSortedS]
  | [a] => by simp [isSortedS]
  | a :: b :: r => by
    have ih := sorted_iff (b :: r)
    rw [isSortedS, Bool.and_eq_true, less_le, decide_eq_true_eq, ih, List.pairwise_cons (l := b :: r)]
    constructor
    · rintro ⟨h1, h2⟩
      refine ⟨fun x hx => ?_, h2⟩
      rcases List.mem_cons.1 hx with rfl | hx
      · exact h1
      · exact List.le_trans h1 ((List.pairwise_cons.1 h2).1 x hx)
    · rintro ⟨h1, h2⟩
      exact ⟨h1 b (.head _), h2⟩
theorem sortS_perm (l : List Str) : (sortS l).Perm l := List.mergeSort_perm l _
theorem sortS_pw (l : List Str) : (sortS l).Pairwise (· ≤ ·) := by
  have h := List.pairwise_mergeSort (le := fun x y : Str => decide (x ≤ y)) (fun a b c h1 h2 => by simp only [decide_eq_true_eq] at *; exact List.le_trans h1 h2) (fun a b => by
    rcases List.le_total a b with h | h <;> simp [h]) l
  exact h.imp fun h => by simpa using h
theorem sortS_sorted (l : List Str) : isSortedS (sortS l) = true := (sorted_iff _).2 (sortS_pw l)
theorem perm_sorted {l k : List Str} (h : l.Perm k) (h1 : isSortedS l = true) (h2 : isSortedS k = true) : l = k :=
  List.Perm.eq_of_pairwise (le := (· ≤ ·)) (fun _ _ _ _ a b => List.le_antisymm a b) ((sorted_iff l).1 h1) ((sorted_iff k).1 h2) h
theorem sortS_of_perm {l k : List Str} (h : l.Perm k) : sortS l = sortS k :=
  perm_sorted (((sortS_perm l).trans h).trans (sortS_perm k).symm) (sortS_sorted l) (sortS_sorted k)
theorem sortS_id {l : List Str} (h : isSortedS l = true) : sortS l = l := perm_sorted (sortS_perm l) (sortS_sorted l) h
theorem sortS_len (l : List Str) : (sortS l).length = l.length := (sortS_perm l).length_eq
theorem sortS_mem {l : List Str} {s : Str} : s ∈ sortS l ↔ s ∈ l := (sortS_perm l).mem_iff

set_option maxHeartbeats 400000 in
theorem more_c {w : World} {m : Mem} {o_ns : Option Addr} {c_ns : Nat} {ns : List Str} {q4 : Addr} {o_bd : Option Addr} {c_bd : Nat} {bd : List Str} (hA : Agree w m) (h_ns : Strs m o_ns ns.length c_ns ns) (hq4 : CellsAt m q4 [.slice o_bd bd.length c_bd]) (h_bd : Strs m o_bd bd.length c_bd bd) (hbig : bd.length + ns.length ≤ 1073741824) : FnV Tryd.prog 44 #[.slice o_ns ns.length c_ns, .pointer (some q4)] w m (fun _ m v => (MP.strs (bd ++ ns)).p m v) := by
  have hb_ns := h_ns.big; have hc_ns := h_ns.cap
  refine fn_enter (vs := [_, _]) Tryd.func44 rfl rfl rfl fun a0 hfr0 => ?_
  have hst0 := st_enter hA (loc_nil [] _ w m)
  have hM : MLe m m := MLe.refl m
  refine seq_any fun _ hK1 => ?_
  refine rp0 hst0 hfr0 (.cons rfl (ob_assign rfl) <| .nil) ?_
  intro a1 w1 m1 hst1 hle1 hk1
  have hfr1 := hk1.fr (T' := [(0, _), (1, _)]) (.old rfl rfl <| .old rfl rfl <| .nil)
  replace h_ns := h_ns.mono hle1
  replace hq4 := hq4.mono hle1
  replace h_bd := h_bd.mono hle1
  replace hM := hM.trans hle1
  clear hst0 hfr0 hk1
  refine hK1 _ _ ?_; clear hK1
  refine seq_any fun _ hK2 => ?_
  obtain ⟨cs_4, hrw_4, hrd_4, hcl_4⟩ := h_ns.reads
  replace hst1 := hst1.more (r := .free) trivial List.nodup_nil (by simp [Res.blocks])
  refine ra0 (tch := [(1, 0, (fun v => .row (nz v) _ _ _ _)), (3, 0, (fun v => .row (nz v) _ _ _ _))]) hst1 hfr1 (.cons rfl (ob_load1' rfl hq4 Tryd.isAgg29 rfl) <| .consT rfl rfl (fun _ => rfl) rfl (ob_callT rfl (.cons rfl <| .nil) Tryd.call45 (κ := .ex (MP.sl (bd).length ((bd).map S))) (fun σ w m hK hr hkn => by have hle_ := KC.le hK; have hA := KC.agree hK; have hM := hM.trans hle_; have h_ns := h_ns.mono hle_; have hq4 := hq4.mono hle_; have h_bd := h_bd.mono hle_; exact cloneR_t hA h_bd (by omega))) <| .cons rfl (ob_move rfl) <| .consT rfl rfl (fun _ => rfl) rfl (ob_imgT 5 rfl rfl rfl fun y5 => ob_appendZ (size := 1) (bytes := 16) rfl rfl (fun _ => .inl rfl) Tryd.underlying29 Tryd.type9 rfl rfl rfl rfl (fun w m hK => hrw_4.mono (KC.le hK)) hcl_4 (by decide) hrd_4.one (by simp only [maxLen]; omega) (by omega)) <| .consA 7 rfl rfl <| .nil) ?_
  intro a2 w2 m2 hst2 hle2 hk2
  have hfr2 := hk2.fr (T' := []) (.nil)
  obtain ⟨⟨oz3, cz3⟩, e5, hrz3, hcz3⟩ := hk2.ex 5 rfl
  obtain ⟨⟨oz4, cz4⟩, e6, hrz4, hcz4⟩ := hk2.ex 7 rfl
  replace e6 : envOf a2 7 = .slice oz4 ((bd ++ ns)).length cz4 := by rw [e6]; refine congrArg (fun q => Value.slice _ q _) ?_; first | omega | (simp only [List.length_append, List.length_cons, List.length_nil, List.nil_append, List.length_take, List.length_drop]; try omega)
  replace hfr2 := hfr2.cons (hk2.same 3 rfl e6)
  replace hst2 := hst2.fin (L' := [_]) (.cons e5 <| .cons e6 <| .nil)
  replace hrd_4 := hrd_4.mono hle2
  clear hst1 hfr1 hk2
  have hsz4 : Strs m2 oz4 ((bd ++ ns)).length cz4 (bd ++ ns) := Reads.sl ((strs_reads bd).app hrd_4) hrz4 (by decide) rfl (by have h := hcz4; first | omega | (simp only [List.length_append, List.length_cons, List.length_nil, List.nil_append, List.length_take, List.length_drop] at h ⊢; omega)) (by first | omega | (simp only [List.length_append, List.length_cons, List.length_nil, List.nil_append, List.length_take, List.length_drop]; omega))
  refine hK2 _ _ ?_; clear hK2
  refine wp_ret ?_
  repeat (with_reducible first | refine then_ret ?_ | refine block_ret ?_)
  exact fn_ret hst2 hfr2 rfl (.tmp rfl <| .nil) (⟨(oz4, cz4), rfl, hsz4⟩)

abbrev ofree_G (t : Cd) : Prop := ∀ {w : World} {m : Mem} {vs_t : List Value} {r : Nat} {ml : List (Str × Bool)} {o_bd : Option Addr} {c_bd : Nat} {bd : List Str} (hA : Agree w m) (h_t : CdR m t vs_t) (hr : (Res.map (.map (some r)) (encs S (encW Value.bool (ml)))).holds w m) (h_bd : Strs m o_bd bd.length c_bd bd) (hb : bd.length + 2 * cntC t ≤ 1000000000), FnG Tryd.prog 32 #[.agg vs_t.toArray, .map (some r), .slice o_bd bd.length c_bd] [r] w m (fun w' m' _ => Loc [r] w.heap.size [.map (.map (some r)) (encs S (encW Value.bool (addAll (occP t bd) ml)))] w' m')
set_option maxHeartbeats 400000 in
theorem kid_g {w : World} {m : Mem} {i : Nat} {o_ns : Option Addr} {c_ns : Nat} {ns : List Str} {q : Addr} {vs_t : List Value} {t : Cd} {q2 : Addr} {r : Nat} {ml : List (Str × Bool)} {q3 q4 : Addr} {o_bd : Option Addr} {c_bd : Nat} {bd : List Str} (hA : Agree w m) (h_ns : Strs m o_ns ns.length c_ns ns) (hq : CellsAt m q vs_t) (h_t : CdR m t vs_t) (hr : (Res.map (.map (some r)) (encs S (encW Value.bool (ml)))).holds w m) (hq2 : CellsAt m q2 [.map (some r)]) (hq3 : CellsAt m q3 [.func (.func 44) #[] #[.pointer (some q4)]]) (hq4 : CellsAt m q4 [.slice o_bd bd.length c_bd]) (h_bd : Strs m o_bd bd.length c_bd bd) (ihk : ∀ u ∈ t.kids, ofree_G u) (hns : ns.length ≤ 2) (hb : bd.length + 2 * cntC t ≤ 1000000000) : FnG Tryd.prog 46 #[.int .i64 (i : Int), .slice o_ns ns.length c_ns, .pointer (some q), .pointer (some q2), .pointer (some q3)] [r] w m (fun w' m' _ => Loc [r] w.heap.size [.map (.map (some r)) (encs S (encW Value.bool (addAll (kidO t bd i ns) ml)))] w' m') := by
  have hb_ns := h_ns.big; have hc_ns := h_ns.cap
  obtain ⟨⟨oK_t, cK_t, oA_t, cA_t⟩, rfl, ⟨hik_t, hin_t⟩, hkk_t, haa_t⟩ := h_t.open_
  dsimp only at hkk_t haa_t
  have hbg_t := hkk_t.big; have hcp_t := hkk_t.cap; have hbh_t := haa_t.big; have hcq_t := haa_t.cap
  refine fn_enter (vs := [_, _, _, _, _]) Tryd.func46 rfl rfl rfl fun a0 hfr0 => ?_
  have hst0 := st_enter hA (loc_one hr (by simp [Res.blocks, mapBlock]))
  have hM : MLe m m := MLe.refl m
  refine seq_any fun _ hK1 => ?_
  refine rp0 hst0 hfr0 (.cons rfl (ob_move rfl) <| .cons rfl (ob_fieldAddrO (off := 4) rfl Tryd.underlying25 rfl rfl Tryd.sizeOf22 rfl) <| .cons rfl (ob_load1 rfl hq Tryd.isAgg22 rfl) <| .cons rfl (ob_len rfl Tryd.underlying22) <| .cons rfl (ob_lss rfl rfl) <| .nil) ?_
  intro a1 w1 m1 hst1 hle1 hk1
  have hfr1 := hk1.fr (T' := [(0, _), (1, _), (2, _), (3, _), (4, _), (11, _)]) (.old rfl rfl <| .old rfl rfl <| .old rfl rfl <| .old rfl rfl <| .old rfl rfl <| .new rfl <| .nil)
  replace h_ns := h_ns.mono hle1
  replace hq := hq.mono hle1
  replace h_t := h_t.mono hle1
  replace hkk_t := hkk_t.mono hle1
  replace haa_t := haa_t.mono hle1
  replace hq2 := hq2.mono hle1
  replace hq3 := hq3.mono hle1
  replace hq4 := hq4.mono hle1
  replace h_bd := h_bd.mono hle1
  replace hM := hM.trans hle1
  clear hst0 hfr0 hk1
  refine hK1 _ _ ?_; clear hK1
  refine cond_any hfr1 rfl rfl (fun hb11 => ?_) (fun hb11 => ?_)
  · try simp only [nq1, nq2, nq3, nq4, nq5, nq6, nq7, nq8, nq9, u8_eq] at hb11
    obtain ⟨p2, vs2, x2, ho2, hd2, hm_x2, ht2, hcv2, hl2, hv2⟩ := hkk_t.nth (k := i) (by omega)
    cases ho2
    obtain ⟨⟨oK2, cK2, oA2, cA2⟩, rfl, ⟨hik2, hin2⟩, hkk2, haa2⟩ := hv2.open_
    dsimp only at hkk2 haa2
    have hbg2 := hkk2.big; have hcp2 := hkk2.cap; have hbh2 := haa2.big; have hcq2 := haa2.cap
    have hko : kidO t bd i ns = occP x2 (bd ++ ns) := kidO_at (at_of_drop hd2)
    have hcu := cnt_kid hm_x2
    refine region_any (tch := [(9, 0, (fun _ => .map (.map (some r)) (encs S (encW Value.bool (addAll (occP x2 (bd ++ ns)) ml)))))]) (fun _ => mixed) hst1 hfr1 (by kernel_rfl) (by kernel_rfl) (by kernel_rfl) (.cons rfl (ob_fieldAddrO (off := 4) rfl Tryd.underlying25 rfl rfl Tryd.sizeOf22 rfl) <| .cons rfl (ob_load1 rfl hq Tryd.isAgg22 rfl) <| .cons rfl (ob_move rfl) <| .cons rfl (ob_indexAddr (k := i) rfl rfl Tryd.underlying22 Tryd.sizeOf25 rfl (by omega)) <| .cons rfl (ob_loadS' rfl hcv2 Tryd.isAgg25 Tryd.sizeOf25 rfl rfl) <| .cons rfl (ob_load1' rfl hq2 Tryd.isAgg52 rfl) <| .cons rfl (ob_load1' rfl hq3 Tryd.isAgg64 rfl) <| .cons rfl (ob_move rfl) <| .cons rfl (ob_call (φ := MP.strs (bd ++ ns)) rfl (.cons rfl <| .nil) Tryd.call44 (fun w m hK => by have hle_ := KC.le hK; have hA := KC.agree hK; have h_ns := h_ns.mono hle_; have hq4 := hq4.mono hle_; have h_bd := h_bd.mono hle_; exact FnG.mono (more_c hA h_ns hq4 h_bd (by omega)) fun _ _ _ _ h => h)) <| .consT rfl rfl (fun _ => rfl) rfl (ob_imgT 20 rfl rfl rfl fun y20 => ob_callT rfl (.cons rfl <| .cons rfl <| .cons rfl <| .nil) Tryd.call32 (κ := .ex (MP.any)) (fun σ w m hK hr hkn => by have hle_ := KC.le hK; have hA := KC.agree hK; have hM := hM.trans hle_; have hr0_ := hK.2; have h_ns := h_ns.mono hle_; have hq := hq.mono hle_; have h_t := h_t.mono hle_; have hkk_t := hkk_t.mono hle_; have haa_t := haa_t.mono hle_; have hq2 := hq2.mono hle_; have hq3 := hq3.mono hle_; have hq4 := hq4.mono hle_; have h_bd := h_bd.mono hle_; have hcv2 := hcv2.mono hle_; have hv2 := hv2.mono hle_; have hkk2 := hkk2.mono hle_; have haa2 := haa2.mono hle_; exact (Calls.mono (ihk x2 hm_x2 hA hv2 hr hr0_ (by rw [List.length_append]; omega)) fun e w2 ⟨v, m2, e1, hE, hL⟩ => ⟨v, m2, e1, touch_of hE hL, ⟨v, rfl, trivial⟩⟩))) <| .nil) ?_
    intro a2 w2 m2 hst2 hle2 hk2
    have hfr2 := hk2.fr (T' := []) (.nil)
    obtain ⟨y3, e3, hy3⟩ := hk2.ex 21 rfl
    replace hst2 := hst2.fin (L' := [_]) (.cons e3 <| .nil)
    clear hst1 hfr1 hk2
    repeat (with_reducible first | refine then_exit ?_ | refine block_exit ?_ | refine block_normal ?_)
    exact fn_end hst2 hfr2 rfl (.nil) (by rw [hko]; exact (hst2.take 1).loc)
  · try simp only [nq1, nq2, nq3, nq4, nq5, nq6, nq7, nq8, nq9, u8_eq] at hb11
    refine wp_skip ?_
    repeat (with_reducible first | refine then_exit ?_ | refine block_exit ?_ | refine block_normal ?_)
    exact fn_end hst1 hfr1 rfl (.nil) (by rw [kidO_no (by omega)]; exact (hst1.take 1).loc)

set_option maxHeartbeats 3200000 in
theorem ofree_s {t : Cd} (ihk : ∀ u ∈ t.kids, ofree_G u) (iha : ∀ a ∈ t.arms, ofree_G a.body) {w : World} {m : Mem} {vs_t : List Value} {r : Nat} {ml : List (Str × Bool)} {o_bd : Option Addr} {c_bd : Nat} {bd : List Str} (hA : Agree w m) (h_t : CdR m t vs_t) (hr : (Res.map (.map (some r)) (encs S (encW Value.bool (ml)))).holds w m) (h_bd : Strs m o_bd bd.length c_bd bd) (hb : bd.length + 2 * cntC t ≤ 1000000000) : FnG Tryd.prog 32 #[.agg vs_t.toArray, .map (some r), .slice o_bd bd.length c_bd] [r] w m (fun w' m' _ => Loc [r] w.heap.size [.map (.map (some r)) (encs S (encW Value.bool (addAll (occP t bd) ml)))] w' m') := by
  obtain ⟨⟨oK_t, cK_t, oA_t, cA_t⟩, rfl, ⟨hik_t, hin_t⟩, hkk_t, haa_t⟩ := h_t.open_
  dsimp only at hkk_t haa_t
  have hbg_t := hkk_t.big; have hcp_t := hkk_t.cap; have hbh_t := haa_t.big; have hcq_t := haa_t.cap
  have hb_bd := h_bd.big; have hc_bd := h_bd.cap
  refine fn_enter (vs := [_, _, _]) Tryd.func32 rfl rfl rfl fun a0 hfr0 => ?_
  have hst0 := st_enter hA (loc_one hr (by simp [Res.blocks, mapBlock]))
  have hM : MLe m m := MLe.refl m
  have hoe : addAll (occP t bd) ml = addAll (occAs bd t.arms) (addAll (headO t bd ++ kidsO t bd) ml) := by rw [occP_eq, addAll_app]
  refine seq_any fun _ hK1 => ?_
  refine rp0 hst0 hfr0 (.cons rfl (ob_box rfl rfl) <| .cons rfl (ob_box rfl rfl) <| .cons rfl (ob_box rfl rfl) <| .nil) ?_
  intro a1 w1 m1 hst1 hle1 hk1
  have hfr1 := hk1.fr (T' := []) (.nil)
  obtain ⟨gc9, e2, hc3⟩ := hk1.ex 3 rfl
  replace hfr1 := hfr1.cons e2
  obtain ⟨go9, e3, hc4⟩ := hk1.ex 4 rfl
  replace hfr1 := hfr1.cons e3
  obtain ⟨gb9, e4, hc5⟩ := hk1.ex 5 rfl
  replace hfr1 := hfr1.cons e4
  replace h_t := h_t.mono hle1
  replace hkk_t := hkk_t.mono hle1
  replace haa_t := haa_t.mono hle1
  replace h_bd := h_bd.mono hle1
  replace hM := hM.trans hle1
  clear hst0 hfr0 hk1
  refine hK1 _ _ ?_; clear hK1
  refine seq_any fun _ hK5 => ?_
  replace hst1 := hst1.more (r := .free) trivial List.nodup_nil (by simp [Res.blocks])
  refine ra0 (tch := [(1, 1, (fun v => .blk v _)), (2, 1, (fun v => .blk v _))]) hst1 hfr1 (.cons rfl (ob_makeFunc (.cons rfl <| .nil)) <| .consT rfl rfl (fun _ => rfl) rfl (ob_allocL Tryd.zeroValue64 rfl) <| .consT rfl rfl (fun _ => rfl) rfl (ob_imgT 6 rfl rfl rfl fun y6 => ob_storeF rfl rfl rfl rfl rfl Tryd.sizeOf64 rfl rfl rfl) <| .nil) ?_
  intro a2 w2 m2 hst2 hle2 hk2
  have hfr2 := hk2.fr (T' := [(3, _), (4, _), (5, _)]) (.old rfl rfl <| .old rfl rfl <| .old rfl rfl <| .nil)
  obtain ⟨gm9, e6, _⟩ := hk2.ex 6 rfl
  replace hfr2 := hfr2.cons e6
  replace hst2 := hst2.fin (L' := [_, _]) (.cons e6 <| .cons e6 <| .nil)
  try simp only [List.take_succ_cons, List.take_zero, List.drop_succ_cons, List.drop_zero, List.cons_append, List.nil_append, List.append_nil, List.length_cons, List.length_nil, Nat.zero_add, Nat.reduceAdd] at hst2
  replace h_t := h_t.mono hle2
  replace hkk_t := hkk_t.mono hle2
  replace haa_t := haa_t.mono hle2
  replace h_bd := h_bd.mono hle2
  replace hc3 := hc3.mono hle2
  replace hc4 := hc4.mono hle2
  replace hc5 := hc5.mono hle2
  replace hM := hM.trans hle2
  clear hst1 hfr1 hk2
  obtain ⟨m3, hle3, hst3, hB_mo⟩ := hst2.freezeB (k := 1) rfl
  simp only [List.set_cons_succ, List.set_cons_zero] at hst3
  have hfr3 := hfr2; obtain ⟨a3, rfl⟩ : ∃ a, a = a2 := ⟨_, rfl⟩; obtain ⟨w3, rfl⟩ : ∃ w, w = w2 := ⟨_, rfl⟩
  replace h_t := h_t.mono hle3
  replace hkk_t := hkk_t.mono hle3
  replace haa_t := haa_t.mono hle3
  replace h_bd := h_bd.mono hle3
  replace hc3 := hc3.mono hle3
  replace hc4 := hc4.mono hle3
  replace hc5 := hc5.mono hle3
  replace hM := hM.trans hle3
  clear hst2 hfr2
  refine hK5 _ _ ?_; clear hK5
  refine seq_any fun _ hK7 => ?_
  refine rp0 hst3 hfr3 (.cons rfl (ob_makeFunc (.cons rfl <| .cons rfl <| .cons rfl <| .nil)) <| .cons rfl (ob_assign rfl) <| .nil) ?_
  intro a4 w4 m4 hst4 hle4 hk4
  have hfr4 := hk4.fr (T' := [(3, _), (4, _), (5, _), (6, _), (7, _)]) (.old rfl rfl <| .old rfl rfl <| .old rfl rfl <| .old rfl rfl <| .new rfl <| .nil)
  replace h_t := h_t.mono hle4
  replace hkk_t := hkk_t.mono hle4
  replace haa_t := haa_t.mono hle4
  replace h_bd := h_bd.mono hle4
  replace hc3 := hc3.mono hle4
  replace hc4 := hc4.mono hle4
  replace hc5 := hc5.mono hle4
  replace hB_mo := hB_mo.mono hle4
  replace hM := hM.trans hle4
  clear hst3 hfr3 hk4
  refine hK7 _ _ ?_; clear hK7
  refine join_any (T := [(3, _), (4, _), (6, _)]) (fun (y : List (Str × Bool)) => ([] : List (Nat × Value))) (fun y => [.map (.map (some r)) (encs S (encW Value.bool (y))), _]) (fun (y : List (Str × Bool)) m => (fun (mk : List (Str × Bool)) => (mk = addAll (headO t bd ++ kidsO t bd) ml)) y) ((ml)) ⟨hst4, MLe.refl _, hfr4.sub (.cons rfl <| .cons rfl <| .cons rfl <| .nil), trivial⟩ (fun y a5 w5 m5 hh5 => ?_) (fun K8 hj8 => ?_)
  · have hst5 := hh5.st; have hle5 := hh5.le; have hfr5 := hh5.fr; have hrel := hh5.rel; clear hh5
    replace h_t := h_t.mono hle5
    replace hkk_t := hkk_t.mono hle5
    replace haa_t := haa_t.mono hle5
    replace h_bd := h_bd.mono hle5
    replace hc3 := hc3.mono hle5
    replace hc4 := hc4.mono hle5
    replace hc5 := hc5.mono hle5
    replace hB_mo := hB_mo.mono hle5
    clear hst4 hfr4
    replace hM := hM.trans hle5
    obtain ⟨mk, rfl⟩ : ∃ z, z = y := ⟨_, rfl⟩
    try dsimp only at hrel
    try dsimp only at hfr5
    try dsimp only at hst5
    have hmk := hrel
    refine seq_any fun _ hK9 => ?_
    refine rp0 hst5 hfr5 (.cons rfl (ob_fieldAddrO (off := 5) rfl Tryd.underlying25 rfl rfl Tryd.sizeOf23 rfl) <| .cons rfl (ob_load1 rfl hc3 Tryd.isAgg23 rfl) <| .cons rfl (ob_len rfl Tryd.underlying23) <| .cons rfl (ob_move rfl) <| .nil) ?_
    intro a6 w6 m6 hst6 hle6 hk6
    have hfr6 := hk6.fr (T' := [(4, _), (6, _), (72, _), (73, _), (74, _)]) (.old rfl rfl <| .old rfl rfl <| .new rfl <| .new rfl <| .new rfl <| .nil)
    replace h_t := h_t.mono hle6
    replace hkk_t := hkk_t.mono hle6
    replace haa_t := haa_t.mono hle6
    replace h_bd := h_bd.mono hle6
    replace hc3 := hc3.mono hle6
    replace hc4 := hc4.mono hle6
    replace hc5 := hc5.mono hle6
    replace hB_mo := hB_mo.mono hle6
    replace hM := hM.trans hle6
    clear hst5 hfr5 hk6
    refine hK9 _ _ ?_; clear hK9
    refine wp_block ?_
    refine loop_any (T := [(4, _), (6, _), (72, _), (73, _)]) (fun (y : Nat × List (Str × Bool)) => ([(74, .int .i64 (y.1 : Int))] : List (Nat × Value))) (fun y => [.map (.map (some r)) (encs S (encW Value.bool (y.2))), _]) (fun (y : Nat × List (Str × Bool)) m => (fun (y : Nat) (mj : List (Str × Bool)) => (y ≤ t.arms.length) ∧ (addAll (occAs bd (t.arms.drop y)) mj = addAll (occP t bd) ml)) y.1 y.2) (fun y => t.arms.length - y.1) ((0, mk)) ⟨hst6, MLe.refl _, hfr6.sub (.cons rfl <| .cons rfl <| .cons rfl <| .cons rfl <| .cons rfl <| .nil), ⟨Nat.zero_le _, by rw [hoe, hmk]; rfl⟩⟩ fun y a7 w7 m7 hh7 => ?_
    have hst7 := hh7.st; have hle7 := hh7.le; have hfr7 := hh7.fr; have hrel := hh7.rel; clear hh7
    replace h_t := h_t.mono hle7
    replace hkk_t := hkk_t.mono hle7
    replace haa_t := haa_t.mono hle7
    replace h_bd := h_bd.mono hle7
    replace hc3 := hc3.mono hle7
    replace hc4 := hc4.mono hle7
    replace hc5 := hc5.mono hle7
    replace hB_mo := hB_mo.mono hle7
    clear hst6 hfr6
    replace hM := hM.trans hle7
    obtain ⟨y, mj⟩ := y
    dsimp only at hrel hfr7 hst7
    obtain ⟨hyn, hmj⟩ := hrel
    have hlh7 := hle7
    refine seq_any fun _ hK11 => ?_
    refine rp0 hst7 hfr7 (.cons rfl (ob_lss rfl rfl) <| .nil) ?_
    intro a8 w8 m8 hst8 hle8 hk8
    have hfr8 := hk8.fr (T' := [(74, _), (4, _), (6, _), (72, _), (73, _), (75, _)]) (.old rfl rfl <| .old rfl rfl <| .old rfl rfl <| .old rfl rfl <| .old rfl rfl <| .new rfl <| .nil)
    replace h_t := h_t.mono hle8
    replace hkk_t := hkk_t.mono hle8
    replace haa_t := haa_t.mono hle8
    replace h_bd := h_bd.mono hle8
    replace hc3 := hc3.mono hle8
    replace hc4 := hc4.mono hle8
    replace hc5 := hc5.mono hle8
    replace hB_mo := hB_mo.mono hle8
    have hlh8 := hlh7.trans hle8
    replace hM := hM.trans hle8
    clear hst7 hfr7 hk8
    refine hK11 _ _ ?_; clear hK11
    refine seq_any fun _ hK12 => ?_
    refine cond_any hfr8 rfl rfl (fun hb75 => ?_) (fun hb75 => ?_)
    · try simp only [nq1, nq2, nq3, nq4, nq5, nq6, nq7, nq8, nq9, u8_eq] at hb75
      refine wp_skip ?_
      refine hK12 _ _ ?_; clear hK12
      refine seq_any fun _ hK13 => ?_
      refine wp_block ?_
      refine seq_any fun _ hK14 => ?_
      obtain ⟨p15, vs15, x15, ho15, hd15, hm_x15, ht15, hcv15, hl15, hv15⟩ := haa_t.nth (k := y) (by omega)
      cases ho15
      obtain ⟨oV15, cV15, bs15, rfl, hva15, hbd15⟩ := hv15.open_
      have hbv15 := hva15.big; have hcv15_ := hva15.cap
      obtain ⟨⟨oK15b, cK15b, oA15b, cA15b⟩, rfl, ⟨hik15b, hin15b⟩, hkk15b, haa15b⟩ := hbd15.open_
      dsimp only at hkk15b haa15b
      have hbg15b := hkk15b.big; have hcp15b := hkk15b.cap; have hbh15b := haa15b.big; have hcq15b := haa15b.cap
      replace hst8 := hst8.more (r := .free) trivial List.nodup_nil (by simp [Res.blocks])
      refine ra0 (tch := [(2, 2, (fun v => .blk v _)), (3, 2, (fun v => .blk v _))]) hst8 hfr8 (.cons rfl (ob_indexAddr (k := y) rfl rfl Tryd.underlying23 Tryd.sizeOf35 rfl (by omega)) <| .cons rfl (ob_loadS' rfl hcv15 Tryd.isAgg35 Tryd.sizeOf35 rfl rfl) <| .consT rfl rfl (fun _ => rfl) rfl (ob_allocL Tryd.zeroValue35 rfl) <| .consT rfl rfl (fun _ => rfl) rfl (ob_imgT 10 rfl rfl rfl fun y10 => ob_storeF rfl rfl rfl rfl rfl Tryd.sizeOf35 rfl rfl rfl) <| .nil) ?_
      intro a9 w9 m9 hst9 hle9 hk9
      have hfr9 := hk9.fr (T' := [(74, _), (4, _), (6, _), (72, _), (73, _)]) (.old rfl rfl <| .old rfl rfl <| .old rfl rfl <| .old rfl rfl <| .old rfl rfl <| .nil)
      obtain ⟨g16, e16, _⟩ := hk9.ex 10 rfl
      replace hfr9 := hfr9.cons e16
      replace hst9 := hst9.fin (L' := [_, _, _]) (.cons e16 <| .cons e16 <| .nil)
      try simp only [List.take_succ_cons, List.take_zero, List.drop_succ_cons, List.drop_zero, List.cons_append, List.nil_append, List.append_nil, List.length_cons, List.length_nil, Nat.zero_add, Nat.reduceAdd] at hst9
      replace h_t := h_t.mono hle9
      replace hkk_t := hkk_t.mono hle9
      replace haa_t := haa_t.mono hle9
      replace h_bd := h_bd.mono hle9
      replace hc3 := hc3.mono hle9
      replace hc4 := hc4.mono hle9
      replace hc5 := hc5.mono hle9
      replace hB_mo := hB_mo.mono hle9
      replace hcv15 := hcv15.mono hle9
      replace hv15 := hv15.mono hle9
      replace hva15 := hva15.mono hle9
      replace hbd15 := hbd15.mono hle9
      replace hkk15b := hkk15b.mono hle9
      replace haa15b := haa15b.mono hle9
      have hlh9 := hlh8.trans hle9
      replace hM := hM.trans hle9
      clear hst8 hfr8 hk9
      have hca := cnt_arm hm_x15
      refine hK14 _ _ ?_; clear hK14
      refine region_any (tch := [(7, 0, (fun _ => .map (.map (some r)) (encs S (encW Value.bool (addAll (occP x15.body (bd ++ x15.vars)) mj)))))]) (fun _ => mixed) hst9 hfr9 (by kernel_rfl) (by kernel_rfl) (by kernel_rfl) (.cons rfl (ob_fieldAddrO (off := 3) rfl Tryd.underlying35 rfl rfl Tryd.sizeOf25 rfl) <| .cons rfl (ob_loadLS (j := 2) rfl rfl Tryd.isAgg25 Tryd.sizeOf25 rfl rfl) <| .cons rfl (ob_load1' rfl hc4 Tryd.isAgg52 rfl) <| .cons rfl (ob_load1' rfl hB_mo Tryd.isAgg64 rfl) <| .cons rfl (ob_fieldAddrO (off := 1) rfl Tryd.underlying35 rfl rfl Tryd.sizeOf29 rfl) <| .cons rfl (ob_loadL (j := 2) rfl rfl Tryd.isAgg29 rfl) <| .cons rfl (ob_call (φ := MP.strs (bd ++ x15.vars)) rfl (.cons rfl <| .nil) Tryd.call44 (fun w m hK => by have hle_ := KC.le hK; have hA := KC.agree hK; have h_bd := h_bd.mono hle_; have hc5 := hc5.mono hle_; have hva15 := hva15.mono hle_; exact FnG.mono (more_c hA hva15 hc5 h_bd (by omega)) fun _ _ _ _ h => h)) <| .consT rfl rfl (fun _ => rfl) rfl (ob_imgT 84 rfl rfl rfl fun y84 => ob_callT rfl (.cons rfl <| .cons rfl <| .cons rfl <| .nil) Tryd.call32 (κ := .ex (MP.any)) (fun σ w m hK hr hkn => by have hle_ := KC.le hK; have hA := KC.agree hK; have hM := hM.trans hle_; have hr0_ := hK.2; have h_t := h_t.mono hle_; have hkk_t := hkk_t.mono hle_; have haa_t := haa_t.mono hle_; have h_bd := h_bd.mono hle_; have hc3 := hc3.mono hle_; have hc4 := hc4.mono hle_; have hc5 := hc5.mono hle_; have hB_mo := hB_mo.mono hle_; have hcv15 := hcv15.mono hle_; have hv15 := hv15.mono hle_; have hva15 := hva15.mono hle_; have hbd15 := hbd15.mono hle_; have hkk15b := hkk15b.mono hle_; have haa15b := haa15b.mono hle_; exact (Calls.mono (iha x15 hm_x15 hA hbd15 hr hr0_ (by rw [List.length_append]; omega)) fun e w2 ⟨v, m2, e1, hE, hL⟩ => ⟨v, m2, e1, touch_of hE hL, ⟨v, rfl, trivial⟩⟩))) <| .nil) ?_
      intro a10 w10 m10 hst10 hle10 hk10
      have hfr10 := hk10.fr (T' := [(74, _), (4, _), (6, _), (72, _), (73, _)]) (.old rfl rfl <| .old rfl rfl <| .old rfl rfl <| .old rfl rfl <| .old rfl rfl <| .nil)
      obtain ⟨y17, e17, hy17⟩ := hk10.ex 85 rfl
      replace hst10 := hst10.fin (L' := [_, _, _]) (.cons e17 <| .nil)
      have hlh10 := hlh9.trans hle10
      clear hst9 hfr9 hk10
      refine hK13 _ _ ?_; clear hK13
      refine rp0 hst10 hfr10 (.cons rfl (ob_add rfl rfl ⟨by omega, by omega⟩) <| .cons rfl (ob_move rfl) <| .nil) ?_
      intro a11 w11 m11 hst11 hle11 hk11
      have hfr11 := hk11.fr (T' := [(4, _), (6, _), (72, _), (73, _), (74, _)]) (.old rfl rfl <| .old rfl rfl <| .old rfl rfl <| .old rfl rfl <| .new rfl <| .nil)
      have hlh11 := hlh10.trans hle11
      clear hst10 hfr10 hk11
      have hst11 := hst11.take 2
      exact ⟨(y + 1, (addAll (occP x15.body (bd ++ x15.vars)) mj)), m11, by show t.arms.length - (y + 1) < t.arms.length - y; omega, ⟨hst11, hlh11, hfr11.sub (.cons rfl <| .cons rfl <| .cons rfl <| .cons rfl <| .cons rfl <| .nil), ⟨by show y + 1 ≤ t.arms.length; omega, by rw [hd15, occAs_cons, addAll_app] at hmj; exact hmj⟩⟩⟩
    · try simp only [nq1, nq2, nq3, nq4, nq5, nq6, nq7, nq8, nq9, u8_eq] at hb75
      have hge : y = t.arms.length := by omega
      rw [List.drop_of_length_le (by omega), occAs, addAll_nil] at hmj
      refine wp_exit ?_
      repeat (with_reducible first | refine then_exit ?_ | refine block_exit ?_ | refine block_normal ?_)
      exact fn_end hst8 hfr8 rfl (.nil) (by rw [← hmj]; exact (hst8.take 1).loc)
  · have hlj8 : MLe m4 m4 := MLe.refl _
    refine seq_any fun _ hK19 => ?_
    refine rp0 hst4 hfr4 (.cons rfl (ob_fieldAddrO (off := 0) rfl Tryd.underlying25 rfl rfl Tryd.sizeOf3 rfl) <| .cons rfl (ob_load1 rfl hc3 Tryd.isAgg3 rfl) <| .nil) ?_
    intro a5 w5 m5 hst5 hle5 hk5
    have hfr5 := hk5.fr (T' := [(3, _), (4, _), (5, _), (6, _), (7, _), (14, _)]) (.old rfl rfl <| .old rfl rfl <| .old rfl rfl <| .old rfl rfl <| .old rfl rfl <| .new rfl <| .nil)
    replace h_t := h_t.mono hle5
    replace hkk_t := hkk_t.mono hle5
    replace haa_t := haa_t.mono hle5
    replace h_bd := h_bd.mono hle5
    replace hc3 := hc3.mono hle5
    replace hc4 := hc4.mono hle5
    replace hc5 := hc5.mono hle5
    replace hB_mo := hB_mo.mono hle5
    replace hlj8 := hlj8.trans hle5
    replace hM := hM.trans hle5
    clear hst4 hfr4 hk5
    refine hK19 _ _ ?_; clear hK19
    refine wp_block ?_
    refine seq_any fun _ hK20 => ?_
    refine rp0 hst5 hfr5 (.cons rfl (ob_eql rfl rfl) <| .cons rfl (ob_assign rfl) <| .nil) ?_
    intro a6 w6 m6 hst6 hle6 hk6
    have hfr6 := hk6.fr (T' := [(3, _), (4, _), (5, _), (6, _), (7, _), (14, _), (25, _)]) (.old rfl rfl <| .old rfl rfl <| .old rfl rfl <| .old rfl rfl <| .old rfl rfl <| .old rfl rfl <| .new rfl <| .nil)
    replace h_t := h_t.mono hle6
    replace hkk_t := hkk_t.mono hle6
    replace haa_t := haa_t.mono hle6
    replace h_bd := h_bd.mono hle6
    replace hc3 := hc3.mono hle6
    replace hc4 := hc4.mono hle6
    replace hc5 := hc5.mono hle6
    replace hB_mo := hB_mo.mono hle6
    replace hlj8 := hlj8.trans hle6
    replace hM := hM.trans hle6
    clear hst5 hfr5 hk6
    refine hK20 _ _ ?_; clear hK20
    refine cond_any hfr6 rfl rfl (fun hb25 => ?_) (fun hb25 => ?_)
    · try simp only [nq1, nq2, nq3, nq4, nq5, nq6, nq7, nq8, nq9, u8_eq] at hb25
      refine seq_any fun _ hK21 => ?_
      refine rp0 hst6 hfr6 (.cons rfl (ob_fieldAddrO (off := 1) rfl Tryd.underlying25 rfl rfl Tryd.sizeOf9 rfl) <| .cons rfl (ob_load1 rfl hc3 Tryd.isAgg9 rfl) <| .cons rfl (ob_seql rfl rfl) <| .cons rfl (ob_move rfl) <| .cons rfl (ob_load1' rfl hc5 Tryd.isAgg29 rfl) <| .cons rfl (ob_fieldAddrO (off := 1) rfl Tryd.underlying25 rfl rfl Tryd.sizeOf9 rfl) <| .cons rfl (ob_load1 rfl hc3 Tryd.isAgg9 rfl) <| .cons rfl (ob_callE rfl (.cons rfl <| .cons rfl <| .nil) Tryd.call47 (fun w m hK => by have hle_ := KC.le hK; have hA := KC.agree hK; have h_t := h_t.mono hle_; have hkk_t := hkk_t.mono hle_; have haa_t := haa_t.mono hle_; have h_bd := h_bd.mono hle_; have hc3 := hc3.mono hle_; have hc4 := hc4.mono hle_; have hc5 := hc5.mono hle_; have hB_mo := hB_mo.mono hle_; exact containsS_c hA (by first | assumption | omega | simp_all))) <| .cons rfl (ob_not rfl) <| .cons rfl (ob_or rfl rfl rfl) <| .nil) ?_
      intro a7 w7 m7 hst7 hle7 hk7
      have hfr7 := hk7.fr (T' := [(3, _), (4, _), (6, _), (36, _)]) (.old rfl rfl <| .old rfl rfl <| .old rfl rfl <| .new rfl <| .nil)
      replace hc3 := hc3.mono hle7
      replace hc4 := hc4.mono hle7
      replace hlj8 := hlj8.trans hle7
      clear hst6 hfr6 hk7
      refine hK21 _ _ ?_; clear hK21
      refine cond_any hfr7 rfl rfl (fun hb36 => ?_) (fun hb36 => ?_)
      · try simp only [nq1, nq2, nq3, nq4, nq5, nq6, nq7, nq8, nq9, u8_eq] at hb36
        refine ra0 (tch := [(3, 0, (fun _ => .map _ _))]) hst7 hfr7 (.cons rfl (ob_load1' rfl hc4 Tryd.isAgg52 rfl) <| .cons rfl (ob_fieldAddrO (off := 1) rfl Tryd.underlying25 rfl rfl Tryd.sizeOf9 rfl) <| .cons rfl (ob_load1 rfl hc3 Tryd.isAgg9 rfl) <| .consT rfl rfl (fun _ => rfl) rfl (ob_mapUpdate keys_S rfl rfl rfl Tryd.underlying52 Tryd.underlying9) <| .nil) ?_
        intro a8 w8 m8 hst8 hle8 hk8
        have hfr8 := hk8.fr (T' := [(3, _), (4, _), (6, _)]) (.old rfl rfl <| .old rfl rfl <| .old rfl rfl <| .nil)
        replace hst8 := hst8.fin (L' := [_, _]) (.cons rfl <| .nil)
        replace hlj8 := hlj8.trans hle8
        clear hst7 hfr7 hk8
        rw [encW_set] at hst8
        repeat (with_reducible first | refine then_exit ?_ | refine block_exit ?_ | refine block_normal ?_)
        exact hj8 ((aset t.name true ml)) _ _ _ ⟨hst8, hlj8, hfr8.sub (.cons rfl <| .cons rfl <| .cons rfl <| .nil), (by rw [hk_1 hb25 hb36]; rfl)⟩
      · try simp only [nq1, nq2, nq3, nq4, nq5, nq6, nq7, nq8, nq9, u8_eq] at hb36
        refine wp_skip ?_
        repeat (with_reducible first | refine then_exit ?_ | refine block_exit ?_ | refine block_normal ?_)
        exact hj8 (ml) _ _ _ ⟨hst7, hlj8, hfr7.sub (.cons rfl <| .cons rfl <| .cons rfl <| .nil), (by rw [hk_1n hb25 (by intro h; rcases h with h | h; exact hb36.1 h; exact h hb36.2)]; rfl)⟩
    · try simp only [nq1, nq2, nq3, nq4, nq5, nq6, nq7, nq8, nq9, u8_eq] at hb25
      refine seq_any fun _ hK22 => ?_
      refine rp0 hst6 hfr6 (.cons rfl (ob_eql rfl rfl) <| .cons rfl (ob_assign rfl) <| .nil) ?_
      intro a7 w7 m7 hst7 hle7 hk7
      have hfr7 := hk7.fr (T' := [(3, _), (4, _), (6, _), (7, _), (14, _), (40, _)]) (.old rfl rfl <| .old rfl rfl <| .old rfl rfl <| .old rfl rfl <| .old rfl rfl <| .new rfl <| .nil)
      replace h_t := h_t.mono hle7
      replace hkk_t := hkk_t.mono hle7
      replace haa_t := haa_t.mono hle7
      replace h_bd := h_bd.mono hle7
      replace hc3 := hc3.mono hle7
      replace hc4 := hc4.mono hle7
      replace hc5 := hc5.mono hle7
      replace hB_mo := hB_mo.mono hle7
      replace hlj8 := hlj8.trans hle7
      replace hM := hM.trans hle7
      clear hst6 hfr6 hk7
      refine hK22 _ _ ?_; clear hK22
      refine cond_any hfr7 rfl rfl (fun hb40 => ?_) (fun hb40 => ?_)
      · try simp only [nq1, nq2, nq3, nq4, nq5, nq6, nq7, nq8, nq9, u8_eq] at hb40
        refine ra0 (tch := [(4, 0, (fun _ => .map (.map (some r)) (encs S (encW Value.bool (addAll (kidO t bd 0 [t.name]) (ml))))))]) hst7 hfr7 (.cons rfl (ob_move rfl) <| .cons rfl (ob_fieldAddrO (off := 1) rfl Tryd.underlying25 rfl rfl Tryd.sizeOf9 rfl) <| .cons rfl (ob_load1 rfl hc3 Tryd.isAgg9 rfl) <| .cons rfl (ob_buildSlice (.cons rfl <| .nil) Tryd.underlying29 Tryd.sizeOf9 Tryd.zeroValue9 rfl rfl rfl rfl) <| .consT rfl rfl (fun _ => rfl) rfl (ob_imgT 45 rfl rfl rfl fun y45 => ob_callT rfl (.cons rfl <| .cons rfl <| .nil) Tryd.call46 (κ := .ex (MP.any)) (fun σ w m hK hr hkn => by have hle_ := KC.le hK; have hA := KC.agree hK; have hM := hM.trans hle_; have hr0_ := hK.2; have h_t := h_t.mono hle_; have hkk_t := hkk_t.mono hle_; have haa_t := haa_t.mono hle_; have h_bd := h_bd.mono hle_; have hc3 := hc3.mono hle_; have hc4 := hc4.mono hle_; have hc5 := hc5.mono hle_; have hB_mo := hB_mo.mono hle_; exact (Calls.mono (kid_g (t := t) (ns := [t.name]) (i := 0) hA (Sl.one (vs := [_]) hr0_ rfl rfl) hc3 h_t hr hc4 hB_mo hc5 h_bd ihk (by simp) (by omega)) fun e w2 ⟨v, m2, e1, hE, hL⟩ => ⟨v, m2, e1, touch_of hE hL, ⟨v, rfl, trivial⟩⟩))) <| .nil) ?_
        intro a8 w8 m8 hst8 hle8 hk8
        have hfr8 := hk8.fr (T' := [(3, _), (4, _), (6, _)]) (.old rfl rfl <| .old rfl rfl <| .old rfl rfl <| .nil)
        obtain ⟨y23, e23, hy23⟩ := hk8.ex 46 rfl
        replace hst8 := hst8.fin (L' := [_, _]) (.cons e23 <| .nil)
        replace hlj8 := hlj8.trans hle8
        clear hst7 hfr7 hk8
        repeat (with_reducible first | refine then_exit ?_ | refine block_exit ?_ | refine block_normal ?_)
        exact hj8 (addAll (kidO t bd 0 [t.name]) ml) _ _ _ ⟨hst8, hlj8, hfr8.sub (.cons rfl <| .cons rfl <| .cons rfl <| .nil), (by rw [hk_5 hb40])⟩
      · try simp only [nq1, nq2, nq3, nq4, nq5, nq6, nq7, nq8, nq9, u8_eq] at hb40
        refine seq_any fun _ hK24 => ?_
        refine seq_any fun _ hK25 => ?_
        refine rp0 hst7 hfr7 (.cons rfl (ob_eql rfl rfl) <| .cons rfl (ob_assign rfl) <| .nil) ?_
        intro a8 w8 m8 hst8 hle8 hk8
        have hfr8 := hk8.fr (T' := [(3, _), (4, _), (6, _), (7, _), (14, _), (47, _)]) (.old rfl rfl <| .old rfl rfl <| .old rfl rfl <| .old rfl rfl <| .old rfl rfl <| .new rfl <| .nil)
        replace h_t := h_t.mono hle8
        replace hkk_t := hkk_t.mono hle8
        replace haa_t := haa_t.mono hle8
        replace h_bd := h_bd.mono hle8
        replace hc3 := hc3.mono hle8
        replace hc4 := hc4.mono hle8
        replace hc5 := hc5.mono hle8
        replace hB_mo := hB_mo.mono hle8
        replace hlj8 := hlj8.trans hle8
        replace hM := hM.trans hle8
        clear hst7 hfr7 hk8
        refine hK25 _ _ ?_; clear hK25
        refine cond_any hfr8 rfl rfl (fun hb47 => ?_) (fun hb47 => ?_)
        · try simp only [nq1, nq2, nq3, nq4, nq5, nq6, nq7, nq8, nq9, u8_eq] at hb47
          refine wp_skip ?_
          refine hK24 _ _ ?_; clear hK24
          refine cond_any hfr8 rfl rfl (fun hb47x => ?_) (fun hb47x => ?_)
          · try simp only [nq1, nq2, nq3, nq4, nq5, nq6, nq7, nq8, nq9, u8_eq] at hb47x
            refine seq_any fun _ hK26 => ?_
            refine ra0 (tch := [(1, 0, (fun _ => .map (.map (some r)) (encs S (encW Value.bool (addAll (kidO t bd 0 []) (ml))))))]) hst8 hfr8 (.cons rfl (ob_move rfl) <| .consT rfl rfl (fun _ => rfl) rfl (ob_callT rfl (.cons rfl <| .cons rfl <| .nil) Tryd.call46 (κ := .ex (MP.any)) (fun σ w m hK hr hkn => by have hle_ := KC.le hK; have hA := KC.agree hK; have hM := hM.trans hle_; have h_t := h_t.mono hle_; have hkk_t := hkk_t.mono hle_; have haa_t := haa_t.mono hle_; have h_bd := h_bd.mono hle_; have hc3 := hc3.mono hle_; have hc4 := hc4.mono hle_; have hc5 := hc5.mono hle_; have hB_mo := hB_mo.mono hle_; exact (Calls.mono (kid_g (t := t) (ns := []) (i := 0) hA Sl.empty hc3 h_t hr hc4 hB_mo hc5 h_bd ihk (by simp) (by omega)) fun e w2 ⟨v, m2, e1, hE, hL⟩ => ⟨v, m2, e1, touch_of hE hL, ⟨v, rfl, trivial⟩⟩))) <| .nil) ?_
            intro a9 w9 m9 hst9 hle9 hk9
            have hfr9 := hk9.fr (T' := [(3, _), (4, _), (6, _), (7, _)]) (.old rfl rfl <| .old rfl rfl <| .old rfl rfl <| .old rfl rfl <| .nil)
            obtain ⟨y27, e27, hy27⟩ := hk9.ex 51 rfl
            replace hst9 := hst9.fin (L' := [_, _]) (.cons e27 <| .nil)
            replace h_t := h_t.mono hle9
            replace hkk_t := hkk_t.mono hle9
            replace haa_t := haa_t.mono hle9
            replace h_bd := h_bd.mono hle9
            replace hc3 := hc3.mono hle9
            replace hc4 := hc4.mono hle9
            replace hc5 := hc5.mono hle9
            replace hB_mo := hB_mo.mono hle9
            replace hlj8 := hlj8.trans hle9
            replace hM := hM.trans hle9
            clear hst8 hfr8 hk9
            refine hK26 _ _ ?_; clear hK26
            refine ra0 (tch := [(4, 0, (fun _ => .map (.map (some r)) (encs S (encW Value.bool (addAll (kidO t bd 1 [t.name]) (addAll (kidO t bd 0 []) ml))))))]) hst9 hfr9 (.cons rfl (ob_move rfl) <| .cons rfl (ob_fieldAddrO (off := 1) rfl Tryd.underlying25 rfl rfl Tryd.sizeOf9 rfl) <| .cons rfl (ob_load1 rfl hc3 Tryd.isAgg9 rfl) <| .cons rfl (ob_buildSlice (.cons rfl <| .nil) Tryd.underlying29 Tryd.sizeOf9 Tryd.zeroValue9 rfl rfl rfl rfl) <| .consT rfl rfl (fun _ => rfl) rfl (ob_imgT 55 rfl rfl rfl fun y55 => ob_callT rfl (.cons rfl <| .cons rfl <| .nil) Tryd.call46 (κ := .ex (MP.any)) (fun σ w m hK hr hkn => by have hle_ := KC.le hK; have hA := KC.agree hK; have hM := hM.trans hle_; have hr0_ := hK.2; have h_t := h_t.mono hle_; have hkk_t := hkk_t.mono hle_; have haa_t := haa_t.mono hle_; have h_bd := h_bd.mono hle_; have hc3 := hc3.mono hle_; have hc4 := hc4.mono hle_; have hc5 := hc5.mono hle_; have hB_mo := hB_mo.mono hle_; exact (Calls.mono (kid_g (t := t) (ns := [t.name]) (i := 1) hA (Sl.one (vs := [_]) hr0_ rfl rfl) hc3 h_t hr hc4 hB_mo hc5 h_bd ihk (by simp) (by omega)) fun e w2 ⟨v, m2, e1, hE, hL⟩ => ⟨v, m2, e1, touch_of hE hL, ⟨v, rfl, trivial⟩⟩))) <| .nil) ?_
            intro a10 w10 m10 hst10 hle10 hk10
            have hfr10 := hk10.fr (T' := [(3, _), (4, _), (6, _)]) (.old rfl rfl <| .old rfl rfl <| .old rfl rfl <| .nil)
            obtain ⟨y28, e28, hy28⟩ := hk10.ex 56 rfl
            replace hst10 := hst10.fin (L' := [_, _]) (.cons e28 <| .nil)
            replace hlj8 := hlj8.trans hle10
            clear hst9 hfr9 hk10
            repeat (with_reducible first | refine then_exit ?_ | refine block_exit ?_ | refine block_normal ?_)
            exact hj8 (addAll (kidO t bd 1 [t.name]) (addAll (kidO t bd 0 []) ml)) _ _ _ ⟨hst10, hlj8, hfr10.sub (.cons rfl <| .cons rfl <| .cons rfl <| .nil), (by rw [hk_7 (by omega), addAll_app])⟩
          · exfalso; try simp only [nq1, nq2, nq3, nq4, nq5, nq6, nq7, nq8, nq9, u8_eq] at hb47x
            first | exact absurd hb47x hb47 | exact absurd hb47 hb47x | simp_all
        · try simp only [nq1, nq2, nq3, nq4, nq5, nq6, nq7, nq8, nq9, u8_eq] at hb47
          refine rp0 hst8 hfr8 (.cons rfl (ob_eql rfl rfl) <| .cons rfl (ob_assign rfl) <| .nil) ?_
          intro a9 w9 m9 hst9 hle9 hk9
          have hfr9 := hk9.fr (T' := [(3, _), (4, _), (6, _), (7, _), (14, _), (47, _)]) (.old rfl rfl <| .old rfl rfl <| .old rfl rfl <| .old rfl rfl <| .old rfl rfl <| .new rfl <| .nil)
          replace h_t := h_t.mono hle9
          replace hkk_t := hkk_t.mono hle9
          replace haa_t := haa_t.mono hle9
          replace h_bd := h_bd.mono hle9
          replace hc3 := hc3.mono hle9
          replace hc4 := hc4.mono hle9
          replace hc5 := hc5.mono hle9
          replace hB_mo := hB_mo.mono hle9
          replace hlj8 := hlj8.trans hle9
          replace hM := hM.trans hle9
          clear hst8 hfr8 hk9
          refine hK24 _ _ ?_; clear hK24
          refine cond_any hfr9 rfl rfl (fun hb47 => ?_) (fun hb47 => ?_)
          · try simp only [nq1, nq2, nq3, nq4, nq5, nq6, nq7, nq8, nq9, u8_eq] at hb47
            refine seq_any fun _ hK29 => ?_
            refine ra0 (tch := [(1, 0, (fun _ => .map (.map (some r)) (encs S (encW Value.bool (addAll (kidO t bd 0 []) (ml))))))]) hst9 hfr9 (.cons rfl (ob_move rfl) <| .consT rfl rfl (fun _ => rfl) rfl (ob_callT rfl (.cons rfl <| .cons rfl <| .nil) Tryd.call46 (κ := .ex (MP.any)) (fun σ w m hK hr hkn => by have hle_ := KC.le hK; have hA := KC.agree hK; have hM := hM.trans hle_; have h_t := h_t.mono hle_; have hkk_t := hkk_t.mono hle_; have haa_t := haa_t.mono hle_; have h_bd := h_bd.mono hle_; have hc3 := hc3.mono hle_; have hc4 := hc4.mono hle_; have hc5 := hc5.mono hle_; have hB_mo := hB_mo.mono hle_; exact (Calls.mono (kid_g (t := t) (ns := []) (i := 0) hA Sl.empty hc3 h_t hr hc4 hB_mo hc5 h_bd ihk (by simp) (by omega)) fun e w2 ⟨v, m2, e1, hE, hL⟩ => ⟨v, m2, e1, touch_of hE hL, ⟨v, rfl, trivial⟩⟩))) <| .nil) ?_
            intro a10 w10 m10 hst10 hle10 hk10
            have hfr10 := hk10.fr (T' := [(3, _), (4, _), (6, _), (7, _)]) (.old rfl rfl <| .old rfl rfl <| .old rfl rfl <| .old rfl rfl <| .nil)
            obtain ⟨y30, e30, hy30⟩ := hk10.ex 51 rfl
            replace hst10 := hst10.fin (L' := [_, _]) (.cons e30 <| .nil)
            replace h_t := h_t.mono hle10
            replace hkk_t := hkk_t.mono hle10
            replace haa_t := haa_t.mono hle10
            replace h_bd := h_bd.mono hle10
            replace hc3 := hc3.mono hle10
            replace hc4 := hc4.mono hle10
            replace hc5 := hc5.mono hle10
            replace hB_mo := hB_mo.mono hle10
            replace hlj8 := hlj8.trans hle10
            replace hM := hM.trans hle10
            clear hst9 hfr9 hk10
            refine hK29 _ _ ?_; clear hK29
            refine ra0 (tch := [(4, 0, (fun _ => .map (.map (some r)) (encs S (encW Value.bool (addAll (kidO t bd 1 [t.name]) (addAll (kidO t bd 0 []) ml))))))]) hst10 hfr10 (.cons rfl (ob_move rfl) <| .cons rfl (ob_fieldAddrO (off := 1) rfl Tryd.underlying25 rfl rfl Tryd.sizeOf9 rfl) <| .cons rfl (ob_load1 rfl hc3 Tryd.isAgg9 rfl) <| .cons rfl (ob_buildSlice (.cons rfl <| .nil) Tryd.underlying29 Tryd.sizeOf9 Tryd.zeroValue9 rfl rfl rfl rfl) <| .consT rfl rfl (fun _ => rfl) rfl (ob_imgT 55 rfl rfl rfl fun y55 => ob_callT rfl (.cons rfl <| .cons rfl <| .nil) Tryd.call46 (κ := .ex (MP.any)) (fun σ w m hK hr hkn => by have hle_ := KC.le hK; have hA := KC.agree hK; have hM := hM.trans hle_; have hr0_ := hK.2; have h_t := h_t.mono hle_; have hkk_t := hkk_t.mono hle_; have haa_t := haa_t.mono hle_; have h_bd := h_bd.mono hle_; have hc3 := hc3.mono hle_; have hc4 := hc4.mono hle_; have hc5 := hc5.mono hle_; have hB_mo := hB_mo.mono hle_; exact (Calls.mono (kid_g (t := t) (ns := [t.name]) (i := 1) hA (Sl.one (vs := [_]) hr0_ rfl rfl) hc3 h_t hr hc4 hB_mo hc5 h_bd ihk (by simp) (by omega)) fun e w2 ⟨v, m2, e1, hE, hL⟩ => ⟨v, m2, e1, touch_of hE hL, ⟨v, rfl, trivial⟩⟩))) <| .nil) ?_
            intro a11 w11 m11 hst11 hle11 hk11
            have hfr11 := hk11.fr (T' := [(3, _), (4, _), (6, _)]) (.old rfl rfl <| .old rfl rfl <| .old rfl rfl <| .nil)
            obtain ⟨y31, e31, hy31⟩ := hk11.ex 56 rfl
            replace hst11 := hst11.fin (L' := [_, _]) (.cons e31 <| .nil)
            replace hlj8 := hlj8.trans hle11
            clear hst10 hfr10 hk11
            repeat (with_reducible first | refine then_exit ?_ | refine block_exit ?_ | refine block_normal ?_)
            exact hj8 (addAll (kidO t bd 1 [t.name]) (addAll (kidO t bd 0 []) ml)) _ _ _ ⟨hst11, hlj8, hfr11.sub (.cons rfl <| .cons rfl <| .cons rfl <| .nil), (by rw [hk_7 (by omega), addAll_app])⟩
          · try simp only [nq1, nq2, nq3, nq4, nq5, nq6, nq7, nq8, nq9, u8_eq] at hb47
            refine seq_any fun _ hK32 => ?_
            refine rp0 hst9 hfr9 (.cons rfl (ob_eql rfl rfl) <| .cons rfl (ob_assign rfl) <| .nil) ?_
            intro a10 w10 m10 hst10 hle10 hk10
            have hfr10 := hk10.fr (T' := [(3, _), (4, _), (6, _), (7, _), (57, _)]) (.old rfl rfl <| .old rfl rfl <| .old rfl rfl <| .old rfl rfl <| .new rfl <| .nil)
            replace h_t := h_t.mono hle10
            replace hkk_t := hkk_t.mono hle10
            replace haa_t := haa_t.mono hle10
            replace h_bd := h_bd.mono hle10
            replace hc3 := hc3.mono hle10
            replace hc4 := hc4.mono hle10
            replace hc5 := hc5.mono hle10
            replace hB_mo := hB_mo.mono hle10
            replace hlj8 := hlj8.trans hle10
            replace hM := hM.trans hle10
            clear hst9 hfr9 hk10
            refine hK32 _ _ ?_; clear hK32
            refine cond_any hfr10 rfl rfl (fun hb57 => ?_) (fun hb57 => ?_)
            · try simp only [nq1, nq2, nq3, nq4, nq5, nq6, nq7, nq8, nq9, u8_eq] at hb57
              refine seq_any fun _ hK33 => ?_
              refine ra0 (tch := [(6, 0, (fun _ => .map (.map (some r)) (encs S (encW Value.bool (addAll (kidO t bd 0 [t.name, t.param]) (ml))))))]) hst10 hfr10 (.cons rfl (ob_move rfl) <| .cons rfl (ob_fieldAddrO (off := 1) rfl Tryd.underlying25 rfl rfl Tryd.sizeOf9 rfl) <| .cons rfl (ob_load1 rfl hc3 Tryd.isAgg9 rfl) <| .cons rfl (ob_fieldAddrO (off := 2) rfl Tryd.underlying25 rfl rfl Tryd.sizeOf9 rfl) <| .cons rfl (ob_load1 rfl hc3 Tryd.isAgg9 rfl) <| .cons rfl (ob_buildSlice (.cons rfl <| .cons rfl <| .nil) Tryd.underlying29 Tryd.sizeOf9 Tryd.zeroValue9 rfl rfl rfl rfl) <| .consT rfl rfl (fun _ => rfl) rfl (ob_imgT 64 rfl rfl rfl fun y64 => ob_callT rfl (.cons rfl <| .cons rfl <| .nil) Tryd.call46 (κ := .ex (MP.any)) (fun σ w m hK hr hkn => by have hle_ := KC.le hK; have hA := KC.agree hK; have hM := hM.trans hle_; have hr0_ := hK.2; have h_t := h_t.mono hle_; have hkk_t := hkk_t.mono hle_; have haa_t := haa_t.mono hle_; have h_bd := h_bd.mono hle_; have hc3 := hc3.mono hle_; have hc4 := hc4.mono hle_; have hc5 := hc5.mono hle_; have hB_mo := hB_mo.mono hle_; exact (Calls.mono (kid_g (t := t) (ns := [t.name, t.param]) (i := 0) hA (Sl.two (vs := [_]) (us := [_]) hr0_ rfl rfl rfl rfl) hc3 h_t hr hc4 hB_mo hc5 h_bd ihk (by simp) (by omega)) fun e w2 ⟨v, m2, e1, hE, hL⟩ => ⟨v, m2, e1, touch_of hE hL, ⟨v, rfl, trivial⟩⟩))) <| .nil) ?_
              intro a11 w11 m11 hst11 hle11 hk11
              have hfr11 := hk11.fr (T' := [(3, _), (4, _), (6, _), (7, _)]) (.old rfl rfl <| .old rfl rfl <| .old rfl rfl <| .old rfl rfl <| .nil)
              obtain ⟨y34, e34, hy34⟩ := hk11.ex 65 rfl
              replace hst11 := hst11.fin (L' := [_, _]) (.cons e34 <| .nil)
              replace h_t := h_t.mono hle11
              replace hkk_t := hkk_t.mono hle11
              replace haa_t := haa_t.mono hle11
              replace h_bd := h_bd.mono hle11
              replace hc3 := hc3.mono hle11
              replace hc4 := hc4.mono hle11
              replace hc5 := hc5.mono hle11
              replace hB_mo := hB_mo.mono hle11
              replace hlj8 := hlj8.trans hle11
              replace hM := hM.trans hle11
              clear hst10 hfr10 hk11
              refine hK33 _ _ ?_; clear hK33
              refine ra0 (tch := [(4, 0, (fun _ => .map (.map (some r)) (encs S (encW Value.bool (addAll (kidO t bd 1 [t.name]) (addAll (kidO t bd 0 [t.name, t.param]) ml))))))]) hst11 hfr11 (.cons rfl (ob_move rfl) <| .cons rfl (ob_fieldAddrO (off := 1) rfl Tryd.underlying25 rfl rfl Tryd.sizeOf9 rfl) <| .cons rfl (ob_load1 rfl hc3 Tryd.isAgg9 rfl) <| .cons rfl (ob_buildSlice (.cons rfl <| .nil) Tryd.underlying29 Tryd.sizeOf9 Tryd.zeroValue9 rfl rfl rfl rfl) <| .consT rfl rfl (fun _ => rfl) rfl (ob_imgT 69 rfl rfl rfl fun y69 => ob_callT rfl (.cons rfl <| .cons rfl <| .nil) Tryd.call46 (κ := .ex (MP.any)) (fun σ w m hK hr hkn => by have hle_ := KC.le hK; have hA := KC.agree hK; have hM := hM.trans hle_; have hr0_ := hK.2; have h_t := h_t.mono hle_; have hkk_t := hkk_t.mono hle_; have haa_t := haa_t.mono hle_; have h_bd := h_bd.mono hle_; have hc3 := hc3.mono hle_; have hc4 := hc4.mono hle_; have hc5 := hc5.mono hle_; have hB_mo := hB_mo.mono hle_; exact (Calls.mono (kid_g (t := t) (ns := [t.name]) (i := 1) hA (Sl.one (vs := [_]) hr0_ rfl rfl) hc3 h_t hr hc4 hB_mo hc5 h_bd ihk (by simp) (by omega)) fun e w2 ⟨v, m2, e1, hE, hL⟩ => ⟨v, m2, e1, touch_of hE hL, ⟨v, rfl, trivial⟩⟩))) <| .nil) ?_
              intro a12 w12 m12 hst12 hle12 hk12
              have hfr12 := hk12.fr (T' := [(3, _), (4, _), (6, _)]) (.old rfl rfl <| .old rfl rfl <| .old rfl rfl <| .nil)
              obtain ⟨y35, e35, hy35⟩ := hk12.ex 70 rfl
              replace hst12 := hst12.fin (L' := [_, _]) (.cons e35 <| .nil)
              replace hlj8 := hlj8.trans hle12
              clear hst11 hfr11 hk12
              repeat (with_reducible first | refine then_exit ?_ | refine block_exit ?_ | refine block_normal ?_)
              exact hj8 (addAll (kidO t bd 1 [t.name]) (addAll (kidO t bd 0 [t.name, t.param]) ml)) _ _ _ ⟨hst12, hlj8, hfr12.sub (.cons rfl <| .cons rfl <| .cons rfl <| .nil), (by rw [hk_9 hb57, addAll_app])⟩
            · try simp only [nq1, nq2, nq3, nq4, nq5, nq6, nq7, nq8, nq9, u8_eq] at hb57
              refine seq_any fun _ hK36 => ?_
              refine rp0 hst10 hfr10 (.cons rfl (ob_fieldAddrO (off := 4) rfl Tryd.underlying25 rfl rfl Tryd.sizeOf22 rfl) <| .cons rfl (ob_load1 rfl hc3 Tryd.isAgg22 rfl) <| .cons rfl (ob_len rfl Tryd.underlying22) <| .cons rfl (ob_move rfl) <| .nil) ?_
              intro a11 w11 m11 hst11 hle11 hk11
              have hfr11 := hk11.fr (T' := [(3, _), (4, _), (6, _), (7, _), (17, _), (18, _)]) (.old rfl rfl <| .old rfl rfl <| .old rfl rfl <| .old rfl rfl <| .new rfl <| .new rfl <| .nil)
              replace h_t := h_t.mono hle11
              replace hkk_t := hkk_t.mono hle11
              replace haa_t := haa_t.mono hle11
              replace h_bd := h_bd.mono hle11
              replace hc3 := hc3.mono hle11
              replace hc4 := hc4.mono hle11
              replace hc5 := hc5.mono hle11
              replace hB_mo := hB_mo.mono hle11
              replace hlj8 := hlj8.trans hle11
              replace hM := hM.trans hle11
              clear hst10 hfr10 hk11
              refine hK36 _ _ ?_; clear hK36
              refine wp_block ?_
              refine loop_any (T := [(3, _), (4, _), (6, _), (7, _), (17, _)]) (fun (y : Nat × List (Str × Bool)) => ([(18, .int .i64 (y.1 : Int))] : List (Nat × Value))) (fun y => [.map (.map (some r)) (encs S (encW Value.bool (y.2))), _]) (fun (y : Nat × List (Str × Bool)) m => (fun (y : Nat) (mj : List (Str × Bool)) => (y ≤ t.kids.length) ∧ (addAll (occKs (bindP t.kind t.name t.param) bd y (t.kids.drop y)) mj = addAll (kidsO t bd) ml)) y.1 y.2) (fun y => t.kids.length - y.1) ((0, ml)) ⟨hst11, MLe.refl _, hfr11.sub (.cons rfl <| .cons rfl <| .cons rfl <| .cons rfl <| .cons rfl <| .cons rfl <| .nil), ⟨Nat.zero_le _, rfl⟩⟩ fun y a12 w12 m12 hh12 => ?_
              have hst12 := hh12.st; have hle12 := hh12.le; have hfr12 := hh12.fr; have hrel := hh12.rel; clear hh12
              replace h_t := h_t.mono hle12
              replace hkk_t := hkk_t.mono hle12
              replace haa_t := haa_t.mono hle12
              replace h_bd := h_bd.mono hle12
              replace hc3 := hc3.mono hle12
              replace hc4 := hc4.mono hle12
              replace hc5 := hc5.mono hle12
              replace hB_mo := hB_mo.mono hle12
              clear hst11 hfr11
              replace hM := hM.trans hle12
              obtain ⟨y, mj⟩ := y
              dsimp only at hrel hfr12 hst12
              obtain ⟨hyn, hmj⟩ := hrel
              replace hlj8 := hlj8.trans hle12
              have hlh12 := hle12
              refine seq_any fun _ hK38 => ?_
              refine rp0 hst12 hfr12 (.cons rfl (ob_lss rfl rfl) <| .nil) ?_
              intro a13 w13 m13 hst13 hle13 hk13
              have hfr13 := hk13.fr (T' := [(18, _), (3, _), (4, _), (6, _), (7, _), (17, _), (19, _)]) (.old rfl rfl <| .old rfl rfl <| .old rfl rfl <| .old rfl rfl <| .old rfl rfl <| .old rfl rfl <| .new rfl <| .nil)
              replace h_t := h_t.mono hle13
              replace hkk_t := hkk_t.mono hle13
              replace haa_t := haa_t.mono hle13
              replace h_bd := h_bd.mono hle13
              replace hc3 := hc3.mono hle13
              replace hc4 := hc4.mono hle13
              replace hc5 := hc5.mono hle13
              replace hB_mo := hB_mo.mono hle13
              have hlh13 := hlh12.trans hle13
              replace hlj8 := hlj8.trans hle13
              replace hM := hM.trans hle13
              clear hst12 hfr12 hk13
              refine hK38 _ _ ?_; clear hK38
              refine seq_any fun _ hK39 => ?_
              refine cond_any hfr13 rfl rfl (fun hb19 => ?_) (fun hb19 => ?_)
              · try simp only [nq1, nq2, nq3, nq4, nq5, nq6, nq7, nq8, nq9, u8_eq] at hb19
                refine wp_skip ?_
                refine hK39 _ _ ?_; clear hK39
                refine seq_any fun _ hK40 => ?_
                refine wp_block ?_
                refine seq_any fun _ hK41 => ?_
                refine rp0 hst13 hfr13 (.cons rfl (ob_move rfl) <| .cons rfl (ob_assign rfl) <| .nil) ?_
                intro a14 w14 m14 hst14 hle14 hk14
                have hfr14 := hk14.fr (T' := [(18, _), (3, _), (4, _), (6, _), (7, _), (17, _), (8, _)]) (.old rfl rfl <| .old rfl rfl <| .old rfl rfl <| .old rfl rfl <| .old rfl rfl <| .old rfl rfl <| .new rfl <| .nil)
                replace h_t := h_t.mono hle14
                replace hkk_t := hkk_t.mono hle14
                replace haa_t := haa_t.mono hle14
                replace h_bd := h_bd.mono hle14
                replace hc3 := hc3.mono hle14
                replace hc4 := hc4.mono hle14
                replace hc5 := hc5.mono hle14
                replace hB_mo := hB_mo.mono hle14
                have hlh14 := hlh13.trans hle14
                replace hM := hM.trans hle14
                clear hst13 hfr13 hk14
                refine hK41 _ _ ?_; clear hK41
                obtain ⟨u9, hat9, hd9⟩ : ∃ x, t.kids[y]? = some x ∧ t.kids.drop y = x :: t.kids.drop (y + 1) := ⟨t.kids[y]'(by omega), List.getElem?_eq_getElem (by omega), List.drop_eq_getElem_cons (by omega)⟩
                refine ra0 (tch := [(2, 0, (fun _ => .map (.map (some r)) (encs S (encW Value.bool (addAll (kidO t bd y []) (mj))))))]) hst14 hfr14 (.cons rfl (ob_move rfl) <| .cons rfl (ob_move rfl) <| .consT rfl rfl (fun _ => rfl) rfl (ob_callT rfl (.cons rfl <| .cons rfl <| .nil) Tryd.call46 (κ := .ex (MP.any)) (fun σ w m hK hr hkn => by have hle_ := KC.le hK; have hA := KC.agree hK; have hM := hM.trans hle_; have h_t := h_t.mono hle_; have hkk_t := hkk_t.mono hle_; have haa_t := haa_t.mono hle_; have h_bd := h_bd.mono hle_; have hc3 := hc3.mono hle_; have hc4 := hc4.mono hle_; have hc5 := hc5.mono hle_; have hB_mo := hB_mo.mono hle_; exact (Calls.mono (kid_g (t := t) (ns := []) (i := y) hA Sl.empty hc3 h_t hr hc4 hB_mo hc5 h_bd ihk (by simp) (by omega)) fun e w2 ⟨v, m2, e1, hE, hL⟩ => ⟨v, m2, e1, touch_of hE hL, ⟨v, rfl, trivial⟩⟩))) <| .nil) ?_
                intro a15 w15 m15 hst15 hle15 hk15
                have hfr15 := hk15.fr (T' := [(18, _), (3, _), (4, _), (6, _), (7, _), (17, _)]) (.old rfl rfl <| .old rfl rfl <| .old rfl rfl <| .old rfl rfl <| .old rfl rfl <| .old rfl rfl <| .nil)
                obtain ⟨y42, e42, hy42⟩ := hk15.ex 23 rfl
                replace hst15 := hst15.fin (L' := [_, _]) (.cons e42 <| .nil)
                have hlh15 := hlh14.trans hle15
                clear hst14 hfr14 hk15
                refine hK40 _ _ ?_; clear hK40
                refine rp0 hst15 hfr15 (.cons rfl (ob_add rfl rfl ⟨by omega, by omega⟩) <| .cons rfl (ob_move rfl) <| .nil) ?_
                intro a16 w16 m16 hst16 hle16 hk16
                have hfr16 := hk16.fr (T' := [(3, _), (4, _), (6, _), (7, _), (17, _), (18, _)]) (.old rfl rfl <| .old rfl rfl <| .old rfl rfl <| .old rfl rfl <| .old rfl rfl <| .new rfl <| .nil)
                have hlh16 := hlh15.trans hle16
                clear hst15 hfr15 hk16
                exact ⟨(y + 1, (addAll (kidO t bd y []) mj)), m16, by show t.kids.length - (y + 1) < t.kids.length - y; omega, ⟨hst16, hlh16, hfr16.sub (.cons rfl <| .cons rfl <| .cons rfl <| .cons rfl <| .cons rfl <| .cons rfl <| .nil), ⟨by show y + 1 ≤ t.kids.length; omega, by rw [hd9, occKs, bindP_d hb25 hb40 (by omega) hb57, addAll_app] at hmj; rw [kidO_at hat9]; exact hmj⟩⟩⟩
              · try simp only [nq1, nq2, nq3, nq4, nq5, nq6, nq7, nq8, nq9, u8_eq] at hb19
                have hge : y = t.kids.length := by omega
                rw [List.drop_of_length_le (by omega), occKs, addAll_nil] at hmj
                refine wp_exit ?_
                repeat (with_reducible first | refine then_exit ?_ | refine block_exit ?_ | refine block_normal ?_)
                exact hj8 (mj) _ _ _ ⟨hst13, hlj8, hfr13.sub (.cons rfl <| .cons rfl <| .cons rfl <| .nil), (by rw [headO_no hb25]; exact hmj)⟩
theorem ofree_c (t : Cd) : ofree_G t := Cd.rec_ (p := ofree_G) (fun t ihk iha => ofree_s ihk iha) t

end Go.Proofs.YtlihpgjabohebaaDoor
