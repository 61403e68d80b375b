/-
  slices.Sort, Clone, Concat at strings, rows in order. Conditions: those of each theorem.
-/
import Derived.Test.YtfphefkfbhjfdaaRef1
import Derived.Test.YtfphefkfbhjfdaaShelf
import Derived.Test.YtfphefkfbhjfdaaTyapp
import Derived.Sort.Grow
import Derived.Sort.Walk0
namespace Go.Proofs.Ytfphefkfbhjfdaa
set_option linter.all false
set_option maxRecDepth 4000
open Go.RowKit
abbrev tyV (t : Ty) (y : (Option Addr × Nat) × (Option Addr × Nat)) : List Value := [.int .i64 t.kind, S t.name, .int .i64 t.var, .slice y.1.1 t.args.length y.1.2, .slice y.2.1 t.labels.length y.2.2, .int .i64 t.rv]
def MP.ty (t : Ty) : MP := MP.mem (fun y => .agg (tyV t y).toArray) (fun y m => TyR m t (tyV t y)) fun hm h => h.mono hm
abbrev rwV (r : Rw) (y : Option Addr × Nat) : List Value := [.slice y.1 r.labels.length y.2, .int .i64 r.var]
def MP.rw (r : Rw) : MP := MP.mem (fun y : Option Addr × Nat => .agg (rwV r y).toArray) (fun y m => RwR m r (rwV r y)) fun hm h => h.mono hm
def MP.tyb (t : Ty) (b : Bool) : MP := MP.mem (fun y => .tuple #[.agg (tyV t y).toArray, .bool b]) (fun y m => TyR m t (tyV t y)) fun hm h => h.mono hm
def MP.rwb (r : Rw) (b : Bool) : MP := MP.mem (fun y : Option Addr × Nat => .tuple #[.agg (rwV r y).toArray, .bool b]) (fun y m => RwR m r (rwV r y)) fun hm h => h.mono hm
theorem args_bulk : ∀ l : List Ty, l.length ≤ bulkTs l
  | [] => Nat.zero_le _
  | t :: ts => by have := args_bulk ts; rw [bulkTs, List.length_cons]; have := bulkT_eq t; omega
mutual
/-- How wide a type is: the most that stands in one list. -/
def wdT : Ty → Nat
  | ⟨_, _, _, ts, ls, _⟩ => max (2 * ls.length) (max (11 * ts.length) (wdTs ts))
def wdTs : List Ty → Nat
  | [] => 0
  | t :: ts => max (wdT t) (wdTs ts)
end
theorem wdT_eq (t : Ty) : wdT t = max (2 * t.labels.length) (max (11 * t.args.length) (wdTs t.args)) := by obtain ⟨k, n, v, ts, ls, r⟩ := t; rw [wdT]; rfl
theorem wdTs_mem : ∀ {l : List Ty} {u : Ty}, u ∈ l → wdT u ≤ wdTs l
  | t :: ts, u, h => by
    rw [wdTs]
    rcases List.mem_cons.1 h with rfl | h
    · omega
    · have := wdTs_mem h; omega
theorem wdT_arg {t u : Ty} (h : u ∈ t.args) : wdT u ≤ wdT t := by rw [wdT_eq t]; have := wdTs_mem h; omega
theorem TyR.one {m : Mem} {t : Ty} {vs : List Value} (h : TyR m t vs) : vs.all (·.oneCell') = true := by obtain ⟨o, c, o2, c2, rfl, _⟩ := h.open_; rfl
theorem RwR.one {m : Mem} {t : Rw} {vs : List Value} (h : RwR m t vs) : vs.all (·.oneCell') = true := by obtain ⟨o, c, rfl, _⟩ := h.open_; rfl
def zeroTy : Ty := ⟨0, [], 0, [], [], 0⟩
def zeroRw : Rw := ⟨[], 0⟩
theorem zeroTy_R {m : Mem} : TyR m zeroTy [.int .i64 0, S [], .int .i64 0, .slice none 0 0, .slice none 0 0, .int .i64 0] := TyR.build (ks := []) (ls := []) Sl.empty Sl.empty ⟨by omega, by omega⟩ ⟨by omega, by omega⟩ ⟨by omega, by omega⟩
theorem zeroRw_R {m : Mem} : RwR m zeroRw [.slice none 0 0, .int .i64 0] := ⟨_, _, rfl, Sl.empty, show InI64 0 from ⟨by omega, by omega⟩⟩

theorem mrow_of_owns {w w' : World} {m : Mem} {e : TypeId} {size n : Nat} {v : Value} {xs : List Value} (ha : Agree w m) (h : w'.ownsRow w.heap.size e size v n xs) (hb : Below w.heap.size w w') : Touch .free (.mrow v n size e xs) w m w' m := by
  obtain ⟨hl, h⟩ := h
  rcases h with ⟨rfl, rfl⟩ | ⟨g, cap, cur, rfl, hg, hh, h1, h2, h3, h4⟩
  · exact ⟨(ExtG.of_below ha hb).mono (by simp), ⟨hl, none, 0, rfl, Nat.le_refl _, Nat.zero_le _, .inl rfl⟩, List.nodup_nil, fun g hg => by cases hg⟩
  · exact mrow_new ha hl h1 h2 h3 h4 hb hg hh
theorem put_heap {w w' : World} {g k : Nat} {f : Array Value → Array Value} {os : Array Obj} {cur : Array Value} {e : TypeId} (hh : w.heap[g]? = some (.cells cur e (0, 0))) (hw : w' = Go.Sort.grow (Go.Sort.mapBlock (Go.Sort.ahead w k) g f) os) :
    w'.heap[g]? = some (.cells (f cur) e (0, 0)) ∧ w'.os = w.os ∧ w'.tape = w.tape ∧ w'.output = w.output ∧ w.heap.size ≤ w'.heap.size ∧ ∀ b, b < w.heap.size → b ≠ g → w'.heap[b]? = w.heap[b]? := by
  have hg : g < w.heap.size := lt_of_heap hh
  subst hw
  refine ⟨?_, rfl, rfl, rfl, by simp [Go.Sort.grow, Go.Sort.mapBlock, Go.Sort.ahead], fun b hb hne => ?_⟩
  · simp only [Go.Sort.grow, Go.Sort.mapBlock, Go.Sort.ahead]
    rw [Array.getElem?_append_left (by simpa using hg), Array.getElem?_modify, if_pos rfl, hh]; rfl
  · simp only [Go.Sort.grow, Go.Sort.mapBlock, Go.Sort.ahead]
    rw [Array.getElem?_append_left (by simpa using hb), Array.getElem?_modify, if_neg (Ne.symm hne)]
theorem putCells_take {α : Type} [Inhabited α] (enc : α → Value) (d : List α) (c : Array Value) (h : d.length ≤ c.size) : (Go.Sort.putCells enc 0 d.toArray c).toList.take d.length = d.map enc := by
  apply List.ext_getElem?
  intro i
  rw [List.getElem?_take, List.getElem?_map]
  split
  · rename_i hi
    have h1 : i < c.size := by omega
    simp only [Go.Sort.putCells, Array.getElem?_toList, Array.getElem?_mapIdx, List.size_toArray, Nat.zero_le, Nat.zero_add, true_and, if_pos hi, Nat.sub_zero, Array.getElem?_eq_getElem h1, Option.map_some]
    rw [getElem!_pos d.toArray i (by simpa using hi), List.getElem?_eq_getElem hi]; simp
  · rename_i hi
    rw [List.getElem?_eq_none (by omega)]; rfl
theorem putCells_size {α : Type} [Inhabited α] (enc : α → Value) (o : Nat) (d : Array α) (c : Array Value) : (Go.Sort.putCells enc o d c).size = c.size := by simp [Go.Sort.putCells]
theorem holds_row {w : World} {g : Nat} {cur : Array Value} {e : TypeId} {l : List Str} (hh : w.heap[g]? = some (.cells cur e (0, 0))) (ht : cur.toList.take (l.length * 1) = l.map S) (hl : l.length ≤ cur.size) : Go.Sort.Holds S w g 0 l.toArray := by
  intro j hj
  have hj' : j < l.length := by simpa using hj
  have h1 : cur[j]? = some (S l[j]) := by
    have h2 := congrArg (fun q => q[j]?) ht
    simp only [List.getElem?_take, Nat.mul_one, if_pos hj', List.getElem?_map, List.getElem?_eq_getElem hj', Option.map_some, Array.getElem?_toList] at h2
    exact h2
  refine ⟨?_, ?_⟩
  · unfold World.cell?; simp only [hh, Nat.zero_add, h1]
    rw [getElem!_pos l.toArray j hj]; simp
  · unfold World.frozen?; simp [hh]
def sortS (l : List Str) : List Str := l.mergeSort fun x y => decide (x ≤ y)

theorem sortS_t {w : World} {m : Mem} {o : Option Addr} {cap : Nat} {l : List Str} (hA : Agree w m) (hr : (Res.mrow (.slice o l.length cap) l.length 1 9 (l.map S)).holds w m) (hsz : l.length < 4611686018427387904) :
    Calls Try.prog 48 #[.slice o l.length cap] w fun e w' => ∃ v m', e = .returned v ∧ Touch (.mrow (.slice o l.length cap) l.length 1 9 (l.map S)) (.mrow (.slice o l.length cap) l.length 1 9 ((sortS l).map S)) w m w' m' ∧ (Kn.ex MP.any).holds m' v := by
  by_cases h0 : l.length = 0
  · obtain rfl : l = [] := List.eq_nil_of_length_eq_zero h0
    refine Calls.mono (Try.slices_Sort_string_none o cap w) fun e w' ⟨e1, e2⟩ => ⟨_, m, e1, ?_, _, rfl, trivial⟩
    subst e2
    exact ⟨ExtG.refl _ hA, by simpa [sortS] using hr, mrow_nodup _ _ _ _ _, fun g hg => .inl hg⟩
  · obtain ⟨hlen, o', cap', e1, hnc, hcm, h⟩ := hr
    injection e1 with e1 e2 e3; subst e1; subst e3
    rcases h with h | ⟨g, cur, rfl, hh, h3, h4, h5⟩
    · omega
    · refine Calls.mono (Try.slices_Sort_string g 0 cap l w (holds_row hh h4 (by omega)) (lt_of_heap hh) hsz) fun e w' ⟨e1, k, os, e2⟩ => ⟨_, m, e1, ?_, _, rfl, trivial⟩
      obtain ⟨p1, p2, p3, p4, p5, p6⟩ := put_heap hh e2
      have hsl : (sortS l).length = l.length := by simp [sortS]
      refine mrow_write hA (by omega) hcm hh h5 hnc (by simp [hsl]) p1 (by rw [putCells_size]; exact h3) ?_ p2 p3 p4 p5 p6
      have := putCells_take S (sortS l) cur (by omega)
      rw [hsl] at this
      rw [Nat.mul_one]; exact this

theorem cloneS_t {w : World} {m : Mem} {o : Option Addr} {c : Nat} {l : List Str} (hA : Agree w m) (h : Strs m o l.length c l) (hbig : l.length ≤ 8796093022208) :
    Calls Try.prog 29 #[.slice o l.length c] w fun e w' => ∃ v m', e = .returned v ∧ Touch .free (.mrow v l.length 1 9 (l.map S)) w m w' m' ∧ (Kn.ex (MP.made' l.length)).holds m' v := by
  cases o with
  | none =>
    cases l with
    | cons x l => obtain ⟨p, vs, e, _⟩ := h.at_ 0 x rfl; cases e
    | nil =>
      refine Calls.mono (Try.slices_Clone_string_nil 0 c w) fun e w' ⟨e1, e2⟩ => ⟨_, m, e1, ?_, (none, 0), rfl, Nat.le_refl _⟩
      subst e2
      exact ⟨ExtG.refl _ hA, ⟨rfl, none, 0, rfl, Nat.le_refl _, Nat.zero_le _, .inl rfl⟩, List.nodup_nil, fun g hg => by cases hg⟩
  | some p =>
    cases l with
    | nil =>
      refine Calls.mono (Try.slices_Clone_string_zero p c w) fun e w' ⟨v, e1, e2, _, e3⟩ => ⟨v, m, e1, mrow_of_owns hA e2 e3, ?_⟩
      obtain ⟨o', cap', e4, e5, _⟩ := Res.mrow_val (mrow_of_owns hA e2 e3).now
      exact ⟨(o', cap'), e4, e5⟩
    | cons x l =>
      have hr := h.row1 (f := S)
      rcases hr with hr | ⟨q, e0, hc⟩
      · simp at hr
      · injection e0 with e0; subst e0
        obtain ⟨b, off, spot⟩ := p
        obtain rfl : spot = none := hc.1
        refine Calls.mono (Try.slices_Clone_string b off (x :: l).length c ((x :: l).map fun s => (⟨s.toArray⟩ : ByteArray)) w (by simp) (by omega) (fun j hj => ?_)) fun e w' ⟨v, e1, e2, _, e3⟩ => ?_
        · have hj' : j < (x :: l).length := by simpa using hj
          have h1 := hA.cell _ _ _ (hc.2 j (S (x :: l)[j]) (by rw [List.getElem?_map, List.getElem?_eq_getElem hj']; rfl))
          rw [h1, List.getD_eq_getElem?_getD, List.getElem?_map, List.getElem?_eq_getElem hj']; rfl
        · rw [List.take_of_length_le (by simp), List.map_map] at e2
          have ht := mrow_of_owns hA e2 e3
          obtain ⟨o', cap', e4, e5, _⟩ := Res.mrow_val ht.now
          exact ⟨v, m, e1, ht, (o', cap'), e4, e5⟩

theorem cloneR_t {w : World} {m : Mem} {o : Option Addr} {c : Nat} {l : List Str} (hA : Agree w m) (h : Strs m o l.length c l) (hbig : l.length ≤ 8796093022208) :
    Calls Try.prog 29 #[.slice o l.length c] w fun e w' => ∃ v m', e = .returned v ∧ Touch .free (.row (nz v) l.length 1 9 (l.map S)) w m w' m' ∧ (Kn.ex (MP.sl l.length (l.map S))).holds m' v :=
  Calls.mono (cloneS_t hA h hbig) fun e w' ⟨v, m1, e1, ht, _⟩ => by
    obtain ⟨m2, ht2, o', c', e2, h1, _, h2⟩ := mrow_freeze ht.ext.agree ht.now
    exact ⟨v, m2, e1, ht.trans ht2, (o', c'), e2, h2, h1⟩
theorem less_le (a b : Str) : (!Op.bytesLess b a) = decide (a ≤ b) := by
  rw [bytesLess_eq, ← decide_not, decide_eq_decide]; exact List.not_lt
theorem sorted_iff : ∀ l : List Str, isSortedS l = true ↔ l.Pairwise (· ≤ ·)
  | [] => by simp [isSortedS]
  | [a] => by simp [isSortedS]
  | a :: b :: r => by
    have ih := sorted_iff (b :: r)
    rw [isSortedS, Bool.and_eq_true, less_le, decide_eq_true_eq, ih, List.pairwise_cons (l := b :: r)]
    constructor
    · rintro ⟨h1, h2⟩
      refine ⟨fun x hx => ?_, h2⟩
      rcases List.mem_cons.1 hx with rfl | hx
      · exact h1
      · exact List.le_trans h1 ((List.pairwise_cons.1 h2).1 x hx)
    · rintro ⟨h1, h2⟩
      exact ⟨h1 b (.head _), h2⟩
theorem sortS_perm (l : List Str) : (sortS l).Perm l := List.mergeSort_perm l _
theorem sortS_pw (l : List Str) : (sortS l).Pairwise (· ≤ ·) := by
  have h := List.pairwise_mergeSort (le := fun x y : Str => decide (x ≤ y)) (fun a b c h1 h2 => by simp only [decide_eq_true_eq] at *; exact List.le_trans h1 h2) (fun a b => by
    rcases List.le_total a b with h | h <;> simp [h]) l
  exact h.imp fun h => by simpa using h
theorem sortS_sorted (l : List Str) : isSortedS (sortS l) = true := (sorted_iff _).2 (sortS_pw l)
theorem perm_sorted {l k : List Str} (h : l.Perm k) (h1 : isSortedS l = true) (h2 : isSortedS k = true) : l = k :=
  List.Perm.eq_of_pairwise (le := (· ≤ ·)) (fun _ _ _ _ a b => List.le_antisymm a b) ((sorted_iff l).1 h1) ((sorted_iff k).1 h2) h
theorem sortS_of_perm {l k : List Str} (h : l.Perm k) : sortS l = sortS k :=
  perm_sorted (((sortS_perm l).trans h).trans (sortS_perm k).symm) (sortS_sorted l) (sortS_sorted k)
theorem sortS_id {l : List Str} (h : isSortedS l = true) : sortS l = l := perm_sorted (sortS_perm l) (sortS_sorted l) h
theorem sortS_len (l : List Str) : (sortS l).length = l.length := (sortS_perm l).length_eq
theorem sortS_mem {l : List Str} {s : Str} : s ∈ sortS l ↔ s ∈ l := (sortS_perm l).mem_iff
theorem erase_sorted {l : List Str} (h : isSortedS l = true) (s : Str) : isSortedS (l.erase s) = true := (sorted_iff _).2 (((sorted_iff l).1 h).sublist List.erase_sublist)
theorem idx_erase (s : Str) : ∀ (l : List Str) (i : Nat), s ∈ l → ∃ k : Nat, idxA i l s = ((i + k : Nat) : Int) ∧ k < l.length ∧ l.take k ++ l.drop (k + 1) = l.erase s
  | [], _, h => by cases h
  | x :: l, i, h => by
    by_cases e : s = x
    · subst e; exact ⟨0, by simp [idxA], by simp, by simp⟩
    · obtain ⟨k, h1, h2, h3⟩ := idx_erase s l (i + 1) (by rcases List.mem_cons.1 h with h | h; exact absurd h e; exact h)
      refine ⟨k + 1, by rw [idxA, if_neg e, h1]; congr 1; omega, by simpa using h2, ?_⟩
      rw [List.erase_cons_tail (by simpa using Ne.symm e), ← h3]; simp
theorem idx_neg (s : Str) (l : List Str) (h : ¬ s ∈ l) : idxA 0 l s < 0 := by
  have := idxA_mem s l 0
  by_cases h2 : 0 ≤ idxA 0 l s
  · exact absurd (this.1 h2) h
  · omega
theorem add_less {l : List Str} (h : isSortedS l = true) (s : Str) : (sortS (l ++ [s])).erase s = l := by
  refine perm_sorted ?_ (erase_sorted (sortS_sorted _) s) h
  have h1 := (sortS_perm (l ++ [s])).erase s
  refine h1.trans ?_
  have h2 : (l ++ [s]).Perm (s :: l) := List.perm_append_comm
  have h3 := h2.erase s
  rw [List.erase_cons_head] at h3
  exact h3

set_option maxHeartbeats 400000 in
theorem sorted_c {w : World} {m : Mem} {r : Rw} {vs_r : List Value} (hA : Agree w m) (h_r : RwR m r vs_r) (hbig : r.labels.length ≤ 8796093022208) : FnV Try.prog 44 #[.agg vs_r.toArray] w m (fun _ m v => (MP.rw ⟨sortS r.labels, r.var⟩).p m v) := by
  obtain ⟨o_r, c_r, rfl, hs_r, hr_r⟩ := h_r.open_
  have hbs_r := hs_r.big; have hcs_r := hs_r.cap
  refine fn_enter (vs := [_]) Try.func44 rfl rfl rfl fun a0 hfr0 => ?_
  have hst0 := st_enter hA (loc_nil [] _ w m)
  have hM : MLe m m := MLe.refl m
  have hsl := sortS_len r.labels
  refine seq_any fun _ hK1 => ?_
  replace hst0 := hst0.more (r := .free) trivial List.nodup_nil (by simp [Res.blocks])
  refine ra0 (tch := [(1, 0, (fun v => .blk v _))]) hst0 hfr0 (.cons rfl (ob_box rfl rfl) <| .consT rfl rfl (fun _ => rfl) rfl (ob_allocL Try.zeroValue26 rfl) <| .nil) ?_
  intro a1 w1 m1 hst1 hle1 hk1
  have hfr1 := hk1.fr (T' := []) (.nil)
  obtain ⟨g2, e2, hc1⟩ := hk1.ex 1 rfl
  replace hfr1 := hfr1.cons e2
  obtain ⟨g3, e3, _⟩ := hk1.ex 2 rfl
  replace hfr1 := hfr1.cons e3
  replace hst1 := hst1.fin (L' := [_]) (.cons e3 <| .nil)
  replace h_r := h_r.mono hle1
  replace hs_r := hs_r.mono hle1
  replace hM := hM.trans hle1
  clear hst0 hfr0 hk1
  refine hK1 _ _ ?_; clear hK1
  refine seq_any fun _ hK4 => ?_
  replace hst1 := hst1.more (r := .free) trivial List.nodup_nil (by simp [Res.blocks])
  refine ra0 (tch := [(3, 1, (fun v => .mrow v _ _ _ _))]) hst1 hfr1 (.cons rfl (ob_fieldAddrO (off := 0) rfl Try.underlying26 rfl rfl Try.sizeOf24 rfl) <| .cons rfl (ob_load1 rfl hc1 Try.isAgg24 rfl) <| .cons rfl (ob_len rfl Try.underlying24) <| .consT rfl rfl (fun _ => rfl) rfl (ob_makeSliceM (size := 1) (bytes := 16) rfl rfl Try.underlying24 Try.type9 rfl rfl rfl rfl rfl (by simp only [maxLen]; omega) (by omega)) <| .consA 7 rfl rfl <| .nil) ?_
  intro a2 w2 m2 hst2 hle2 hk2
  have hfr2 := hk2.fr (T' := [(1, _), (2, _)]) (.old rfl rfl <| .old rfl rfl <| .nil)
  obtain ⟨om7, e5, _⟩ := hk2.ex 7 rfl
  replace hfr2 := hfr2.cons (hk2.same 3 rfl e5)
  replace hst2 := hst2.fin (L' := [_, _]) (.cons e5 <| .nil)
  replace h_r := h_r.mono hle2
  replace hs_r := hs_r.mono hle2
  replace hc1 := hc1.mono hle2
  replace hM := hM.trans hle2
  clear hst1 hfr1 hk2
  refine hK4 _ _ ?_; clear hK4
  refine seq_any fun _ hK6 => ?_
  refine ra0 (tch := [(3, 1, (fun _ => .mrow _ _ _ _ _))]) hst2 hfr2 (.cons rfl (ob_move rfl) <| .cons rfl (ob_fieldAddrO (off := 0) rfl Try.underlying26 rfl rfl Try.sizeOf24 rfl) <| .cons rfl (ob_load1 rfl hc1 Try.isAgg24 rfl) <| .consT rfl rfl (fun _ => rfl) rfl (ob_copyM rfl rfl Try.underlying24 Try.type9 rfl (fun w m hK => Sl.row1 (f := S) (Strs.mono hs_r (KC.le hK))) (by simp) (strs_one _)) <| .nil) ?_
  intro a3 w3 m3 hst3 hle3 hk3
  have hfr3 := hk3.fr (T' := [(1, _), (2, _), (3, _)]) (.old rfl rfl <| .old rfl rfl <| .old rfl rfl <| .nil)
  replace hst3 := hst3.fin (L' := [_, _]) (.cons rfl <| .nil)
  replace h_r := h_r.mono hle3
  replace hs_r := hs_r.mono hle3
  replace hc1 := hc1.mono hle3
  replace hM := hM.trans hle3
  clear hst2 hfr2 hk3
  refine hK6 _ _ ?_; clear hK6
  refine seq_any fun _ hK7 => ?_
  refine ra0 (tch := [(1, 1, (fun _ => .mrow (.slice om7 r.labels.length r.labels.length) r.labels.length 1 9 ((sortS r.labels).map S)))]) hst3 hfr3 (.cons rfl (ob_move rfl) <| .consT rfl rfl (fun _ => rfl) rfl (ob_callT rfl (.cons rfl <| .nil) Try.call48 (κ := .ex (MP.any)) (fun σ w m hK hr hkn => by have hle_ := KC.le hK; have hA := KC.agree hK; have hM := hM.trans hle_; have h_r := h_r.mono hle_; have hs_r := hs_r.mono hle_; have hc1 := hc1.mono hle_; exact sortS_t hA hr (by omega))) <| .nil) ?_
  intro a4 w4 m4 hst4 hle4 hk4
  have hfr4 := hk4.fr (T' := [(1, _), (2, _), (3, _)]) (.old rfl rfl <| .old rfl rfl <| .old rfl rfl <| .nil)
  obtain ⟨_, e8, _⟩ := hk4.ex 13 rfl
  replace hst4 := hst4.fin (L' := [_, _]) (.cons e8 <| .nil)
  replace hc1 := hc1.mono hle4
  clear hst3 hfr3 hk4
  obtain ⟨m5, hle5, hst5, oF_q, cF_q, eF_q, hcF_q, hmF_q, hrow_q⟩ := hst4.freeze (k := 1) rfl
  simp only [List.set_cons_succ, List.set_cons_zero] at hst5
  have hfr5 := hfr4; obtain ⟨a5, rfl⟩ : ∃ a, a = a4 := ⟨_, rfl⟩; obtain ⟨w5, rfl⟩ : ∃ w, w = w4 := ⟨_, rfl⟩
  replace hc1 := hc1.mono hle5
  clear hst4 hfr4
  obtain ⟨rfl, rfl⟩ : om7 = oF_q ∧ r.labels.length = cF_q := by injection eF_q with q1 q2 q3; exact ⟨q1, q3⟩
  have hsq : Strs m5 om7 (sortS r.labels).length r.labels.length (sortS r.labels) := Strs.of_row hrow_q rfl (by omega) (by omega)
  refine hK7 _ _ ?_; clear hK7
  refine seq_any fun _ hK9 => ?_
  refine ra0 (tch := [(4, 0, (fun _ => .blk _ _))]) hst5 hfr5 (.cons rfl (ob_move rfl) <| .cons rfl (ob_fieldAddrO (off := 1) rfl Try.underlying26 rfl rfl Try.sizeOf3 rfl) <| .cons rfl (ob_load1 rfl hc1 Try.isAgg3 rfl) <| .cons rfl (ob_buildS (.cons rfl <| .cons rfl <| .nil) Try.underlying26 Try.zeroValue26 (.cons Try.sizeOf24 <| .cons Try.sizeOf3 <| .nil) rfl) <| .consT rfl rfl (fun _ => rfl) rfl (ob_store' rfl rfl rfl Try.sizeOf26 rfl rfl rfl) <| .nil) ?_
  intro a6 w6 m6 hst6 hle6 hk6
  have hfr6 := hk6.fr (T' := [(2, _)]) (.old rfl rfl <| .nil)
  replace hst6 := hst6.fin (L' := [_, _]) (.cons rfl <| .nil)
  replace hsq := hsq.mono hle6
  clear hst5 hfr5 hk6
  refine hK9 _ _ ?_; clear hK9
  refine wp_ret ?_
  repeat (with_reducible first | refine then_ret ?_ | refine block_ret ?_)
  exact fn_ret hst6 hfr6 rfl (.cell rfl (load_blk (blk_heap (hst6.loc.at_ (k := 0) rfl)) Try.isAgg26 Try.sizeOf26) <| .nil) (⟨(om7, r.labels.length), by show _ = Value.agg #[.slice om7 (sortS r.labels).length _, _]; rw [hsl]; rfl, ⟨_, _, rfl, hsq, hr_r⟩⟩)

def SlsR (m : Mem) (l : List Str) (vs : List Value) : Prop := ∃ o c, vs = [.slice o l.length c] ∧ Strs m o l.length c l
theorem SlsR.mono {m m' : Mem} {l : List Str} {vs : List Value} (h : SlsR m l vs) (hm : MLe m m') : SlsR m' l vs := by obtain ⟨o, c, e, h1⟩ := h; exact ⟨o, c, e, h1.mono hm⟩
abbrev Slss (m : Mem) (o : Option Addr) (n c : Nat) (l : List (List Str)) : Prop := Sl (fun m vs l => SlsR m l vs) 1 m o n c l
theorem Slss.mono {m m' : Mem} {o : Option Addr} {n c : Nat} {l : List (List Str)} (h : Slss m o n c l) (hm : MLe m m') : Slss m' o n c l := Sl.mono h (fun _ _ e => e.mono hm) hm
def lenS (ls : List (List Str)) : Nat := (ls.map List.length).sum
theorem lenS_cons (l : List Str) (ls : List (List Str)) : lenS (l :: ls) = l.length + lenS ls := by simp [lenS]
theorem lenS_flat : ∀ ls : List (List Str), ls.flatten.length = lenS ls
  | [] => rfl
  | l :: ls => by rw [List.flatten_cons, List.length_append, lenS_flat ls, lenS_cons]
def MP.sl0 : MP := MP.mem (fun y : Option Addr × Nat => .slice y.1 0 y.2) (fun _ _ => True) fun _ h => h
abbrev RS : Mem → List Value → Str → Prop := fun _ vs x => vs = [S x]
theorem growS_t {w : World} {m : Mem} {n : Nat} (hA : Agree w m) (hn : n ≤ 8796093022208) :
    Calls Try.prog 47 #[.slice none 0 0, .int .i64 (n : Int)] w fun e w' => ∃ v m', e = .returned v ∧ Touch .free (.rowx (nz v) 0 1 9 (MP.reads RS 1 [])) w m w' m' ∧ (Kn.ex MP.sl0).holds m' v := by
  by_cases h0 : n = 0
  · subst h0
    refine Calls.mono (Any8.slices_Grow_room Try.growS none 0 0 0 w (by omega) (by omega) (by omega) (by omega)) fun e w' ⟨e1, e2⟩ => ⟨_, m, e1, ?_, (none, 0), rfl, trivial⟩
    subst e2
    exact ⟨ExtG.refl _ hA, rowx_new, List.nodup_nil, fun g hg => by cases hg⟩
  · obtain ⟨i, hi⟩ : ∃ i, Try.prog.info? 9 = some i := ⟨_, Try.type9⟩
    refine Calls.mono (Any8.slices_Grow_grow Try.growS i (S []) hi (by injection hi.symm.trans Try.type9 with e; rw [e]; rfl) (by injection hi.symm.trans Try.type9 with e; rw [e]; decide) none 0 0 n [] w (by omega) (by omega) (by injection hi.symm.trans Try.type9 with e; rw [e]; show (0 + n) * 16 ≤ _; omega) (by omega) (by simp) (fun _ => rfl) (fun a h => by cases h)) fun e w' ⟨e1, e2⟩ => ⟨_, m.add w.heap.size [].toArray, e1, ?_, (_, _), rfl, trivial⟩
    have hge := grownCap_ge w (0 + n) 0 9
    subst e2
    have h2 := row_new (w := w.drew) (m := m) (e := 9) (size := 1) (n := 0) (cap := grownCap w (0 + n) 0 9) (xs := []) (cur := ([].toArray ++ Builtin.zeroCells (S []).cells (0 + n - 0) ++ Builtin.zeroCells (S []).cells (grownCap w (0 + n) 0 9 - (0 + n)))) (by simp) (by omega) (grownCap_le_maxLen w (0 + n) 0 9 (by simp only [maxLen]; omega)) (by
      simp only [Array.size_append, size_zeroCells, show (S []).cells.size = 1 from rfl, List.size_toArray, List.length_nil, Nat.mul_one]; omega) (by simp) ⟨hA.cell, hA.map⟩
    have h3 := touch_nz (by omega) (touch_drew h2)
    exact ⟨h3.ext, ⟨[], h3.now, MP.reads_p.2 Reads.nil⟩, h3.nodup, h3.where_⟩
theorem flat2 (a b : List Str) : [a, b].flatten = a ++ b := by simp

set_option maxHeartbeats 800000 in
theorem cat_c {w : World} {m : Mem} {o_ls : Option Addr} {c_ls : Nat} {ls : List (List Str)} (hA : Agree w m) (h_ls : Slss m o_ls ls.length c_ls ls) (hsum : lenS ls ≤ 8796093022208) : FnV Try.prog 43 #[.slice o_ls ls.length c_ls] w m (fun _ m v => (MP.strs ls.flatten).p m v) := by
  have hb_ls := h_ls.big; have hc_ls := h_ls.cap
  refine fn_enter (vs := [_]) Try.func43 rfl rfl rfl fun a0 hfr0 => ?_
  have hst0 := st_enter hA (loc_nil [] _ w m)
  have hM : MLe m m := MLe.refl m
  refine seq_any fun _ hK1 => ?_
  refine rp0 hst0 hfr0 (.cons rfl (ob_assign rfl) <| .nil) ?_
  intro a1 w1 m1 hst1 hle1 hk1
  have hfr1 := hk1.fr (T' := [(0, _)]) (.old rfl rfl <| .nil)
  replace h_ls := h_ls.mono hle1
  replace hM := hM.trans hle1
  clear hst0 hfr0 hk1
  refine hK1 _ _ ?_; clear hK1
  refine seq_any fun _ hK2 => ?_
  refine rp0 hst1 hfr1 (.cons rfl (ob_assign rfl) <| .nil) ?_
  intro a2 w2 m2 hst2 hle2 hk2
  have hfr2 := hk2.fr (T' := [(0, _), (3, _)]) (.old rfl rfl <| .new rfl <| .nil)
  replace h_ls := h_ls.mono hle2
  replace hM := hM.trans hle2
  clear hst1 hfr1 hk2
  refine hK2 _ _ ?_; clear hK2
  refine seq_any fun _ hK3 => ?_
  refine seq_any fun _ hK4 => ?_
  refine rp0 hst2 hfr2 (.cons rfl (ob_move rfl) <| .cons rfl (ob_len rfl Try.underlying81) <| .cons rfl (ob_move rfl) <| .nil) ?_
  intro a3 w3 m3 hst3 hle3 hk3
  have hfr3 := hk3.fr (T' := [(0, _), (3, _), (9, _), (10, _), (11, _)]) (.old rfl rfl <| .old rfl rfl <| .new rfl <| .new rfl <| .new rfl <| .nil)
  replace h_ls := h_ls.mono hle3
  replace hM := hM.trans hle3
  clear hst2 hfr2 hk3
  refine hK4 _ _ ?_; clear hK4
  refine wp_block ?_
  refine loop_any (T := [(0, _), (9, _), (10, _)]) (fun (y : Nat × Nat) => ([(3, .int .i64 (y.2 : Int)), (11, .int .i64 (y.1 : Int))] : List (Nat × Value))) (fun _ => _) (fun (y : Nat × Nat) m => (fun (y : Nat) (acc : Nat) => (y ≤ ls.length) ∧ (acc + lenS (ls.drop y) = lenS ls)) y.1 y.2) (fun y => ls.length - y.1) ((0, 0)) ⟨hst3, MLe.refl _, hfr3.sub (.cons rfl <| .cons rfl <| .cons rfl <| .cons rfl <| .cons rfl <| .nil), ⟨Nat.zero_le _, by rw [List.drop_zero, Nat.zero_add]⟩⟩ fun y a4 w4 m4 hh4 => ?_
  have hst4 := hh4.st; have hle4 := hh4.le; have hfr4 := hh4.fr; have hrel := hh4.rel; clear hh4
  replace h_ls := h_ls.mono hle4
  clear hst3 hfr3
  replace hM := hM.trans hle4
  obtain ⟨y, acc⟩ := y
  dsimp only at hrel hfr4 hst4
  obtain ⟨hyn, hacc⟩ := hrel
  have hlh4 := hle4
  refine seq_any fun _ hK6 => ?_
  refine rp0 hst4 hfr4 (.cons rfl (ob_lss rfl rfl) <| .nil) ?_
  intro a5 w5 m5 hst5 hle5 hk5
  have hfr5 := hk5.fr (T' := [(3, _), (11, _), (0, _), (9, _), (10, _), (12, _)]) (.old rfl rfl <| .old rfl rfl <| .old rfl rfl <| .old rfl rfl <| .old rfl rfl <| .new rfl <| .nil)
  replace h_ls := h_ls.mono hle5
  have hlh5 := hlh4.trans hle5
  replace hM := hM.trans hle5
  clear hst4 hfr4 hk5
  refine hK6 _ _ ?_; clear hK6
  refine seq_any fun _ hK7 => ?_
  refine cond_any hfr5 rfl rfl (fun hb12 => ?_) (fun hb12 => ?_)
  · try simp only [nq1, nq2, nq3, nq4, nq5, nq6, nq7, nq8, nq9, u8_eq] at hb12
    refine wp_skip ?_
    refine hK7 _ _ ?_; clear hK7
    refine seq_any fun _ hK8 => ?_
    refine wp_block ?_
    refine seq_any fun _ hK9 => ?_
    obtain ⟨p10, vs10, x10, ho10, hd10, hm_x10, ht10, hcv10, hl10, hv10⟩ := h_ls.nth (k := y) (by omega)
    cases ho10
    obtain ⟨oS10, cS10, rfl, hss10⟩ := id hv10
    have hbs10 := hss10.big; have hcs10_ := hss10.cap
    refine rp0 hst5 hfr5 (.cons rfl (ob_indexAddr (k := y) rfl rfl Try.underlying81 Try.sizeOf24 rfl (by omega)) <| .cons rfl (ob_load1' rfl hcv10 Try.isAgg24 rfl) <| .cons rfl (ob_assign rfl) <| .nil) ?_
    intro a6 w6 m6 hst6 hle6 hk6
    have hfr6 := hk6.fr (T' := [(3, _), (11, _), (0, _), (9, _), (10, _), (5, _)]) (.old rfl rfl <| .old rfl rfl <| .old rfl rfl <| .old rfl rfl <| .old rfl rfl <| .new rfl <| .nil)
    have hlh6 := hlh5.trans hle6
    clear hst5 hfr5 hk6
    rw [hd10, lenS_cons] at hacc
    refine hK9 _ _ ?_; clear hK9
    refine seq_any fun _ hK11 => ?_
    refine rp0 hst6 hfr6 (.cons rfl (ob_move rfl) <| .cons rfl (ob_move rfl) <| .cons rfl (ob_len rfl Try.underlying24) <| .cons rfl (ob_add rfl rfl ⟨by omega, by omega⟩) <| .cons rfl (ob_assign rfl) <| .nil) ?_
    intro a7 w7 m7 hst7 hle7 hk7
    have hfr7 := hk7.fr (T' := [(11, _), (0, _), (9, _), (10, _), (3, _)]) (.old rfl rfl <| .old rfl rfl <| .old rfl rfl <| .old rfl rfl <| .new rfl <| .nil)
    have hlh7 := hlh6.trans hle7
    clear hst6 hfr6 hk7
    rw [show ((acc : Int) + (x10.length : Int)) = ((acc + x10.length : Nat) : Int) by omega] at hfr7
    refine hK11 _ _ ?_; clear hK11
    refine seq_any fun _ hK12 => ?_
    refine rp0 hst7 hfr7 (.cons rfl (ob_move rfl) <| .cons rfl (ob_lss rfl rfl) <| .nil) ?_
    intro a8 w8 m8 hst8 hle8 hk8
    have hfr8 := hk8.fr (T' := [(11, _), (0, _), (9, _), (10, _), (3, _), (20, _)]) (.old rfl rfl <| .old rfl rfl <| .old rfl rfl <| .old rfl rfl <| .old rfl rfl <| .new rfl <| .nil)
    have hlh8 := hlh7.trans hle8
    clear hst7 hfr7 hk8
    refine hK12 _ _ ?_; clear hK12
    refine cond_any hfr8 rfl rfl (fun hb20 => ?_) (fun hb20 => ?_)
    · try simp only [nq1, nq2, nq3, nq4, nq5, nq6, nq7, nq8, nq9, u8_eq] at hb20
      skip
      omega
    · try simp only [nq1, nq2, nq3, nq4, nq5, nq6, nq7, nq8, nq9, u8_eq] at hb20
      refine wp_skip ?_
      refine hK8 _ _ ?_; clear hK8
      refine rp0 hst8 hfr8 (.cons rfl (ob_add rfl rfl ⟨by omega, by omega⟩) <| .cons rfl (ob_move rfl) <| .nil) ?_
      intro a9 w9 m9 hst9 hle9 hk9
      have hfr9 := hk9.fr (T' := [(0, _), (9, _), (10, _), (3, _), (11, _)]) (.old rfl rfl <| .old rfl rfl <| .old rfl rfl <| .old rfl rfl <| .new rfl <| .nil)
      have hlh9 := hlh8.trans hle9
      clear hst8 hfr8 hk9
      exact ⟨(y + 1, (acc + x10.length)), m9, by show ls.length - (y + 1) < ls.length - y; omega, ⟨hst9, hlh9, hfr9.sub (.cons rfl <| .cons rfl <| .cons rfl <| .cons rfl <| .cons rfl <| .nil), ⟨by show y + 1 ≤ ls.length; omega, by show (acc + x10.length) + lenS (ls.drop (y + 1)) = lenS ls; omega⟩⟩⟩
  · try simp only [nq1, nq2, nq3, nq4, nq5, nq6, nq7, nq8, nq9, u8_eq] at hb12
    have hge : y = ls.length := by omega
    rw [List.drop_of_length_le (by omega)] at hacc
    have hacc9 : acc ≤ 8796093022208 := by omega
    refine wp_exit ?_
    refine hK3 _ _ ?_; clear hK3
    refine seq_any fun _ hK13 => ?_
    replace hst5 := hst5.more (r := .free) trivial List.nodup_nil (by simp [Res.blocks])
    refine ra0 (tch := [(1, 0, (fun v => .rowx (nz v) 0 1 9 (MP.reads RS 1 [])))]) hst5 hfr5 (.cons rfl (ob_move rfl) <| .consT rfl rfl (fun _ => rfl) rfl (ob_callT rfl (.cons rfl <| .cons rfl <| .nil) Try.call47 (κ := .ex (MP.sl0)) (fun σ w m hK hr hkn => by have hle_ := KC.le hK; have hA := KC.agree hK; have hM := hM.trans hle_; have h_ls := h_ls.mono hle_; exact growS_t hA hacc9)) <| .consA 24 rfl rfl <| .nil) ?_
    intro a6 w6 m6 hst6 hle6 hk6
    have hfr6 := hk6.fr (T' := [(3, _), (11, _), (0, _)]) (.old rfl rfl <| .old rfl rfl <| .old rfl rfl <| .nil)
    obtain ⟨⟨og, cg⟩, e14, _⟩ := hk6.ex 24 rfl
    replace hfr6 := hfr6.cons (hk6.same 6 rfl e14)
    replace hst6 := hst6.fin (L' := [_]) (.cons e14 <| .nil)
    replace h_ls := h_ls.mono hle6
    have hlh6 := hlh5.trans hle6
    clear hst5 hfr5 hk6
    have hsl_O : Strs m6 og ([] : List Str).length cg [] := Sl.empty
    refine hK13 _ _ ?_; clear hK13
    refine seq_any fun _ hK15 => ?_
    refine seq_any fun _ hK16 => ?_
    refine rp0 hst6 hfr6 (.cons rfl (ob_move rfl) <| .cons rfl (ob_len rfl Try.underlying81) <| .cons rfl (ob_move rfl) <| .nil) ?_
    intro a7 w7 m7 hst7 hle7 hk7
    have hfr7 := hk7.fr (T' := [(3, _), (11, _), (6, _), (25, _), (26, _), (27, _)]) (.old rfl rfl <| .old rfl rfl <| .old rfl rfl <| .new rfl <| .new rfl <| .new rfl <| .nil)
    replace h_ls := h_ls.mono hle7
    replace hsl_O := hsl_O.mono hle7
    have hlh7 := hlh6.trans hle7
    clear hst6 hfr6 hk7
    refine hK16 _ _ ?_; clear hK16
    refine wp_block ?_
    have hlq17 := hlh7
    refine loop_any (T := [(3, _), (11, _), (25, _), (26, _)]) (fun (y : Nat × Option Addr × Nat × List Str) => ([(6, .slice y.2.1 y.2.2.2.length y.2.2.1), (27, .int .i64 (y.1 : Int))] : List (Nat × Value))) (fun y => [.rowx (nz (.slice y.2.1 y.2.2.2.length y.2.2.1)) y.2.2.2.length 1 9 (MP.reads RS 1 y.2.2.2)]) (fun (y : Nat × Option Addr × Nat × List Str) m => (fun (y : Nat) (gao : Option Addr) (gap : Nat) (ga : List Str) => (y ≤ ls.length) ∧ (Strs m gao ga.length gap ga) ∧ (ls.flatten = ga ++ (ls.drop y).flatten)) y.1 y.2.1 y.2.2.1 y.2.2.2) (fun y => ls.length - y.1) ((0, og, cg, ([] : List Str))) ⟨hst7, MLe.refl _, hfr7.sub (.cons rfl <| .cons rfl <| .cons rfl <| .cons rfl <| .cons rfl <| .cons rfl <| .nil), ⟨Nat.zero_le _, hsl_O, by rw [List.drop_zero, List.nil_append]⟩⟩ fun y a8 w8 m8 hh8 => ?_
    have hst8 := hh8.st; have hle8 := hh8.le; have hfr8 := hh8.fr; have hrel := hh8.rel; clear hh8
    replace h_ls := h_ls.mono hle8
    clear hst7 hfr7
    obtain ⟨y, gao, gap, ga⟩ := y
    dsimp only at hrel hfr8 hst8
    obtain ⟨hyn, hsl_ga, hlen_ga⟩ := hrel
    have hlh8 := hle8
    refine seq_any fun _ hK18 => ?_
    refine rp0 hst8 hfr8 (.cons rfl (ob_lss rfl rfl) <| .nil) ?_
    intro a9 w9 m9 hst9 hle9 hk9
    have hfr9 := hk9.fr (T' := [(6, _), (27, _), (3, _), (11, _), (25, _), (26, _), (28, _)]) (.old rfl rfl <| .old rfl rfl <| .old rfl rfl <| .old rfl rfl <| .old rfl rfl <| .old rfl rfl <| .new rfl <| .nil)
    replace h_ls := h_ls.mono hle9
    replace hsl_ga := hsl_ga.mono hle9
    have hlh9 := hlh8.trans hle9
    clear hst8 hfr8 hk9
    refine hK18 _ _ ?_; clear hK18
    refine seq_any fun _ hK19 => ?_
    refine cond_any hfr9 rfl rfl (fun hb28 => ?_) (fun hb28 => ?_)
    · try simp only [nq1, nq2, nq3, nq4, nq5, nq6, nq7, nq8, nq9, u8_eq] at hb28
      refine wp_skip ?_
      refine hK19 _ _ ?_; clear hK19
      refine seq_any fun _ hK20 => ?_
      refine wp_block ?_
      refine seq_any fun _ hK21 => ?_
      obtain ⟨p22, vs22, x22, ho22, hd22, hm_x22, ht22, hcv22, hl22, hv22⟩ := h_ls.nth (k := y) (by omega)
      cases ho22
      obtain ⟨oS22, cS22, rfl, hss22⟩ := id hv22
      have hbs22 := hss22.big; have hcs22_ := hss22.cap
      refine rp0 hst9 hfr9 (.cons rfl (ob_indexAddr (k := y) rfl rfl Try.underlying81 Try.sizeOf24 rfl (by omega)) <| .cons rfl (ob_load1' rfl hcv22 Try.isAgg24 rfl) <| .cons rfl (ob_assign rfl) <| .nil) ?_
      intro a10 w10 m10 hst10 hle10 hk10
      have hfr10 := hk10.fr (T' := [(6, _), (27, _), (3, _), (11, _), (25, _), (26, _), (8, _)]) (.old rfl rfl <| .old rfl rfl <| .old rfl rfl <| .old rfl rfl <| .old rfl rfl <| .old rfl rfl <| .new rfl <| .nil)
      replace hss22 := hss22.mono hle10
      have hlh10 := hlh9.trans hle10
      clear hst9 hfr9 hk10
      rw [hd22, List.flatten_cons] at hlen_ga
      have hla9 := congrArg List.length hlen_ga
      rw [lenS_flat, List.length_append, List.length_append] at hla9
      refine hK21 _ _ ?_; clear hK21
      refine ra0 (tch := [(2, 0, (fun v => .rowx (nz v) _ _ _ _))]) hst10 hfr10 (.cons rfl (ob_move rfl) <| .cons rfl (ob_move rfl) <| .consT rfl rfl (fun _ => rfl) rfl (ob_appendX (size := 1) (bytes := 16) (l := ga) (l' := x22) rfl rfl (fun _ => by first | exact .inl rfl | exact .inr (.inl rfl)) Try.underlying24 Try.type9 rfl rfl rfl rfl (fun w m hK => hss22.mono (KC.le hK)) rfl (by decide) (by simp only [maxLen]; omega) (by omega)) <| .consA 33 rfl rfl <| .nil) ?_
      intro a11 w11 m11 hst11 hle11 hk11
      have hfr11 := hk11.fr (T' := [(27, _), (3, _), (11, _), (25, _), (26, _)]) (.old rfl rfl <| .old rfl rfl <| .old rfl rfl <| .old rfl rfl <| .old rfl rfl <| .nil)
      obtain ⟨⟨O_23o, O_23p⟩, e24, hsl_O_23⟩ := hk11.ex 33 rfl
      replace hfr11 := hfr11.cons (hk11.same 6 rfl e24)
      replace hst11 := hst11.fin (L' := [_]) (.cons e24 <| .nil)
      have hlh11 := hlh10.trans hle11
      clear hst10 hfr10 hk11
      replace hsl_O_23 : Strs m11 O_23o (ga ++ x22).length O_23p (ga ++ x22) := hsl_O_23
      refine hK20 _ _ ?_; clear hK20
      refine rp0 hst11 hfr11 (.cons rfl (ob_add rfl rfl ⟨by omega, by omega⟩) <| .cons rfl (ob_move rfl) <| .nil) ?_
      intro a12 w12 m12 hst12 hle12 hk12
      have hfr12 := hk12.fr (T' := [(3, _), (11, _), (25, _), (26, _), (6, _), (27, _)]) (.old rfl rfl <| .old rfl rfl <| .old rfl rfl <| .old rfl rfl <| .old rfl rfl <| .new rfl <| .nil)
      replace hsl_O_23 := hsl_O_23.mono hle12
      have hlh12 := hlh11.trans hle12
      clear hst11 hfr11 hk12
      exact ⟨(y + 1, O_23o, O_23p, (ga ++ x22)), m12, by show ls.length - (y + 1) < ls.length - y; omega, ⟨hst12, hlh12, hfr12.sub (.cons rfl <| .cons rfl <| .cons rfl <| .cons rfl <| .cons rfl <| .cons rfl <| .nil), ⟨by show y + 1 ≤ ls.length; omega, hsl_O_23, by rw [hlen_ga]; show _ = (ga ++ x22) ++ (ls.drop (y + 1)).flatten; simp [List.append_assoc]⟩⟩⟩
    · try simp only [nq1, nq2, nq3, nq4, nq5, nq6, nq7, nq8, nq9, u8_eq] at hb28
      have hge : y = ls.length := by omega
      rw [List.drop_of_length_le (by omega), List.flatten_nil, List.append_nil] at hlen_ga
      refine wp_exit ?_
      refine hK15 _ _ ?_; clear hK15
      refine seq_any fun _ hK25 => ?_
      refine rp0 hst9 hfr9 (.cons rfl (ob_move rfl) <| .cons rfl (ob_assign rfl) <| .nil) ?_
      intro a10 w10 m10 hst10 hle10 hk10
      have hfr10 := hk10.fr (T' := [(6, _), (27, _), (3, _), (11, _), (2, _)]) (.old rfl rfl <| .old rfl rfl <| .old rfl rfl <| .old rfl rfl <| .new rfl <| .nil)
      replace hsl_ga := hsl_ga.mono hle10
      have hlh10 := hlh9.trans hle10
      clear hst9 hfr9 hk10
      refine hK25 _ _ ?_; clear hK25
      refine wp_ret ?_
      repeat (with_reducible first | refine then_ret ?_ | refine block_ret ?_)
      exact fn_ret hst10 hfr10 rfl (.tmp rfl <| .nil) (⟨(_, _), by rw [hlen_ga]; rfl, by rw [hlen_ga]; exact hsl_ga⟩)

theorem cat2_c {w : World} {m : Mem} {p : Addr} {a b : List Str} {oa ob : Option Addr} {ca cb : Nat} (hA : Agree w m) (hc : CellsAt m p [.slice oa a.length ca, .slice ob b.length cb]) (ha : Strs m oa a.length ca a) (hb : Strs m ob b.length cb b) (hl : a.length + b.length ≤ 8796093022208) :
    FnV Try.prog 43 #[.slice (some p) 2 2] w m fun _ m v => (MP.strs (a ++ b)).p m v := by
  have := cat_c (ls := [a, b]) hA (Sl.two (vs := [_]) (us := [_]) hc rfl rfl ⟨_, _, rfl, ha⟩ ⟨_, _, rfl, hb⟩) (by rw [← lenS_flat, flat2, List.length_append]; omega)
  rw [flat2] at this; exact this

end Go.Proofs.Ytfphefkfbhjfdaa
