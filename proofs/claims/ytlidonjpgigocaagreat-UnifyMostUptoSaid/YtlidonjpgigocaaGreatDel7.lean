/-
  The labels that a row has more than another one: the closure, slices.IndexFunc and DeleteFunc with a predicate that has a state. Conditions: those of each theorem.
-/
import Derived.Test.YtlidonjpgigocaaGreatPieces7
import Derived.Test.YtlidonjpgigocaaGreatMcell
namespace Go.Proofs.YtlidonjpgigocaaGreat
set_option linter.all false
set_option maxRecDepth 4000
open Go.RowKit
/-- The labels that a row has more than another one; what is left of the other one. -/
def moreS : List Str → List Str → List Str
  | [], _ => []
  | x :: a, l => if x ∈ l then moreS a (l.erase x) else x :: moreS a l
def restS : List Str → List Str → List Str
  | [], l => l
  | x :: a, l => restS a (l.erase x)
theorem moreS_len : ∀ (a l : List Str), (moreS a l).length ≤ a.length
  | [], _ => Nat.le_refl _
  | x :: a, l => by
    rw [moreS]; split
    · exact Nat.le_trans (moreS_len a _) (by simp)
    · simp only [List.length_cons]; exact Nat.succ_le_succ (moreS_len a l)
theorem moreS_in {x : Str} {a l : List Str} (h : x ∈ l) : moreS (x :: a) l = moreS a (l.erase x) := by rw [moreS, if_pos h]
theorem moreS_out {x : Str} {a l : List Str} (h : ¬ x ∈ l) : moreS (x :: a) l = x :: moreS a l := by rw [moreS, if_neg h]
theorem restS_out {x : Str} {a l : List Str} (h : ¬ x ∈ l) : restS (x :: a) l = restS a l := by rw [restS, List.erase_of_not_mem h]
theorem indexM_c {w : World} {m : Mem} {o : Option Addr} {c : Nat} {left : List Str} {x : Str} (hA : Agree w m) (h : (Res.mrow (.slice o left.length c) left.length 1 9 (left.map S)).holds w m) :
    FnV Tryz.prog 92 #[.slice o left.length c, S x] w m fun _ _ v => v = .int .i64 (idxA 0 left x) := by
  obtain ⟨m', hA', _, hr⟩ := mrow_see hA h
  have hc := mrow_cap h
  have hc2 := hc.2
  simp only [maxLen] at hc2
  exact FnV.pure hA (indexS_c hA' (Strs.of_row hr rfl hc.1 (by omega)))
theorem deleteE_t {w : World} {m : Mem} {o : Option Addr} {cap k : Nat} {a b : Int} {l : List Str} (ea : a = (k : Int)) (eb : b = ((k + 1 : Nat) : Int)) (hA : Agree w m) (hr : (Res.mrow (.slice o l.length cap) l.length 1 9 (l.map S)).holds w m) (hk : k < l.length) :
    Calls Tryz.prog 93 #[.slice o l.length cap, .int .i64 a, .int .i64 b] w fun e w' => ∃ v m', e = .returned v ∧ Touch (.mrow (.slice o l.length cap) l.length 1 9 (l.map S)) (.mrow (.slice o (l.take k ++ l.drop (k + 1)).length cap) (l.take k ++ l.drop (k + 1)).length 1 9 ((l.take k ++ l.drop (k + 1)).map S)) w m w' m' ∧ (Kn.eq (.slice o (l.take k ++ l.drop (k + 1)).length cap)).holds m' v := by
  subst ea; subst eb
  have hlen' : (l.take k ++ l.drop (k + 1)).length = l.length - (k + 1 - k) := by simp; omega
  obtain ⟨hlen, o', cap', e1, hnc, hcm, h⟩ := hr
  injection e1 with e1 e2 e3; subst e1; subst e3
  rcases h with h | ⟨g, cur, rfl, hh, h3, h4, h5⟩
  · omega
  · refine Calls.mono (Tryz.slices_Delete_string g 0 cap k (k + 1) l w (holds_row hh h4 (by omega)) hnc (by simp only [maxLen] at hcm; omega) (by omega) (by omega)) fun e w' ⟨e1, q, e2⟩ => ⟨_, m, e1, ?_, by rw [hlen']; rfl⟩
    obtain ⟨p1, p2, p3, p4, p5, p6⟩ := put_heap (os := #[]) hh (e2.trans (Go.Sort.grow_empty _).symm)
    refine mrow_write hA (by omega) hcm hh h5 (by omega) (by simp) p1 (by rw [putCells_size]; exact h3) ?_ p2 p3 p4 p5 p6
    have := putCells_take S (l.take k ++ l.drop (k + 1) ++ List.replicate (k + 1 - k) []) cur (by simp only [List.length_append, List.length_replicate] at hlen' ⊢; omega)
    have h2 := congrArg (fun z => z.take (l.take k ++ l.drop (k + 1)).length) this
    simp only [List.take_take] at h2
    rw [Nat.min_eq_left (by simp only [List.length_append, List.length_replicate]; omega), List.map_append, List.take_append_of_le_length (by rw [List.length_map]; exact Nat.le_refl _), show ((l.take k ++ l.drop (k + 1)).map S).take (l.take k ++ l.drop (k + 1)).length = (l.take k ++ l.drop (k + 1)).map S from List.take_of_length_le (by rw [List.length_map]; exact Nat.le_refl _)] at h2
    rw [Nat.mul_one]; exact h2
/-- What the closure of without has: a box, and the row in it. -/
abbrev WB (g : Nat) (y : Option Addr × Nat) (l : List Str) : Res := .blk (.pointer (some ⟨g, 0, none⟩)) (.cells ([.slice y.1 l.length y.2] : List Value).toArray 41)
abbrev WR (y : Option Addr × Nat) (l : List Str) : Res := .mrow (.slice y.1 l.length y.2) l.length 1 9 (l.map S)
def WK (g : Nat) (bs : List Nat) (l : List Str) : Res := .pack bs fun w m => ∃ y : Option Addr × Nat, [WB g y l, WR y l].flatMap Res.blocks = bs ∧ (∀ r ∈ [WB g y l, WR y l], r.holds w m) ∧ True
theorem wk_blocks (g : Nat) (y : Option Addr × Nat) (l l' : List Str) : [WB g y l, WR y l].flatMap Res.blocks = [WB g y l', WR y l'].flatMap Res.blocks := by
  simp only [List.flatMap_cons, Res.blocks, mBlock_n y.1 l.length l'.length y.2]
theorem wk_open {G0 : List Nat} {n g : Nat} {bs : List Nat} {l : List Str} {w : World} {m : Mem} (hA : Agree w m) (h : Loc G0 n [WK g bs l] w m) : ∃ y, [WB g y l, WR y l].flatMap Res.blocks = bs ∧ Loc G0 n [WB g y l, WR y l] w m := by
  obtain ⟨y, hb, hh, _⟩ := pack_at (h.at_ (k := 0) rfl) hA
  have e : [WK g bs l].flatMap Res.blocks = [WB g y l, WR y l].flatMap Res.blocks := by rw [hb]; simp [WK, Res.blocks]
  exact ⟨y, hb, hh, e ▸ h.apart, e ▸ h.own⟩
theorem wk_close {G0 : List Nat} {n g : Nat} {bs : List Nat} {l : List Str} {y : Option Addr × Nat} {w : World} {m : Mem} (hb : [WB g y l, WR y l].flatMap Res.blocks = bs) (h : Loc G0 n [WB g y l, WR y l] w m) : Loc G0 n [WK g bs l] w m := by
  have e : [WK g bs l].flatMap Res.blocks = [WB g y l, WR y l].flatMap Res.blocks := by rw [hb]; simp [WK, Res.blocks]
  refine ⟨fun r hr => ?_, e ▸ h.apart, e ▸ h.own⟩
  rw [List.mem_singleton] at hr; subst hr
  exact pack_of (Ly := fun y => [WB g y l, WR y l]) (J := fun _ _ => True) (fun _ _ _ _ h => h) hb h.all trivial

set_option maxHeartbeats 1600000 in
theorem without1_g {w : World} {m : Mem} {x : Str} {g : Nat} {y0 : Option Addr × Nat} {left : List Str} {G0 : List Nat} (hA : Agree w m) (hL : Loc G0 w.heap.size [WB g y0 left, WR y0 left] w m) : FnG Tryz.prog 91 #[S x, .pointer (some ⟨g, 0, none⟩)] G0 w m (fun w' m' v => Loc G0 w.heap.size [WB g y0 (left.erase x), WR y0 (left.erase x)] w' m' ∧ v = .bool (decide (x ∈ left))) := by
  refine fn_enter (vs := [_, _]) Tryz.func91 rfl rfl rfl fun a0 hfr0 => ?_
  have hst0 := st_enter hA hL
  have hM : MLe m m := MLe.refl m
  have him := idxA_mem x left 0
  have hcp := mrow_cap (hL.at_ (k := 1) rfl)
  have hcp2 := hcp.2
  simp only [maxLen] at hcp2
  refine seq_any fun _ hK1 => ?_
  refine rp0 hst0 hfr0 (.cons rfl (ob_assign rfl) <| .nil) ?_
  intro a1 w1 m1 hst1 hle1 hk1
  have hfr1 := hk1.fr (T' := [(0, _), (1, _)]) (.old rfl rfl <| .old rfl rfl <| .nil)
  replace hM := hM.trans hle1
  clear hst0 hfr0 hk1
  refine hK1 _ _ ?_; clear hK1
  refine seq_any fun _ hK2 => ?_
  refine rp0 hst1 hfr1 (.cons rfl (ob_loadL' (j := 0) rfl rfl Tryz.isAgg41 rfl) <| .cons rfl (ob_move rfl) <| .cons rfl (ob_callE rfl (.cons rfl <| .cons rfl <| .nil) Tryz.call92 (fun w m hK => by have hle_ := KC.le hK; have hA := KC.agree hK; exact indexM_c hA (KC.at_ hK (k := 1) rfl))) <| .cons rfl (ob_assign rfl) <| .nil) ?_
  intro a2 w2 m2 hst2 hle2 hk2
  have hfr2 := hk2.fr (T' := [(1, _), (4, _)]) (.old rfl rfl <| .new rfl <| .nil)
  replace hM := hM.trans hle2
  clear hst1 hfr1 hk2
  refine hK2 _ _ ?_; clear hK2
  refine seq_any fun _ hK3 => ?_
  refine seq_any fun _ hK4 => ?_
  refine rp0 hst2 hfr2 (.cons rfl (ob_move rfl) <| .cons rfl (ob_geq rfl rfl) <| .nil) ?_
  intro a3 w3 m3 hst3 hle3 hk3
  have hfr3 := hk3.fr (T' := [(1, _), (4, _), (9, _)]) (.old rfl rfl <| .old rfl rfl <| .new rfl <| .nil)
  replace hM := hM.trans hle3
  clear hst2 hfr2 hk3
  refine hK4 _ _ ?_; clear hK4
  refine cond_any hfr3 rfl rfl (fun hb9 => ?_) (fun hb9 => ?_)
  · try simp only [nq1, nq2, nq3, nq4, nq5, nq6, nq7, nq8, nq9, u8_eq] at hb9
    have hin : x ∈ left := him.1 (by omega)
    obtain ⟨k, hk1, hk2, hk3⟩ := idx_erase x left 0 hin
    rw [Nat.zero_add] at hk1
    refine ra0 (tch := [(4, 1, (fun _ => WR y0 (left.take k ++ left.drop (k + 1)))), (5, 0, (fun _ => .blk _ _))]) hst3 hfr3 (.cons rfl (ob_loadL' (j := 0) rfl rfl Tryz.isAgg41 rfl) <| .cons rfl (ob_move rfl) <| .cons rfl (ob_move rfl) <| .cons rfl (ob_add rfl rfl ⟨by omega, by omega⟩) <| .consT rfl rfl (fun _ => rfl) rfl (ob_callT rfl (.cons rfl <| .cons rfl <| .cons rfl <| .nil) Tryz.call93 (κ := .eq (.slice y0.1 (left.take k ++ left.drop (k + 1)).length y0.2)) (fun σ w m hK hr hkn => by have hle_ := KC.le hK; have hA := KC.agree hK; have hM := hM.trans hle_; exact deleteE_t hk1 (by rw [hk1]; rfl) hA hr hk2)) <| .consT rfl rfl (fun _ => rfl) rfl (ob_store' rfl rfl rfl Tryz.sizeOf41 rfl rfl rfl) <| .nil) ?_
    intro a4 w4 m4 hst4 hle4 hk4
    have hfr4 := hk4.fr (T' := [(4, _)]) (.old rfl rfl <| .nil)
    replace hst4 := hst4.fin (L' := [_, _]) (.cons rfl <| .cons rfl <| .nil)
    try simp only [List.take_succ_cons, List.take_zero, List.drop_succ_cons, List.drop_zero, List.cons_append, List.nil_append, List.append_nil, List.length_cons, List.length_nil, Nat.zero_add, Nat.reduceAdd] at hst4
    clear hst3 hfr3 hk4
    rw [hk3] at hst4
    refine hK3 _ _ ?_; clear hK3
    refine seq_any fun _ hK5 => ?_
    refine rp0 hst4 hfr4 (.cons rfl (ob_move rfl) <| .cons rfl (ob_geq rfl rfl) <| .cons rfl (ob_assign rfl) <| .nil) ?_
    intro a5 w5 m5 hst5 hle5 hk5
    have hfr5 := hk5.fr (T' := [(3, _)]) (.new rfl <| .nil)
    clear hst4 hfr4 hk5
    refine hK5 _ _ ?_; clear hK5
    refine wp_ret ?_
    repeat (with_reducible first | refine then_ret ?_ | refine block_ret ?_)
    exact fn_ret hst5 hfr5 rfl (.tmp rfl <| .nil) (⟨hst5.loc, by rw [decide_eq_true hin]; exact congrArg Value.bool (by simp; omega)⟩)
  · try simp only [nq1, nq2, nq3, nq4, nq5, nq6, nq7, nq8, nq9, u8_eq] at hb9
    have hin : ¬ x ∈ left := fun h => by have := him.2 h; omega
    have her : left.erase x = left := List.erase_of_not_mem hin
    have hst3 : St G0 w m [WB g y0 (left.erase x), WR y0 (left.erase x)] w3 m3 := by rw [her]; exact hst3
    refine wp_skip ?_
    refine hK3 _ _ ?_; clear hK3
    refine seq_any fun _ hK7 => ?_
    refine rp0 hst3 hfr3 (.cons rfl (ob_move rfl) <| .cons rfl (ob_geq rfl rfl) <| .cons rfl (ob_assign rfl) <| .nil) ?_
    intro a4 w4 m4 hst4 hle4 hk4
    have hfr4 := hk4.fr (T' := [(3, _)]) (.new rfl <| .nil)
    clear hst3 hfr3 hk4
    refine hK7 _ _ ?_; clear hK7
    refine wp_ret ?_
    repeat (with_reducible first | refine then_ret ?_ | refine block_ret ?_)
    exact fn_ret hst4 hfr4 rfl (.tmp rfl <| .nil) (⟨hst4.loc, by rw [decide_eq_false hin]; exact congrArg Value.bool (by simp; omega)⟩)

theorem without1_r {w : World} {m : Mem} {g : Nat} {bs : List Nat} {left : List Str} {x : Str} (hA : Agree w m) (h : Loc ([WK g bs left].flatMap Res.blocks) w.heap.size [WK g bs left] w m) :
    FnR Tryz.prog 91 #[S x, .pointer (some ⟨g, 0, none⟩)] [WK g bs left] w m fun rs' _ v => rs' = [WK g bs (left.erase x)] ∧ v = .bool (decide (x ∈ left)) := by
  obtain ⟨y, hb, hL⟩ := wk_open hA h
  exact FnG.mono (without1_g hA hL) fun w' m' v _ ⟨h1, h2⟩ => ⟨_, wk_close ((wk_blocks g y _ _).trans hb) h1, rfl, h2⟩
/-- Where the first one is that the other row has, and what is left then. -/
def IdxQ (l left : List Str) (i : Int) (lf : List Str) : Prop := (i = -1 ∧ lf = left ∧ moreS l left = l ∧ restS l left = left) ∨
  ∃ (k : Nat) (x : Str), i = (k : Int) ∧ l[k]? = some x ∧ x ∈ left ∧ lf = left.erase x ∧ moreS l left = l.take k ++ moreS (l.drop (k + 1)) lf ∧ restS l left = restS (l.drop (k + 1)) lf
theorem nth_ex {α : Type} {l : List α} {y : Nat} (h : y < l.length) : ∃ x, l[y]? = some x ∧ l.drop y = x :: l.drop (y + 1) ∧ l.take (y + 1) = l.take y ++ [x] :=
  ⟨l[y], List.getElem?_eq_getElem h, List.drop_eq_getElem_cons h, by rw [List.take_succ, List.getElem?_eq_getElem h]; rfl⟩

set_option maxHeartbeats 1600000 in
theorem indexW_g {w : World} {m : Mem} {o : Option Addr} {c : Nat} {l left : List Str} {g : Nat} {bs G0 : List Nat} (hA : Agree w m) (hL : Loc G0 w.heap.size [WK g bs left, WR (o, c) l] w m) : FnG Tryz.prog 112 #[.slice o l.length c, .func (.func 91) #[] #[.pointer (some ⟨g, 0, none⟩)]] G0 w m (fun w' m' v => ∃ i lf, Loc G0 w.heap.size [WK g bs lf, WR (o, c) l] w' m' ∧ v = .int .i64 i ∧ IdxQ l left i lf) := by
  refine fn_enter (vs := [_, _]) Tryz.func112 rfl rfl rfl fun a0 hfr0 => ?_
  have hst0 := st_enter hA hL
  have hM : MLe m m := MLe.refl m
  have hcp := mrow_cap (hL.at_ (k := 1) rfl)
  have hcp2 := hcp.2
  simp only [maxLen] at hcp2
  dsimp only at hcp hcp2
  refine seq_any fun _ hK1 => ?_
  refine rp0 hst0 hfr0 (.cons rfl (ob_assign rfl) <| .nil) ?_
  intro a1 w1 m1 hst1 hle1 hk1
  have hfr1 := hk1.fr (T' := [(0, _), (1, _)]) (.old rfl rfl <| .old rfl rfl <| .nil)
  clear hst0 hfr0 hk1
  refine hK1 _ _ ?_; clear hK1
  refine seq_any fun _ hK2 => ?_
  refine seq_any fun _ hK3 => ?_
  refine rp0 hst1 hfr1 (.cons rfl (ob_move rfl) <| .cons rfl (ob_len rfl Tryz.underlying41) <| .cons rfl (ob_move rfl) <| .nil) ?_
  intro a2 w2 m2 hst2 hle2 hk2
  have hfr2 := hk2.fr (T' := [(0, _), (1, _), (7, _), (8, _)]) (.old rfl rfl <| .old rfl rfl <| .new rfl <| .new rfl <| .nil)
  clear hst1 hfr1 hk2
  refine hK3 _ _ ?_; clear hK3
  refine wp_block ?_
  refine loop_any (T := [(0, _), (1, _), (7, _)]) (fun (y : Nat) => ([(8, .int .i64 (y : Int))] : List (Nat × Value))) (fun _ => _) (fun (y : Nat) m => (y ≤ l.length) ∧ (moreS l left = l.take y ++ moreS (l.drop y) left) ∧ (restS l left = restS (l.drop y) left)) (fun y => l.length - y) (0) ⟨hst2, MLe.refl _, hfr2.sub (.cons rfl <| .cons rfl <| .cons rfl <| .cons rfl <| .nil), ⟨Nat.zero_le _, rfl, rfl⟩⟩ fun y a3 w3 m3 hh3 => ?_
  have hst3 := hh3.st; have hle3 := hh3.le; have hfr3 := hh3.fr; have hrel := hh3.rel; clear hh3
  clear hst2 hfr2
  obtain ⟨hyn, hJm, hJr⟩ := hrel
  have hlh3 := hle3
  refine seq_any fun _ hK5 => ?_
  refine rp0 hst3 hfr3 (.cons rfl (ob_lss rfl rfl) <| .nil) ?_
  intro a4 w4 m4 hst4 hle4 hk4
  have hfr4 := hk4.fr (T' := [(8, _), (0, _), (1, _), (7, _), (9, _)]) (.old rfl rfl <| .old rfl rfl <| .old rfl rfl <| .old rfl rfl <| .new rfl <| .nil)
  have hlh4 := hlh3.trans hle4
  clear hst3 hfr3 hk4
  refine hK5 _ _ ?_; clear hK5
  refine seq_any fun _ hK6 => ?_
  refine cond_any hfr4 rfl rfl (fun hb9 => ?_) (fun hb9 => ?_)
  · try simp only [nq1, nq2, nq3, nq4, nq5, nq6, nq7, nq8, nq9, u8_eq] at hb9
    refine wp_skip ?_
    refine hK6 _ _ ?_; clear hK6
    refine seq_any fun _ hK7 => ?_
    refine wp_block ?_
    refine seq_any fun _ hK8 => ?_
    refine rp0 hst4 hfr4 (.cons rfl (ob_move rfl) <| .cons rfl (ob_assign rfl) <| .nil) ?_
    intro a5 w5 m5 hst5 hle5 hk5
    have hfr5 := hk5.fr (T' := [(8, _), (0, _), (1, _), (7, _), (5, _)]) (.old rfl rfl <| .old rfl rfl <| .old rfl rfl <| .old rfl rfl <| .new rfl <| .nil)
    have hlh5 := hlh4.trans hle5
    clear hst4 hfr4 hk5
    refine hK8 _ _ ?_; clear hK8
    refine seq_any fun _ hK9 => ?_
    refine region_cut 5 (by kernel_rfl) ?_
    obtain ⟨x, hx9, hd9, ht9⟩ := nth_ex (l := l) (y := y) (by omega)
    have hxy : (l.map S)[y]? = some (S x) := by rw [List.getElem?_map, hx9]; rfl
    obtain ⟨ga, rfl⟩ := mrow_some (hst5.loc.at_ (k := 1) rfl) (by omega)
    refine ops_seq (tch := []) hst5 hfr5 (by kernel_rfl) (by kernel_rfl) (by kernel_rfl) (.cons rfl (ob_move rfl) <| .cons rfl (ob_move rfl) <| .cons rfl (ob_move rfl) <| .cons rfl (ob_indexAddr rfl rfl Tryz.underlying41 Tryz.sizeOf9 rfl (by omega)) <| .cons rfl (ob_loadM1 (j := 1) (i := y) rfl rfl Tryz.isAgg9 hxy) <| .nil) ?_
    intro a6 w6 m6 hst6 hle6 hk6
    have hfr6 := hk6.fr (T' := [(8, _), (0, _), (1, _), (7, _), (5, _), (11, _), (15, _)]) (.old rfl rfl <| .old rfl rfl <| .old rfl rfl <| .old rfl rfl <| .old rfl rfl <| .new rfl <| .new rfl <| .nil)
    have hlh6 := hlh5.trans hle6
    clear hst5 hfr5 hk6
    refine call_res [] [_] [_] hst6 hfr6 rfl (.cons rfl <| .nil) Tryz.call91 (without1_r hst6.agree (hst6.sub (A := []) (B := [_]) (rs := [_]))) ?_
    intro vr7 w7 m7 rs7 hst7 hle7 hp7
    obtain ⟨rfl, hvq9⟩ := hp7
    simp only [List.nil_append, List.cons_append] at hst7
    have hfr7 := (hfr6.sub (T' := [(8, _), (0, _), (1, _), (7, _), (5, _), (11, _), (15, _)]) (.cons rfl <| .cons rfl <| .cons rfl <| .cons rfl <| .cons rfl <| .cons rfl <| .cons rfl <| .nil)).put (d := 16) (v := vr7) (by kernel_rfl) rfl
    have hlh7 := hlh6.trans hle7
    clear hst6 hfr6
    subst hvq9
    refine hK9 _ _ ?_; clear hK9
    refine cond_any hfr7 rfl rfl (fun hb16 => ?_) (fun hb16 => ?_)
    · try simp only [nq1, nq2, nq3, nq4, nq5, nq6, nq7, nq8, nq9, u8_eq] at hb16
      have hin : x ∈ left := hb16
      refine seq_any fun _ hK10 => ?_
      refine rp0 hst7 hfr7 (.cons rfl (ob_move rfl) <| .cons rfl (ob_assign rfl) <| .nil) ?_
      intro a8 w8 m8 hst8 hle8 hk8
      have hfr8 := hk8.fr (T' := [(8, _), (4, _)]) (.old rfl rfl <| .new rfl <| .nil)
      have hlh8 := hlh7.trans hle8
      clear hst7 hfr7 hk8
      refine hK10 _ _ ?_; clear hK10
      refine wp_ret ?_
      repeat (with_reducible first | refine then_ret ?_ | refine block_ret ?_)
      exact fn_ret hst8 hfr8 rfl (.tmp rfl <| .nil) (⟨_, _, (hst8.take 2).loc, rfl, .inr ⟨y, x, rfl, hx9, hin, rfl, by rw [hJm, hd9, moreS_in hin], by rw [hJr, hd9, restS]⟩⟩)
    · try simp only [nq1, nq2, nq3, nq4, nq5, nq6, nq7, nq8, nq9, u8_eq] at hb16
      have hin : ¬ x ∈ left := hb16
      rw [List.erase_of_not_mem hin] at hst7
      refine wp_skip ?_
      refine hK7 _ _ ?_; clear hK7
      refine rp0 hst7 hfr7 (.cons rfl (ob_add rfl rfl ⟨by omega, by omega⟩) <| .cons rfl (ob_move rfl) <| .nil) ?_
      intro a8 w8 m8 hst8 hle8 hk8
      have hfr8 := hk8.fr (T' := [(0, _), (1, _), (7, _), (8, _)]) (.old rfl rfl <| .old rfl rfl <| .old rfl rfl <| .new rfl <| .nil)
      have hlh8 := hlh7.trans hle8
      clear hst7 hfr7 hk8
      exact ⟨y + 1, m8, by show l.length - (y + 1) < l.length - y; omega, ⟨hst8, hlh8, hfr8.sub (.cons rfl <| .cons rfl <| .cons rfl <| .cons rfl <| .nil), ⟨by show y + 1 ≤ l.length; omega, by rw [hJm, hd9, moreS_out hin, ht9]; simp, by rw [hJr, hd9, restS_out hin]⟩⟩⟩
  · try simp only [nq1, nq2, nq3, nq4, nq5, nq6, nq7, nq8, nq9, u8_eq] at hb9
    have hge : y = l.length := by omega
    rw [List.drop_of_length_le (by omega)] at hJm hJr
    rw [List.take_of_length_le (by omega), moreS, List.append_nil] at hJm
    refine wp_exit ?_
    refine hK2 _ _ ?_; clear hK2
    refine seq_any fun _ hK12 => ?_
    refine rp0 hst4 hfr4 (.cons rfl (ob_assign rfl) <| .nil) ?_
    intro a5 w5 m5 hst5 hle5 hk5
    have hfr5 := hk5.fr (T' := [(8, _), (4, _)]) (.old rfl rfl <| .new rfl <| .nil)
    have hlh5 := hlh4.trans hle5
    clear hst4 hfr4 hk5
    refine hK12 _ _ ?_; clear hK12
    refine wp_ret ?_
    repeat (with_reducible first | refine then_ret ?_ | refine block_ret ?_)
    exact fn_ret hst5 hfr5 rfl (.tmp rfl <| .nil) (⟨_, _, (hst5.take 2).loc, rfl, .inl ⟨rfl, rfl, hJm, hJr⟩⟩)

theorem indexW_r {w : World} {m : Mem} {o : Option Addr} {c : Nat} {l left : List Str} {g : Nat} {bs : List Nat} (hA : Agree w m) (h : Loc ([WK g bs left, WR (o, c) l].flatMap Res.blocks) w.heap.size [WK g bs left, WR (o, c) l] w m) :
    FnR Tryz.prog 112 #[.slice o l.length c, .func (.func 91) #[] #[.pointer (some ⟨g, 0, none⟩)]] [WK g bs left, WR (o, c) l] w m fun rs' _ v => ∃ i lf, rs' = [WK g bs lf, WR (o, c) l] ∧ v = .int .i64 i ∧ IdxQ l left i lf :=
  FnG.mono (indexW_g hA h) fun w' m' v _ ⟨i, lf, h1, h2, h3⟩ => ⟨_, h1, i, lf, rfl, h2, h3⟩

set_option maxHeartbeats 3200000 in
theorem deleteW_g {w : World} {m : Mem} {o : Option Addr} {c : Nat} {l left : List Str} {g : Nat} {bs G0 : List Nat} (hA : Agree w m) (hL : Loc G0 w.heap.size [WK g bs left, WR (o, c) l] w m) : FnG Tryz.prog 90 #[.slice o l.length c, .func (.func 91) #[] #[.pointer (some ⟨g, 0, none⟩)]] G0 w m (fun w' m' v => Loc G0 w.heap.size [WK g bs (restS l left), WR (o, c) (moreS l left)] w' m' ∧ v = .slice o (moreS l left).length c) := by
  refine fn_enter (vs := [_, _]) Tryz.func90 rfl rfl rfl fun a0 hfr0 => ?_
  have hst0 := st_enter hA hL
  have hM : MLe m m := MLe.refl m
  have hcp := mrow_cap (hL.at_ (k := 1) rfl)
  have hcp2 := hcp.2
  simp only [maxLen] at hcp2
  dsimp only at hcp hcp2
  refine seq_any fun _ hK1 => ?_
  refine rp0 hst0 hfr0 (.cons rfl (ob_assign rfl) <| .nil) ?_
  intro a1 w1 m1 hst1 hle1 hk1
  have hfr1 := hk1.fr (T' := [(0, _), (1, _)]) (.old rfl rfl <| .old rfl rfl <| .nil)
  clear hst0 hfr0 hk1
  refine hK1 _ _ ?_; clear hK1
  refine seq_any fun _ hK2 => ?_
  refine region_cut 3 (by kernel_rfl) ?_
  refine ops_cut 2 (by kernel_rfl) ?_
  refine ops_seq (tch := []) hst1 hfr1 (by kernel_rfl) (by kernel_rfl) (by kernel_rfl) (.cons rfl (ob_move rfl) <| .cons rfl (ob_move rfl) <| .nil) ?_
  intro a2 w2 m2 hst2 hle2 hk2
  have hfr2 := hk2.fr (T' := [(0, _), (1, _), (8, _), (9, _)]) (.old rfl rfl <| .old rfl rfl <| .new rfl <| .new rfl <| .nil)
  clear hst1 hfr1 hk2
  refine call_res [] [] [_, _] hst2 hfr2 rfl (.cons rfl <| .cons rfl <| .nil) Tryz.call112 (indexW_r hst2.agree (hst2.sub (A := []) (B := []) (rs := [_, _]))) ?_
  intro vr3 w3 m3 rs3 hst3 hle3 hp3
  obtain ⟨i9, lf9, rfl, hvq9, hQ⟩ := hp3
  simp only [List.nil_append, List.cons_append] at hst3
  have hfr3 := (hfr2.sub (T' := [(0, _), (1, _), (8, _), (9, _)]) (.cons rfl <| .cons rfl <| .cons rfl <| .cons rfl <| .nil)).put (d := 10) (v := vr3) (by kernel_rfl) rfl
  clear hst2 hfr2
  subst hvq9
  refine ops_seq (tch := []) hst3 hfr3 (by kernel_rfl) (by kernel_rfl) (by kernel_rfl) (.cons rfl (ob_assign rfl) <| .nil) ?_
  intro a4 w4 m4 hst4 hle4 hk4
  have hfr4 := hk4.fr (T' := [(10, _), (0, _), (1, _), (8, _), (9, _), (5, _)]) (.old rfl rfl <| .old rfl rfl <| .old rfl rfl <| .old rfl rfl <| .old rfl rfl <| .new rfl <| .nil)
  clear hst3 hfr3 hk4
  refine hK2 _ _ ?_; clear hK2
  refine seq_any fun _ hK3 => ?_
  refine seq_any fun _ hK4 => ?_
  refine rp0 hst4 hfr4 (.cons rfl (ob_move rfl) <| .cons rfl (ob_eql rfl rfl) <| .nil) ?_
  intro a5 w5 m5 hst5 hle5 hk5
  have hfr5 := hk5.fr (T' := [(0, _), (1, _), (5, _), (12, _)]) (.old rfl rfl <| .old rfl rfl <| .old rfl rfl <| .new rfl <| .nil)
  clear hst4 hfr4 hk5
  refine hK4 _ _ ?_; clear hK4
  refine cond_any hfr5 rfl rfl (fun hb12 => ?_) (fun hb12 => ?_)
  · try simp only [nq1, nq2, nq3, nq4, nq5, nq6, nq7, nq8, nq9, u8_eq] at hb12
    obtain ⟨_, rfl, hm9, hr9⟩ := hQ.resolve_right (fun ⟨k, x, e, _⟩ => by omega)
    have hst5 : St G0 w m [WK g bs (restS l lf9), WR (o, c) (moreS l lf9)] w5 m5 := by rw [hm9, hr9]; exact hst5
    refine seq_any fun _ hK5 => ?_
    refine rp0 hst5 hfr5 (.cons rfl (ob_move rfl) <| .cons rfl (ob_assign rfl) <| .nil) ?_
    intro a6 w6 m6 hst6 hle6 hk6
    have hfr6 := hk6.fr (T' := [(5, _), (4, _)]) (.old rfl rfl <| .new rfl <| .nil)
    clear hst5 hfr5 hk6
    refine hK5 _ _ ?_; clear hK5
    refine wp_ret ?_
    repeat (with_reducible first | refine then_ret ?_ | refine block_ret ?_)
    exact fn_ret hst6 hfr6 rfl (.tmp rfl <| .nil) (⟨(hst6.take 2).loc, by rw [hm9]; rfl⟩)
  · try simp only [nq1, nq2, nq3, nq4, nq5, nq6, nq7, nq8, nq9, u8_eq] at hb12
    obtain ⟨k0, x0, rfl, hx0, hin0, rfl, hm0, hr0⟩ := hQ.resolve_left (fun h => hb12 h.1)
    have hkl := (List.getElem?_eq_some_iff.1 hx0).1
    obtain ⟨ga, rfl⟩ := mrow_some (hst5.loc.at_ (k := 1) rfl) (by omega)
    refine wp_skip ?_
    refine hK3 _ _ ?_; clear hK3
    refine seq_any fun _ hK7 => ?_
    refine seq_any fun _ hK8 => ?_
    refine rp0 hst5 hfr5 (.cons rfl (ob_move rfl) <| .cons rfl (ob_add rfl rfl ⟨by omega, by omega⟩) <| .cons rfl (ob_assign rfl) <| .nil) ?_
    intro a6 w6 m6 hst6 hle6 hk6
    have hfr6 := hk6.fr (T' := [(0, _), (1, _), (5, _), (6, _)]) (.old rfl rfl <| .old rfl rfl <| .old rfl rfl <| .new rfl <| .nil)
    clear hst5 hfr5 hk6
    rw [show ((k0 : Int) + 1) = ((k0 + 1 : Nat) : Int) by omega] at hfr6
    refine hK8 _ _ ?_; clear hK8
    refine wp_block ?_
    refine loop_any (T := [(0, _), (1, _)]) (fun (y : (List Str) × (Nat) × (Nat) × (List Str)) => ([(5, .int .i64 (y.2.1 : Int)), (6, .int .i64 (y.2.2.1 : Int))] : List (Nat × Value))) (fun y => [WK g bs y.2.2.2, .mrow (.slice (some ⟨ga, 0, none⟩) l.length c) l.length 1 9 (y.1.map S)]) (fun (y : (List Str) × (Nat) × (Nat) × (List Str)) m => (fun (xs : List Str) (i : Nat) (y : Nat) (lf : List Str) => (xs.length = l.length) ∧ (xs.drop y = l.drop y) ∧ (moreS l left = xs.take i ++ moreS (l.drop y) lf) ∧ (restS l left = restS (l.drop y) lf) ∧ (i < y ∧ y ≤ l.length)) y.1 y.2.1 y.2.2.1 y.2.2.2) (fun y => l.length - y.2.2.1) ((l, k0, k0 + 1, left.erase x0)) ⟨hst6, MLe.refl _, hfr6.sub (.cons rfl <| .cons rfl <| .cons rfl <| .cons rfl <| .nil), ⟨rfl, rfl, hm0, hr0, ⟨by (try dsimp only); omega, by (try dsimp only); omega⟩⟩⟩ fun y a7 w7 m7 hh7 => ?_
    have hst7 := hh7.st; have hle7 := hh7.le; have hfr7 := hh7.fr; have hrel := hh7.rel; clear hh7
    clear hst6 hfr6
    obtain ⟨xs, i, y, lf⟩ := y
    dsimp only at hrel hfr7 hst7
    obtain ⟨hJl, hJd, hJm, hJr, hJi⟩ := hrel
    have hlh7 := hle7
    refine seq_any fun _ hK10 => ?_
    refine seq_any fun _ hK11 => ?_
    refine rp0 hst7 hfr7 (.cons rfl (ob_move rfl) <| .cons rfl (ob_move rfl) <| .cons rfl (ob_len rfl Tryz.underlying41) <| .cons rfl (ob_lss rfl rfl) <| .nil) ?_
    intro a8 w8 m8 hst8 hle8 hk8
    have hfr8 := hk8.fr (T' := [(5, _), (6, _), (0, _), (1, _), (19, _)]) (.old rfl rfl <| .old rfl rfl <| .old rfl rfl <| .old rfl rfl <| .new rfl <| .nil)
    have hlh8 := hlh7.trans hle8
    clear hst7 hfr7 hk8
    refine hK11 _ _ ?_; clear hK11
    refine cond_any hfr8 rfl rfl (fun hb19 => ?_) (fun hb19 => ?_)
    · try simp only [nq1, nq2, nq3, nq4, nq5, nq6, nq7, nq8, nq9, u8_eq] at hb19
      refine wp_skip ?_
      refine hK10 _ _ ?_; clear hK10
      refine seq_any fun _ hK12 => ?_
      refine wp_block ?_
      refine seq_any fun _ hK13 => ?_
      obtain ⟨x, hx9, hd9, ht9⟩ := nth_ex (l := l) (y := y) (by omega)
      have hxx : xs[y]? = some x := by have h9 := congrArg (fun q => q[0]?) hJd; simpa [List.getElem?_drop, hx9] using h9
      have hxy : (xs.map S)[y]? = some (S x) := by rw [List.getElem?_map, hxx]; rfl
      refine rp0 hst8 hfr8 (.cons rfl (ob_move rfl) <| .cons rfl (ob_move rfl) <| .cons rfl (ob_indexAddr rfl rfl Tryz.underlying41 Tryz.sizeOf9 rfl (by omega)) <| .cons rfl (ob_loadM1 (j := 1) (i := y) rfl rfl Tryz.isAgg9 hxy) <| .cons rfl (ob_assign rfl) <| .nil) ?_
      intro a9 w9 m9 hst9 hle9 hk9
      have hfr9 := hk9.fr (T' := [(5, _), (6, _), (0, _), (1, _), (7, _)]) (.old rfl rfl <| .old rfl rfl <| .old rfl rfl <| .old rfl rfl <| .new rfl <| .nil)
      have hlh9 := hlh8.trans hle9
      clear hst8 hfr8 hk9
      refine hK13 _ _ ?_; clear hK13
      refine seq_any fun _ hK14 => ?_
      refine region_cut 3 (by kernel_rfl) ?_
      refine ops_cut 2 (by kernel_rfl) ?_
      refine ops_seq (tch := []) hst9 hfr9 (by kernel_rfl) (by kernel_rfl) (by kernel_rfl) (.cons rfl (ob_move rfl) <| .cons rfl (ob_move rfl) <| .nil) ?_
      intro a10 w10 m10 hst10 hle10 hk10
      have hfr10 := hk10.fr (T' := [(5, _), (6, _), (0, _), (1, _), (7, _), (26, _), (27, _)]) (.old rfl rfl <| .old rfl rfl <| .old rfl rfl <| .old rfl rfl <| .old rfl rfl <| .new rfl <| .new rfl <| .nil)
      have hlh10 := hlh9.trans hle10
      clear hst9 hfr9 hk10
      refine call_res [] [_] [_] hst10 hfr10 rfl (.cons rfl <| .nil) Tryz.call91 (without1_r hst10.agree (hst10.sub (A := []) (B := [_]) (rs := [_]))) ?_
      intro vr11 w11 m11 rs11 hst11 hle11 hp11
      obtain ⟨rfl, hvq9⟩ := hp11
      simp only [List.nil_append, List.cons_append] at hst11
      have hfr11 := (hfr10.sub (T' := [(5, _), (6, _), (0, _), (1, _), (7, _), (26, _), (27, _)]) (.cons rfl <| .cons rfl <| .cons rfl <| .cons rfl <| .cons rfl <| .cons rfl <| .cons rfl <| .nil)).put (d := 28) (v := vr11) (by kernel_rfl) rfl
      have hlh11 := hlh10.trans hle11
      clear hst10 hfr10
      subst hvq9
      have hdx : xs.drop (y + 1) = l.drop (y + 1) := by have h9 := congrArg List.tail hJd; simpa [List.tail_drop] using h9
      refine ops_seq (tch := []) hst11 hfr11 (by kernel_rfl) (by kernel_rfl) (by kernel_rfl) (.cons rfl (ob_not rfl) <| .nil) ?_
      intro a12 w12 m12 hst12 hle12 hk12
      have hfr12 := hk12.fr (T' := [(28, _), (5, _), (6, _), (0, _), (1, _), (7, _), (26, _), (27, _), (29, _)]) (.old rfl rfl <| .old rfl rfl <| .old rfl rfl <| .old rfl rfl <| .old rfl rfl <| .old rfl rfl <| .old rfl rfl <| .old rfl rfl <| .new rfl <| .nil)
      have hlh12 := hlh11.trans hle12
      clear hst11 hfr11 hk12
      refine hK14 _ _ ?_; clear hK14
      refine cond_any hfr12 rfl rfl (fun hb29 => ?_) (fun hb29 => ?_)
      · try simp only [nq1, nq2, nq3, nq4, nq5, nq6, nq7, nq8, nq9, u8_eq] at hb29
        have hin : ¬ x ∈ lf := by simpa using hb29
        refine seq_any fun _ hK15 => ?_
        refine ra0 (tch := [(4, 1, (fun _ => .mrow (.slice (some ⟨ga, 0, none⟩) l.length c) l.length 1 9 ((xs.map S).take i ++ [S x] ++ (xs.map S).drop (i + 1))))]) hst12 hfr12 (.cons rfl (ob_move rfl) <| .cons rfl (ob_move rfl) <| .cons rfl (ob_move rfl) <| .cons rfl (ob_indexAddr rfl rfl Tryz.underlying41 Tryz.sizeOf9 rfl (by omega)) <| .consT rfl rfl (fun _ => rfl) rfl (ob_storeM1 (i := i) (xs := xs.map S) rfl rfl rfl Tryz.sizeOf9 (by omega) rfl) <| .nil) ?_
        intro a13 w13 m13 hst13 hle13 hk13
        have hfr13 := hk13.fr (T' := [(5, _), (6, _), (0, _), (1, _)]) (.old rfl rfl <| .old rfl rfl <| .old rfl rfl <| .old rfl rfl <| .nil)
        replace hst13 := hst13.fin (L' := [_, _]) (.cons rfl <| .nil)
        try simp only [List.take_succ_cons, List.take_zero, List.drop_succ_cons, List.drop_zero, List.cons_append, List.nil_append, List.append_nil, List.length_cons, List.length_nil, Nat.zero_add, Nat.reduceAdd] at hst13
        have hlh13 := hlh12.trans hle13
        clear hst12 hfr12 hk13
        rw [show (xs.map S).take i ++ [S x] ++ (xs.map S).drop (i + 1) = (xs.take i ++ [x] ++ xs.drop (i + 1)).map S by simp [List.map_append, List.map_take, List.map_drop]] at hst13
        refine hK15 _ _ ?_; clear hK15
        refine rp0 hst13 hfr13 (.cons rfl (ob_move rfl) <| .cons rfl (ob_add rfl rfl ⟨by omega, by omega⟩) <| .cons rfl (ob_assign rfl) <| .nil) ?_
        intro a14 w14 m14 hst14 hle14 hk14
        have hfr14 := hk14.fr (T' := [(6, _), (0, _), (1, _), (5, _)]) (.old rfl rfl <| .old rfl rfl <| .old rfl rfl <| .new rfl <| .nil)
        have hlh14 := hlh13.trans hle14
        clear hst13 hfr13 hk14
        rw [show ((i : Int) + 1) = ((i + 1 : Nat) : Int) by omega] at hfr14
        have hil : (xs.take i ++ [x]).length = i + 1 := by simp; omega
        refine hK12 _ _ ?_; clear hK12
        refine rp0 hst14 hfr14 (.cons rfl (ob_move rfl) <| .cons rfl (ob_add rfl rfl ⟨by omega, by omega⟩) <| .cons rfl (ob_assign rfl) <| .nil) ?_
        intro a15 w15 m15 hst15 hle15 hk15
        have hfr15 := hk15.fr (T' := [(0, _), (1, _), (5, _), (6, _)]) (.old rfl rfl <| .old rfl rfl <| .old rfl rfl <| .new rfl <| .nil)
        have hlh15 := hlh14.trans hle15
        clear hst14 hfr14 hk15
        rw [show ((y : Int) + 1) = ((y + 1 : Nat) : Int) by omega] at hfr15
        exact ⟨((xs.take i ++ [x] ++ xs.drop (i + 1)), (i + 1), (y + 1), (lf.erase x)), m15, by show l.length - (y + 1) < l.length - y; omega, ⟨hst15, hlh15, hfr15.sub (.cons rfl <| .cons rfl <| .cons rfl <| .cons rfl <| .nil), ⟨by show (xs.take i ++ [x] ++ xs.drop (i + 1)).length = l.length; simp only [List.length_append, List.length_take, List.length_drop, List.length_cons, List.length_nil]; omega, by dsimp only; rw [List.drop_append, hil, List.drop_of_length_le (by omega), List.nil_append, List.drop_drop, ← hdx]; congr 1; omega, by dsimp only; rw [List.take_append, hil, List.take_of_length_le (by omega), Nat.sub_self, List.take_zero, List.append_nil, hJm, hd9, moreS_out hin, List.erase_of_not_mem hin]; simp, by rw [hJr, hd9, restS], ⟨by (try dsimp only); omega, by (try dsimp only); omega⟩⟩⟩⟩
      · try simp only [nq1, nq2, nq3, nq4, nq5, nq6, nq7, nq8, nq9, u8_eq] at hb29
        have hin : x ∈ lf := by simpa using hb29
        refine wp_skip ?_
        refine hK12 _ _ ?_; clear hK12
        refine rp0 hst12 hfr12 (.cons rfl (ob_move rfl) <| .cons rfl (ob_add rfl rfl ⟨by omega, by omega⟩) <| .cons rfl (ob_assign rfl) <| .nil) ?_
        intro a13 w13 m13 hst13 hle13 hk13
        have hfr13 := hk13.fr (T' := [(5, _), (0, _), (1, _), (6, _)]) (.old rfl rfl <| .old rfl rfl <| .old rfl rfl <| .new rfl <| .nil)
        have hlh13 := hlh12.trans hle13
        clear hst12 hfr12 hk13
        rw [show ((y : Int) + 1) = ((y + 1 : Nat) : Int) by omega] at hfr13
        exact ⟨(xs, i, (y + 1), (lf.erase x)), m13, by show l.length - (y + 1) < l.length - y; omega, ⟨hst13, hlh13, hfr13.sub (.cons rfl <| .cons rfl <| .cons rfl <| .cons rfl <| .nil), ⟨hJl, hdx, by rw [hJm, hd9, moreS_in hin], by rw [hJr, hd9, restS], ⟨by (try dsimp only); omega, by (try dsimp only); omega⟩⟩⟩⟩
    · try simp only [nq1, nq2, nq3, nq4, nq5, nq6, nq7, nq8, nq9, u8_eq] at hb19
      have hge : y = l.length := by omega
      rw [List.drop_of_length_le (by omega)] at hJm hJr
      rw [moreS, List.append_nil] at hJm
      rw [restS] at hJr
      refine wp_exit ?_
      refine hK7 _ _ ?_; clear hK7
      refine seq_any fun _ hK16 => ?_
      refine ra0 (tch := [(3, 1, (fun _ => .mrow (.slice (some ⟨ga, 0, none⟩) l.length c) l.length 1 9 ((xs.map S).take i ++ List.replicate (l.length - i) (S []) ++ (xs.map S).drop (i + (l.length - i)))))]) hst8 hfr8 (.cons rfl (ob_move rfl) <| .cons rfl (ob_move rfl) <| .cons rfl (ob_sliceM (l := i) (h := l.length) rfl (.some rfl rfl) .none Tryz.underlying41 Tryz.sizeOf9 (by omega) (by omega) (by omega)) <| .consT rfl rfl (fun _ => rfl) rfl (ob_clearM (l := i) (k := l.length - i) (z := S []) rfl (by omega) (by omega) Tryz.underlying41 Tryz.zeroValue9 rfl rfl) <| .nil) ?_
      intro a9 w9 m9 hst9 hle9 hk9
      have hfr9 := hk9.fr (T' := [(5, _), (6, _), (0, _)]) (.old rfl rfl <| .old rfl rfl <| .old rfl rfl <| .nil)
      replace hst9 := hst9.fin (L' := [_, _]) (.cons rfl <| .nil)
      have hlh9 := hlh8.trans hle9
      clear hst8 hfr8 hk9
      refine hK16 _ _ ?_; clear hK16
      refine seq_any fun _ hK17 => ?_
      refine rp0 hst9 hfr9 (.cons rfl (ob_move rfl) <| .cons rfl (ob_move rfl) <| .cons rfl (ob_slice rfl .none (.some rfl rfl) Tryz.underlying41 Tryz.sizeOf9 (by omega) (by omega)) <| .cons rfl (ob_assign rfl) <| .nil) ?_
      intro a10 w10 m10 hst10 hle10 hk10
      have hfr10 := hk10.fr (T' := [(5, _), (6, _), (4, _)]) (.old rfl rfl <| .old rfl rfl <| .new rfl <| .nil)
      have hlh10 := hlh9.trans hle10
      clear hst9 hfr9 hk10
      have hil : (xs.take i).length = i := by rw [List.length_take]; omega
      have e8 : (.slice (if c = 0 then (some (⟨ga, 0, none⟩ : Addr)) else (some (⟨ga, 0, none⟩ : Addr)).map (·.add (0 * 1))) (i - 0) (c - 0) : Value) = .slice (some ⟨ga, 0, none⟩) i c := by rw [if_neg (by omega)]; simp [addr_add0]
      rw [e8] at hfr10
      have hst10 := hst10.take 2
      have e7 : WR (some ⟨ga, 0, none⟩, c) (moreS l left) = .mrow (.slice (some ⟨ga, 0, none⟩) i c) i 1 9 (((xs.map S).take i ++ List.replicate (l.length - i) (S []) ++ (xs.map S).drop (i + (l.length - i))).take i) := by unfold WR; rw [hJm, hil, List.append_assoc, List.take_append_of_le_length (by rw [List.length_take, List.length_map]; omega), List.take_take, Nat.min_self, List.map_take]
      replace hst10 := hst10.weaken (k := 1) (r' := WR (some ⟨ga, 0, none⟩, c) (moreS l left)) rfl (mBlock_n _ _ _ _) (fun h => by rw [e7]; exact mrow_cut h (by omega))
      simp only [List.take_succ_cons, List.take_zero, List.set_cons_succ, List.set_cons_zero] at hst10
      have hst10 : St G0 w m [WK g bs (restS l left), WR (some ⟨ga, 0, none⟩, c) (moreS l left)] w10 m10 := by rw [hJr]; exact hst10
      refine hK17 _ _ ?_; clear hK17
      refine wp_ret ?_
      repeat (with_reducible first | refine then_ret ?_ | refine block_ret ?_)
      exact fn_ret hst10 hfr10 rfl (.tmp rfl <| .nil) (⟨hst10.loc, by rw [hJm, hil]; rfl⟩)

theorem deleteW_r {w : World} {m : Mem} {o : Option Addr} {c : Nat} {l left : List Str} {g : Nat} {bs : List Nat} (hA : Agree w m) (h : Loc ([WK g bs left, WR (o, c) l].flatMap Res.blocks) w.heap.size [WK g bs left, WR (o, c) l] w m) :
    FnR Tryz.prog 90 #[.slice o l.length c, .func (.func 91) #[] #[.pointer (some ⟨g, 0, none⟩)]] [WK g bs left, WR (o, c) l] w m fun rs' _ v => rs' = [WK g bs (restS l left), WR (o, c) (moreS l left)] ∧ v = .slice o (moreS l left).length c :=
  FnG.mono (deleteW_g hA h) fun w' m' v _ ⟨h1, h2⟩ => ⟨_, h1, rfl, h2⟩
/-- The box, and the row in it, of which no more is known. -/
theorem St.packW {G0 : List Nat} {W : World} {mE : Mem} {w : World} {m : Mem} {g : Nat} {y : Option Addr × Nat} {l : List Str} (h : St G0 W mE [WB g y l, WR y l] w m) : St G0 W mE [WK g ([WB g y l, WR y l].flatMap Res.blocks) l] w m :=
  ⟨h.ext, wk_close rfl h.loc⟩

set_option maxHeartbeats 1600000 in
theorem without_c {w : World} {m : Mem} {o_l : Option Addr} {c_l : Nat} {l : List Str} {o_k : Option Addr} {c_k : Nat} {k : List Str} (hA : Agree w m) (h_l : Strs m o_l l.length c_l l) (h_k : Strs m o_k k.length c_k k) (hl : l.length ≤ 1000000000) (hk : k.length ≤ 1000000000) : FnV Tryz.prog 73 #[.slice o_l l.length c_l, .slice o_k k.length c_k] w m (fun _ m v => (MP.strs (moreS l k)).p m v) := by
  have hb_l := h_l.big; have hc_l := h_l.cap
  have hb_k := h_k.big; have hc_k := h_k.cap
  refine fn_enter (vs := [_, _]) Tryz.func73 rfl rfl rfl fun a0 hfr0 => ?_
  have hst0 := st_enter hA (loc_nil [] _ w m)
  have hM : MLe m m := MLe.refl m
  have hml := moreS_len l k
  refine seq_any fun _ hK1 => ?_
  replace hst0 := hst0.more (r := .free) trivial List.nodup_nil (by simp [Res.blocks])
  refine ra0 (tch := [(0, 0, (fun v => .blk v _))]) hst0 hfr0 (.consT rfl rfl (fun _ => rfl) rfl (ob_boxL rfl rfl) <| .cons rfl (ob_assign rfl) <| .nil) ?_
  intro a1 w1 m1 hst1 hle1 hk1
  have hfr1 := hk1.fr (T' := [(0, _)]) (.old rfl rfl <| .nil)
  obtain ⟨gB, e2, _⟩ := hk1.ex 3 rfl
  replace hfr1 := hfr1.cons e2
  replace hst1 := hst1.fin (L' := [_]) (.cons e2 <| .nil)
  replace h_l := h_l.mono hle1
  replace h_k := h_k.mono hle1
  replace hM := hM.trans hle1
  clear hst0 hfr0 hk1
  refine hK1 _ _ ?_; clear hK1
  refine seq_any fun _ hK3 => ?_
  refine region_cut 2 (by kernel_rfl) ?_
  replace hst1 := hst1.more (r := .free) trivial List.nodup_nil (by simp [Res.blocks])
  refine ops_seq (tch := [(1, 1, (fun v => .mrow v k.length 1 9 (k.map S)))]) hst1 hfr1 (by kernel_rfl) (by kernel_rfl) (by kernel_rfl) (.cons rfl (ob_loadL' (j := 0) rfl rfl Tryz.isAgg41 rfl) <| .consT rfl rfl (fun _ => rfl) rfl (ob_callT rfl (.cons rfl <| .nil) Tryz.call47 (κ := .ex (MP.made' k.length)) (fun σ w m hK hr hkn => by have hle_ := KC.le hK; have hA := KC.agree hK; have hM := hM.trans hle_; have h_l := h_l.mono hle_; have h_k := h_k.mono hle_; exact cloneS_t hA h_k (by omega))) <| .nil) ?_
  intro a2 w2 m2 hst2 hle2 hk2
  have hfr2 := hk2.fr (T' := [(0, _), (3, _)]) (.old rfl rfl <| .old rfl rfl <| .nil)
  obtain ⟨⟨oK, cK⟩, e4, hcK⟩ := hk2.ex 6 rfl
  replace hfr2 := hfr2.cons e4
  replace hst2 := hst2.fin (L' := [_, _]) (.cons e4 <| .nil)
  replace h_l := h_l.mono hle2
  replace h_k := h_k.mono hle2
  replace hM := hM.trans hle2
  clear hst1 hfr1 hk2
  refine ops_seq (tch := [(0, 0, (fun _ => .blk _ _))]) hst2 hfr2 (by kernel_rfl) (by kernel_rfl) (by kernel_rfl) (.consT rfl rfl (fun _ => rfl) rfl (ob_store' rfl rfl rfl Tryz.sizeOf41 rfl rfl rfl) <| .nil) ?_
  intro a3 w3 m3 hst3 hle3 hk3
  have hfr3 := hk3.fr (T' := [(0, _), (3, _), (6, _)]) (.old rfl rfl <| .old rfl rfl <| .old rfl rfl <| .nil)
  replace hst3 := hst3.fin (L' := [_, _]) (.cons rfl <| .nil)
  try simp only [List.take_succ_cons, List.take_zero, List.drop_succ_cons, List.drop_zero, List.cons_append, List.nil_append, List.append_nil, List.length_cons, List.length_nil, Nat.zero_add, Nat.reduceAdd] at hst3
  replace h_l := h_l.mono hle3
  replace h_k := h_k.mono hle3
  replace hM := hM.trans hle3
  clear hst2 hfr2 hk3
  have hst3 : St [] w m [WK gB _ k] w3 m3 := St.packW (y := (oK, cK)) hst3
  refine hK3 _ _ ?_; clear hK3
  refine seq_any fun _ hK5 => ?_
  refine region_cut 4 (by kernel_rfl) ?_
  refine ops_cut 3 (by kernel_rfl) ?_
  replace hst3 := hst3.more (r := .free) trivial List.nodup_nil (by simp [Res.blocks])
  refine ops_seq (tch := [(1, 1, (fun v => .mrow v l.length 1 9 (l.map S)))]) hst3 hfr3 (by kernel_rfl) (by kernel_rfl) (by kernel_rfl) (.cons rfl (ob_move rfl) <| .consT rfl rfl (fun _ => rfl) rfl (ob_callT rfl (.cons rfl <| .nil) Tryz.call47 (κ := .ex (MP.made' l.length)) (fun σ w m hK hr hkn => by have hle_ := KC.le hK; have hA := KC.agree hK; have hM := hM.trans hle_; have h_l := h_l.mono hle_; have h_k := h_k.mono hle_; exact cloneS_t hA h_l (by omega))) <| .cons rfl (ob_makeFunc (.cons rfl <| .nil)) <| .nil) ?_
  intro a4 w4 m4 hst4 hle4 hk4
  have hfr4 := hk4.fr (T' := [(0, _), (3, _), (6, _), (9, _)]) (.old rfl rfl <| .old rfl rfl <| .old rfl rfl <| .new rfl <| .nil)
  obtain ⟨⟨oL, cL⟩, e6, hcL⟩ := hk4.ex 8 rfl
  replace hfr4 := hfr4.cons e6
  replace hst4 := hst4.fin (L' := [_, _]) (.cons e6 <| .nil)
  clear hst3 hfr3 hk4
  refine call_res [] [] [_, _] hst4 hfr4 rfl (.cons rfl <| .cons rfl <| .nil) Tryz.call90 (deleteW_r hst4.agree (hst4.sub (A := []) (B := []) (rs := [_, _]))) ?_
  intro vr5 w5 m5 rs5 hst5 hle5 hp5
  obtain ⟨rfl, hvq9⟩ := hp5
  simp only [List.nil_append, List.cons_append] at hst5
  have hfr5 := (hfr4.sub (T' := [(0, _), (3, _), (6, _), (9, _), (8, _)]) (.cons rfl <| .cons rfl <| .cons rfl <| .cons rfl <| .cons rfl <| .nil)).put (d := 10) (v := vr5) (by kernel_rfl) rfl
  clear hst4 hfr4
  subst hvq9
  refine ops_seq (tch := []) hst5 hfr5 (by kernel_rfl) (by kernel_rfl) (by kernel_rfl) (.cons rfl (ob_assign rfl) <| .nil) ?_
  intro a6 w6 m6 hst6 hle6 hk6
  have hfr6 := hk6.fr (T' := [(10, _), (0, _), (3, _), (6, _), (9, _), (8, _), (4, _)]) (.old rfl rfl <| .old rfl rfl <| .old rfl rfl <| .old rfl rfl <| .old rfl rfl <| .old rfl rfl <| .new rfl <| .nil)
  clear hst5 hfr5 hk6
  obtain ⟨m7, hle7, hst7, oF_q, cF_q, eF_q, hcF_q, hmF_q, hrow_q⟩ := hst6.freeze (k := 1) rfl
  simp only [List.set_cons_succ, List.set_cons_zero] at hst7
  have hfr7 := hfr6; obtain ⟨a7, rfl⟩ : ∃ a, a = a6 := ⟨_, rfl⟩; obtain ⟨w7, rfl⟩ : ∃ w, w = w6 := ⟨_, rfl⟩
  clear hst6 hfr6
  obtain ⟨rfl, rfl⟩ : oL = oF_q ∧ cL = cF_q := by injection eF_q with q1 q2 q3; exact ⟨q1, q3⟩
  refine hK5 _ _ ?_; clear hK5
  refine wp_ret ?_
  repeat (with_reducible first | refine then_ret ?_ | refine block_ret ?_)
  exact fn_ret hst7 hfr7 rfl (.tmp rfl <| .nil) (⟨(oL, cL), rfl, Strs.of_row hrow_q rfl hcF_q (by omega)⟩)

end Go.Proofs.YtlidonjpgigocaaGreat
