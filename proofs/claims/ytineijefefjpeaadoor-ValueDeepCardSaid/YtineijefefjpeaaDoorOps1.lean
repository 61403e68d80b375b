/-
  Package value: the operators. Conditions: those of each theorem.
-/
import Derived.Test.YtineijefefjpeaaDoorMaps
import Derived.Test.YtineijefefjpeaaDoorRows
namespace Go.Proofs.YtineijefefjpeaaDoor
set_option linter.all false
open Go.RowKit
theorem mixed : Tryd.prog.follows .mixedOrders = true := by kernel_rfl
abbrev Vl (k n : Int) (s : Str) (ks : Value) : Value := .agg #[.int .i64 k, .int .i64 n, S s, ks]
abbrev nilK : Value := .slice none 0 0
set_option maxHeartbeats 400000 in
theorem number_c {w : World} {m : Mem} {n : Int} (hA : Agree w m) :
    FnV Tryd.prog 34 #[.int .i64 n] w m (fun _ _ v => v = Vl 1 n [] nilK) := by
  refine fn_enter (vs := [.int .i64 n]) Tryd.func34 rfl rfl rfl fun a0 hfr0 => ?_
  have hst0 := st_enter hA (loc_nil [] _ w m)
  refine seq_any fun K1 hK1 => ?_
  replace hst0 := hst0.more (r := .free) trivial List.nodup_nil (by simp [Res.blocks])
  refine region_any (tch := [(0, 0, (fun v => .blk v _))]) (fun h => by cases h) hst0 hfr0 (by kernel_rfl) (by kernel_rfl) (by kernel_rfl) (.consT rfl rfl (fun _ => rfl) rfl (ob_allocL Tryd.zeroValue24 rfl) <|
      .nil) ?_
  intro a1 w1 m1 hst1 hle1 hk1
  have hfr1 := hk1.fr (T' := [(0, _)]) (.old rfl rfl <| .nil)
  obtain ⟨g2, e2, _⟩ := hk1.ex 2 rfl
  replace hfr1 := hfr1.cons e2
  replace hst1 := hst1.fin (L' := [_]) (.cons e2 <| .nil)
  clear hst0 hfr0 hk1
  refine hK1 _ _ ?_; try clear hK1 K1
  refine seq_any fun K3 hK3 => ?_
  refine region_any (tch := [(2, 0, (fun _ => .blk _ _))]) (fun h => by cases h) hst1 hfr1 (by kernel_rfl) (by kernel_rfl) (by kernel_rfl) (.cons rfl (ob_move rfl) <|
      .cons rfl (ob_buildS (.cons rfl <| .cons rfl <| .nil) Tryd.underlying24 Tryd.zeroValue24 (.cons Tryd.sizeOf3 <| .cons Tryd.sizeOf3 <| .cons Tryd.sizeOf9 <| .cons Tryd.sizeOf22 <| .nil) rfl) <|
      .consT rfl rfl (fun _ => rfl) rfl (ob_store' rfl rfl rfl Tryd.sizeOf24 rfl rfl rfl) <|
      .nil) ?_
  intro a2 w2 m2 hst2 hle2 hk2
  have hfr2 := hk2.fr (T' := [(0, _), (2, _)]) (.old rfl rfl <| .old rfl rfl <| .nil)
  replace hst2 := hst2.fin (L' := [_]) (.cons rfl <| .nil)
  clear hst1 hfr1 hk2
  refine hK3 _ _ ?_; try clear hK3 K3
  refine wp_ret ?_
  repeat (with_reducible first | refine then_ret ?_ | refine block_ret ?_)
  exact fn_ret hst2 hfr2 rfl (.cell rfl (load_blk (blk_heap (hst2.loc.at_ (k := 0) rfl)) Tryd.isAgg24 Tryd.sizeOf24) <| .nil) (rfl)

set_option maxHeartbeats 400000 in
theorem truth_c {w : World} {m : Mem} {b : Bool} (hA : Agree w m) :
    FnV Tryd.prog 39 #[.bool b] w m (fun _ _ v => v = Vl 2 (if b then 1 else 0) [] nilK) := by
  refine fn_enter (vs := [.bool b]) Tryd.func39 rfl rfl rfl fun a0 hfr0 => ?_
  have hst0 := st_enter hA (loc_nil [] _ w m)
  refine seq_any fun K1 hK1 => ?_
  replace hst0 := hst0.more (r := .free) trivial List.nodup_nil (by simp [Res.blocks])
  refine region_any (tch := [(0, 0, (fun v => .blk v _))]) (fun h => by cases h) hst0 hfr0 (by kernel_rfl) (by kernel_rfl) (by kernel_rfl) (.consT rfl rfl (fun _ => rfl) rfl (ob_allocL Tryd.zeroValue24 rfl) <|
      .nil) ?_
  intro a1 w1 m1 hst1 hle1 hk1
  have hfr1 := hk1.fr (T' := [(0, _)]) (.old rfl rfl <| .nil)
  obtain ⟨g2, e2, _⟩ := hk1.ex 2 rfl
  replace hfr1 := hfr1.cons e2
  replace hst1 := hst1.fin (L' := [_]) (.cons e2 <| .nil)
  clear hst0 hfr0 hk1
  refine hK1 _ _ ?_; try clear hK1 K1
  refine seq_any fun K3 hK3 => ?_
  refine seq_any fun K4 hK4 => ?_
  refine region_plain (fun h => by cases h) hst1 hfr1 (by kernel_rfl) (by kernel_rfl) (.cons rfl (ob_move rfl) <|
      .nil) ?_
  intro a2 w2 m2 hst2 hle2 hk2
  have hfr2 := hk2.fr (T' := [(0, _), (2, _), (3, _)]) (.old rfl rfl <| .old rfl rfl <| .new rfl <| .nil)
  clear hst1 hfr1 hk2
  refine hK4 _ _ ?_; try clear hK4 K4
  refine cond_any hfr2 rfl rfl (fun hb3 => ?_) (fun hb3 => ?_)
  · subst hb3
    refine seq_any fun K5 hK5 => ?_
    refine region_any (tch := [(1, 0, (fun _ => .blk _ _))]) (fun h => by cases h) hst2 hfr2 (by kernel_rfl) (by kernel_rfl) (by kernel_rfl) (.cons rfl (ob_buildS (.cons rfl <| .cons rfl <| .nil) Tryd.underlying24 Tryd.zeroValue24 (.cons Tryd.sizeOf3 <| .cons Tryd.sizeOf3 <| .cons Tryd.sizeOf9 <| .cons Tryd.sizeOf22 <| .nil) rfl) <|
        .consT rfl rfl (fun _ => rfl) rfl (ob_store' rfl rfl rfl Tryd.sizeOf24 rfl rfl rfl) <|
        .nil) ?_
    intro a3 w3 m3 hst3 hle3 hk3
    have hfr3 := hk3.fr (T' := [(0, _), (2, _)]) (.old rfl rfl <| .old rfl rfl <| .nil)
    replace hst3 := hst3.fin (L' := [_]) (.cons rfl <| .nil)
    clear hst2 hfr2 hk3
    refine hK5 _ _ ?_; try clear hK5 K5
    refine wp_ret ?_
    repeat (with_reducible first | refine then_ret ?_ | refine block_ret ?_)
    exact fn_ret hst3 hfr3 rfl (.cell rfl (load_blk (blk_heap (hst3.loc.at_ (k := 0) rfl)) Tryd.isAgg24 Tryd.sizeOf24) <| .nil) (rfl)
  · subst hb3
    refine wp_skip ?_
    refine hK3 _ _ ?_; try clear hK3 K3
    refine seq_any fun K7 hK7 => ?_
    refine region_any (tch := [(1, 0, (fun _ => .blk _ _))]) (fun h => by cases h) hst2 hfr2 (by kernel_rfl) (by kernel_rfl) (by kernel_rfl) (.cons rfl (ob_buildS (.cons rfl <| .nil) Tryd.underlying24 Tryd.zeroValue24 (.cons Tryd.sizeOf3 <| .cons Tryd.sizeOf3 <| .cons Tryd.sizeOf9 <| .cons Tryd.sizeOf22 <| .nil) rfl) <|
        .consT rfl rfl (fun _ => rfl) rfl (ob_store' rfl rfl rfl Tryd.sizeOf24 rfl rfl rfl) <|
        .nil) ?_
    intro a3 w3 m3 hst3 hle3 hk3
    have hfr3 := hk3.fr (T' := [(0, _), (2, _)]) (.old rfl rfl <| .old rfl rfl <| .nil)
    replace hst3 := hst3.fin (L' := [_]) (.cons rfl <| .nil)
    clear hst2 hfr2 hk3
    refine hK7 _ _ ?_; try clear hK7 K7
    refine wp_ret ?_
    repeat (with_reducible first | refine then_ret ?_ | refine block_ret ?_)
    exact fn_ret hst3 hfr3 rfl (.cell rfl (load_blk (blk_heap (hst3.loc.at_ (k := 0) rfl)) Tryd.isAgg24 Tryd.sizeOf24) <| .nil) (rfl)

set_option maxHeartbeats 400000 in
theorem op_add {w : World} {m : Mem} {a b : Int} {p q : Addr} (hA : Agree w m) (hp : CellsAt m p [.int .i64 a]) (hq : CellsAt m q [.int .i64 b]) :
    FnV Tryd.prog 33 #[.pointer (some p), .pointer (some q)] w m (fun _ _ v => v = Vl 1 (IntKind.i64.wrap (a + b)) [] nilK) := by
  refine fn_enter (vs := [.pointer (some p), .pointer (some q)]) Tryd.func33 rfl rfl rfl fun a0 hfr0 => ?_
  have hst0 := st_enter hA (loc_nil [] _ w m)
  refine seq_any fun K1 hK1 => ?_
  replace hst0 := hst0.more (r := .free) trivial List.nodup_nil (by simp [Res.blocks])
  refine region_any (tch := [(0, 0, (fun v => .blk v _))]) (fun h => by cases h) hst0 hfr0 (by kernel_rfl) (by kernel_rfl) (by kernel_rfl) (.consT rfl rfl (fun _ => rfl) rfl (ob_allocL Tryd.zeroValue24 rfl) <|
      .nil) ?_
  intro a1 w1 m1 hst1 hle1 hk1
  have hfr1 := hk1.fr (T' := [(0, _), (1, _)]) (.old rfl rfl <| .old rfl rfl <| .nil)
  obtain ⟨g2, e2, _⟩ := hk1.ex 2 rfl
  replace hfr1 := hfr1.cons e2
  replace hst1 := hst1.fin (L' := [_]) (.cons e2 <| .nil)
  replace hp := hp.mono hle1
  replace hq := hq.mono hle1
  clear hst0 hfr0 hk1
  refine hK1 _ _ ?_; try clear hK1 K1
  refine seq_any fun K3 hK3 => ?_
  refine region_any (tch := [(4, 0, (fun _ => .blk _ _))]) (fun h => by cases h) hst1 hfr1 (by kernel_rfl) (by kernel_rfl) (by kernel_rfl) (.cons rfl (ob_load1' rfl hp Tryd.isAgg3 rfl) <|
      .cons rfl (ob_load1' rfl hq Tryd.isAgg3 rfl) <|
      .cons rfl (ob_addW rfl rfl) <|
      .cons rfl (ob_callE rfl (.cons rfl <| .nil) Tryd.call34 (fun w m hK => by exact number_c (KC.agree hK))) <|
      .consT rfl rfl (fun _ => rfl) rfl (ob_store' rfl rfl rfl Tryd.sizeOf24 rfl rfl rfl) <|
      .nil) ?_
  intro a2 w2 m2 hst2 hle2 hk2
  have hfr2 := hk2.fr (T' := [(0, _), (1, _), (2, _)]) (.old rfl rfl <| .old rfl rfl <| .old rfl rfl <| .nil)
  replace hst2 := hst2.fin (L' := [_]) (.cons rfl <| .nil)
  replace hp := hp.mono hle2
  replace hq := hq.mono hle2
  clear hst1 hfr1 hk2
  refine hK3 _ _ ?_; try clear hK3 K3
  refine wp_ret ?_
  repeat (with_reducible first | refine then_ret ?_ | refine block_ret ?_)
  exact fn_ret hst2 hfr2 rfl (.cell rfl (load_blk (blk_heap (hst2.loc.at_ (k := 0) rfl)) Tryd.isAgg24 Tryd.sizeOf24) <| .nil) (rfl)

set_option maxHeartbeats 400000 in
theorem op_sub {w : World} {m : Mem} {a b : Int} {p q : Addr} (hA : Agree w m) (hp : CellsAt m p [.int .i64 a]) (hq : CellsAt m q [.int .i64 b]) :
    FnV Tryd.prog 35 #[.pointer (some p), .pointer (some q)] w m (fun _ _ v => v = Vl 1 (IntKind.i64.wrap (a - b)) [] nilK) := by
  refine fn_enter (vs := [.pointer (some p), .pointer (some q)]) Tryd.func35 rfl rfl rfl fun a0 hfr0 => ?_
  have hst0 := st_enter hA (loc_nil [] _ w m)
  refine seq_any fun K1 hK1 => ?_
  replace hst0 := hst0.more (r := .free) trivial List.nodup_nil (by simp [Res.blocks])
  refine region_any (tch := [(0, 0, (fun v => .blk v _))]) (fun h => by cases h) hst0 hfr0 (by kernel_rfl) (by kernel_rfl) (by kernel_rfl) (.consT rfl rfl (fun _ => rfl) rfl (ob_allocL Tryd.zeroValue24 rfl) <|
      .nil) ?_
  intro a1 w1 m1 hst1 hle1 hk1
  have hfr1 := hk1.fr (T' := [(0, _), (1, _)]) (.old rfl rfl <| .old rfl rfl <| .nil)
  obtain ⟨g2, e2, _⟩ := hk1.ex 2 rfl
  replace hfr1 := hfr1.cons e2
  replace hst1 := hst1.fin (L' := [_]) (.cons e2 <| .nil)
  replace hp := hp.mono hle1
  replace hq := hq.mono hle1
  clear hst0 hfr0 hk1
  refine hK1 _ _ ?_; try clear hK1 K1
  refine seq_any fun K3 hK3 => ?_
  refine region_any (tch := [(4, 0, (fun _ => .blk _ _))]) (fun h => by cases h) hst1 hfr1 (by kernel_rfl) (by kernel_rfl) (by kernel_rfl) (.cons rfl (ob_load1' rfl hp Tryd.isAgg3 rfl) <|
      .cons rfl (ob_load1' rfl hq Tryd.isAgg3 rfl) <|
      .cons rfl (ob_subW rfl rfl) <|
      .cons rfl (ob_callE rfl (.cons rfl <| .nil) Tryd.call34 (fun w m hK => by exact number_c (KC.agree hK))) <|
      .consT rfl rfl (fun _ => rfl) rfl (ob_store' rfl rfl rfl Tryd.sizeOf24 rfl rfl rfl) <|
      .nil) ?_
  intro a2 w2 m2 hst2 hle2 hk2
  have hfr2 := hk2.fr (T' := [(0, _), (1, _), (2, _)]) (.old rfl rfl <| .old rfl rfl <| .old rfl rfl <| .nil)
  replace hst2 := hst2.fin (L' := [_]) (.cons rfl <| .nil)
  replace hp := hp.mono hle2
  replace hq := hq.mono hle2
  clear hst1 hfr1 hk2
  refine hK3 _ _ ?_; try clear hK3 K3
  refine wp_ret ?_
  repeat (with_reducible first | refine then_ret ?_ | refine block_ret ?_)
  exact fn_ret hst2 hfr2 rfl (.cell rfl (load_blk (blk_heap (hst2.loc.at_ (k := 0) rfl)) Tryd.isAgg24 Tryd.sizeOf24) <| .nil) (rfl)

set_option maxHeartbeats 400000 in
theorem op_mul {w : World} {m : Mem} {a b : Int} {p q : Addr} (hA : Agree w m) (hp : CellsAt m p [.int .i64 a]) (hq : CellsAt m q [.int .i64 b]) :
    FnV Tryd.prog 36 #[.pointer (some p), .pointer (some q)] w m (fun _ _ v => v = Vl 1 (IntKind.i64.wrap (a * b)) [] nilK) := by
  refine fn_enter (vs := [.pointer (some p), .pointer (some q)]) Tryd.func36 rfl rfl rfl fun a0 hfr0 => ?_
  have hst0 := st_enter hA (loc_nil [] _ w m)
  refine seq_any fun K1 hK1 => ?_
  replace hst0 := hst0.more (r := .free) trivial List.nodup_nil (by simp [Res.blocks])
  refine region_any (tch := [(0, 0, (fun v => .blk v _))]) (fun h => by cases h) hst0 hfr0 (by kernel_rfl) (by kernel_rfl) (by kernel_rfl) (.consT rfl rfl (fun _ => rfl) rfl (ob_allocL Tryd.zeroValue24 rfl) <|
      .nil) ?_
  intro a1 w1 m1 hst1 hle1 hk1
  have hfr1 := hk1.fr (T' := [(0, _), (1, _)]) (.old rfl rfl <| .old rfl rfl <| .nil)
  obtain ⟨g2, e2, _⟩ := hk1.ex 2 rfl
  replace hfr1 := hfr1.cons e2
  replace hst1 := hst1.fin (L' := [_]) (.cons e2 <| .nil)
  replace hp := hp.mono hle1
  replace hq := hq.mono hle1
  clear hst0 hfr0 hk1
  refine hK1 _ _ ?_; try clear hK1 K1
  refine seq_any fun K3 hK3 => ?_
  refine region_any (tch := [(4, 0, (fun _ => .blk _ _))]) (fun h => by cases h) hst1 hfr1 (by kernel_rfl) (by kernel_rfl) (by kernel_rfl) (.cons rfl (ob_load1' rfl hp Tryd.isAgg3 rfl) <|
      .cons rfl (ob_load1' rfl hq Tryd.isAgg3 rfl) <|
      .cons rfl (ob_mulW rfl rfl) <|
      .cons rfl (ob_callE rfl (.cons rfl <| .nil) Tryd.call34 (fun w m hK => by exact number_c (KC.agree hK))) <|
      .consT rfl rfl (fun _ => rfl) rfl (ob_store' rfl rfl rfl Tryd.sizeOf24 rfl rfl rfl) <|
      .nil) ?_
  intro a2 w2 m2 hst2 hle2 hk2
  have hfr2 := hk2.fr (T' := [(0, _), (1, _), (2, _)]) (.old rfl rfl <| .old rfl rfl <| .old rfl rfl <| .nil)
  replace hst2 := hst2.fin (L' := [_]) (.cons rfl <| .nil)
  replace hp := hp.mono hle2
  replace hq := hq.mono hle2
  clear hst1 hfr1 hk2
  refine hK3 _ _ ?_; try clear hK3 K3
  refine wp_ret ?_
  repeat (with_reducible first | refine then_ret ?_ | refine block_ret ?_)
  exact fn_ret hst2 hfr2 rfl (.cell rfl (load_blk (blk_heap (hst2.loc.at_ (k := 0) rfl)) Tryd.isAgg24 Tryd.sizeOf24) <| .nil) (rfl)

set_option maxHeartbeats 400000 in
theorem op_quo {w : World} {m : Mem} {a b : Int} {p q : Addr} (hA : Agree w m) (hp : CellsAt m p [.int .i64 a]) (hq : CellsAt m q [.int .i64 b]) (hb : b ≠ 0) :
    FnV Tryd.prog 37 #[.pointer (some p), .pointer (some q)] w m (fun _ _ v => v = Vl 1 (IntKind.i64.wrap (a.tdiv b)) [] nilK) := by
  refine fn_enter (vs := [.pointer (some p), .pointer (some q)]) Tryd.func37 rfl rfl rfl fun a0 hfr0 => ?_
  have hst0 := st_enter hA (loc_nil [] _ w m)
  refine seq_any fun K1 hK1 => ?_
  replace hst0 := hst0.more (r := .free) trivial List.nodup_nil (by simp [Res.blocks])
  refine region_any (tch := [(0, 0, (fun v => .blk v _))]) (fun h => by cases h) hst0 hfr0 (by kernel_rfl) (by kernel_rfl) (by kernel_rfl) (.consT rfl rfl (fun _ => rfl) rfl (ob_allocL Tryd.zeroValue24 rfl) <|
      .nil) ?_
  intro a1 w1 m1 hst1 hle1 hk1
  have hfr1 := hk1.fr (T' := [(0, _), (1, _)]) (.old rfl rfl <| .old rfl rfl <| .nil)
  obtain ⟨g2, e2, _⟩ := hk1.ex 2 rfl
  replace hfr1 := hfr1.cons e2
  replace hst1 := hst1.fin (L' := [_]) (.cons e2 <| .nil)
  replace hp := hp.mono hle1
  replace hq := hq.mono hle1
  clear hst0 hfr0 hk1
  refine hK1 _ _ ?_; try clear hK1 K1
  refine seq_any fun K3 hK3 => ?_
  refine region_any (tch := [(4, 0, (fun _ => .blk _ _))]) (fun h => by cases h) hst1 hfr1 (by kernel_rfl) (by kernel_rfl) (by kernel_rfl) (.cons rfl (ob_load1' rfl hp Tryd.isAgg3 rfl) <|
      .cons rfl (ob_load1' rfl hq Tryd.isAgg3 rfl) <|
      .cons rfl (ob_quoW rfl rfl hb) <|
      .cons rfl (ob_callE rfl (.cons rfl <| .nil) Tryd.call34 (fun w m hK => by exact number_c (KC.agree hK))) <|
      .consT rfl rfl (fun _ => rfl) rfl (ob_store' rfl rfl rfl Tryd.sizeOf24 rfl rfl rfl) <|
      .nil) ?_
  intro a2 w2 m2 hst2 hle2 hk2
  have hfr2 := hk2.fr (T' := [(0, _), (1, _), (2, _)]) (.old rfl rfl <| .old rfl rfl <| .old rfl rfl <| .nil)
  replace hst2 := hst2.fin (L' := [_]) (.cons rfl <| .nil)
  replace hp := hp.mono hle2
  replace hq := hq.mono hle2
  clear hst1 hfr1 hk2
  refine hK3 _ _ ?_; try clear hK3 K3
  refine wp_ret ?_
  repeat (with_reducible first | refine then_ret ?_ | refine block_ret ?_)
  exact fn_ret hst2 hfr2 rfl (.cell rfl (load_blk (blk_heap (hst2.loc.at_ (k := 0) rfl)) Tryd.isAgg24 Tryd.sizeOf24) <| .nil) (rfl)

set_option maxHeartbeats 400000 in
theorem op_lss {w : World} {m : Mem} {a b : Int} {p q : Addr} (hA : Agree w m) (hp : CellsAt m p [.int .i64 a]) (hq : CellsAt m q [.int .i64 b]) :
    FnV Tryd.prog 38 #[.pointer (some p), .pointer (some q)] w m (fun _ _ v => v = Vl 2 (if decide (a < b) then 1 else 0) [] nilK) := by
  refine fn_enter (vs := [.pointer (some p), .pointer (some q)]) Tryd.func38 rfl rfl rfl fun a0 hfr0 => ?_
  have hst0 := st_enter hA (loc_nil [] _ w m)
  refine seq_any fun K1 hK1 => ?_
  replace hst0 := hst0.more (r := .free) trivial List.nodup_nil (by simp [Res.blocks])
  refine region_any (tch := [(0, 0, (fun v => .blk v _))]) (fun h => by cases h) hst0 hfr0 (by kernel_rfl) (by kernel_rfl) (by kernel_rfl) (.consT rfl rfl (fun _ => rfl) rfl (ob_allocL Tryd.zeroValue24 rfl) <|
      .nil) ?_
  intro a1 w1 m1 hst1 hle1 hk1
  have hfr1 := hk1.fr (T' := [(0, _), (1, _)]) (.old rfl rfl <| .old rfl rfl <| .nil)
  obtain ⟨g2, e2, _⟩ := hk1.ex 2 rfl
  replace hfr1 := hfr1.cons e2
  replace hst1 := hst1.fin (L' := [_]) (.cons e2 <| .nil)
  replace hp := hp.mono hle1
  replace hq := hq.mono hle1
  clear hst0 hfr0 hk1
  refine hK1 _ _ ?_; try clear hK1 K1
  refine seq_any fun K3 hK3 => ?_
  refine region_any (tch := [(4, 0, (fun _ => .blk _ _))]) (fun h => by cases h) hst1 hfr1 (by kernel_rfl) (by kernel_rfl) (by kernel_rfl) (.cons rfl (ob_load1' rfl hp Tryd.isAgg3 rfl) <|
      .cons rfl (ob_load1' rfl hq Tryd.isAgg3 rfl) <|
      .cons rfl (ob_lss rfl rfl) <|
      .cons rfl (ob_callE rfl (.cons rfl <| .nil) Tryd.call39 (fun w m hK => by exact truth_c (KC.agree hK))) <|
      .consT rfl rfl (fun _ => rfl) rfl (ob_store' rfl rfl rfl Tryd.sizeOf24 rfl rfl rfl) <|
      .nil) ?_
  intro a2 w2 m2 hst2 hle2 hk2
  have hfr2 := hk2.fr (T' := [(0, _), (1, _), (2, _)]) (.old rfl rfl <| .old rfl rfl <| .old rfl rfl <| .nil)
  replace hst2 := hst2.fin (L' := [_]) (.cons rfl <| .nil)
  replace hp := hp.mono hle2
  replace hq := hq.mono hle2
  clear hst1 hfr1 hk2
  refine hK3 _ _ ?_; try clear hK3 K3
  refine wp_ret ?_
  repeat (with_reducible first | refine then_ret ?_ | refine block_ret ?_)
  exact fn_ret hst2 hfr2 rfl (.cell rfl (load_blk (blk_heap (hst2.loc.at_ (k := 0) rfl)) Tryd.isAgg24 Tryd.sizeOf24) <| .nil) (rfl)

set_option maxHeartbeats 400000 in
theorem op_eql {w : World} {m : Mem} {a b : Int} {p q : Addr} (hA : Agree w m) (hp : CellsAt m p [.int .i64 a]) (hq : CellsAt m q [.int .i64 b]) :
    FnV Tryd.prog 40 #[.pointer (some p), .pointer (some q)] w m (fun _ _ v => v = Vl 2 (if decide (a = b) then 1 else 0) [] nilK) := by
  refine fn_enter (vs := [.pointer (some p), .pointer (some q)]) Tryd.func40 rfl rfl rfl fun a0 hfr0 => ?_
  have hst0 := st_enter hA (loc_nil [] _ w m)
  refine seq_any fun K1 hK1 => ?_
  replace hst0 := hst0.more (r := .free) trivial List.nodup_nil (by simp [Res.blocks])
  refine region_any (tch := [(0, 0, (fun v => .blk v _))]) (fun h => by cases h) hst0 hfr0 (by kernel_rfl) (by kernel_rfl) (by kernel_rfl) (.consT rfl rfl (fun _ => rfl) rfl (ob_allocL Tryd.zeroValue24 rfl) <|
      .nil) ?_
  intro a1 w1 m1 hst1 hle1 hk1
  have hfr1 := hk1.fr (T' := [(0, _), (1, _)]) (.old rfl rfl <| .old rfl rfl <| .nil)
  obtain ⟨g2, e2, _⟩ := hk1.ex 2 rfl
  replace hfr1 := hfr1.cons e2
  replace hst1 := hst1.fin (L' := [_]) (.cons e2 <| .nil)
  replace hp := hp.mono hle1
  replace hq := hq.mono hle1
  clear hst0 hfr0 hk1
  refine hK1 _ _ ?_; try clear hK1 K1
  refine seq_any fun K3 hK3 => ?_
  refine region_any (tch := [(4, 0, (fun _ => .blk _ _))]) (fun h => by cases h) hst1 hfr1 (by kernel_rfl) (by kernel_rfl) (by kernel_rfl) (.cons rfl (ob_load1' rfl hp Tryd.isAgg3 rfl) <|
      .cons rfl (ob_load1' rfl hq Tryd.isAgg3 rfl) <|
      .cons rfl (ob_eql rfl rfl) <|
      .cons rfl (ob_callE rfl (.cons rfl <| .nil) Tryd.call39 (fun w m hK => by exact truth_c (KC.agree hK))) <|
      .consT rfl rfl (fun _ => rfl) rfl (ob_store' rfl rfl rfl Tryd.sizeOf24 rfl rfl rfl) <|
      .nil) ?_
  intro a2 w2 m2 hst2 hle2 hk2
  have hfr2 := hk2.fr (T' := [(0, _), (1, _), (2, _)]) (.old rfl rfl <| .old rfl rfl <| .old rfl rfl <| .nil)
  replace hst2 := hst2.fin (L' := [_]) (.cons rfl <| .nil)
  replace hp := hp.mono hle2
  replace hq := hq.mono hle2
  clear hst1 hfr1 hk2
  refine hK3 _ _ ?_; try clear hK3 K3
  refine wp_ret ?_
  repeat (with_reducible first | refine then_ret ?_ | refine block_ret ?_)
  exact fn_ret hst2 hfr2 rfl (.cell rfl (load_blk (blk_heap (hst2.loc.at_ (k := 0) rfl)) Tryd.isAgg24 Tryd.sizeOf24) <| .nil) (rfl)

/-- What an operator makes of two numbers. -/
def opRes (s : Str) (a b : Int) : Value × Bool :=
  if s = [43] then (Vl 1 (IntKind.i64.wrap (a + b)) [] nilK, true) else if s = [45] then (Vl 1 (IntKind.i64.wrap (a - b)) [] nilK, true) else if s = [42] then (Vl 1 (IntKind.i64.wrap (a * b)) [] nilK, true)
  else if s = [47] then (if b = 0 then (Vl 0 0 [] nilK, false) else (Vl 1 (IntKind.i64.wrap (a.tdiv b)) [] nilK, true))
  else if s = [60] then (Vl 2 (if decide (a < b) then 1 else 0) [] nilK, true) else if s = [61] then (Vl 2 (if decide (a = b) then 1 else 0) [] nilK, true) else (Vl 0 0 [] nilK, false)
theorem op_cases (s : Str) : s = [43] ∨ s = [45] ∨ s = [42] ∨ s = [47] ∨ s = [60] ∨ s = [61] ∨ (s ≠ [43] ∧ s ≠ [45] ∧ s ≠ [42] ∧ s ≠ [47] ∧ s ≠ [60] ∧ s ≠ [61]) := by
  by_cases h1 : s = [43] <;> by_cases h2 : s = [45] <;> by_cases h3 : s = [42] <;> by_cases h4 : s = [47] <;> by_cases h5 : s = [60] <;> by_cases h6 : s = [61] <;> simp [h1, h2, h3, h4, h5, h6]

set_option maxHeartbeats 400000 in
theorem op_c {w : World} {m : Mem} {s : Str} {a b : Int} (hA : Agree w m) :
    FnV Tryd.prog 20 #[S s, .int .i64 a, .int .i64 b] w m (fun _ _ v => v = .tuple #[(opRes s a b).1, .bool (opRes s a b).2]) := by
  refine fn_enter (vs := [S s, .int .i64 a, .int .i64 b]) Tryd.func20 rfl rfl rfl fun a0 hfr0 => ?_
  have hst0 := st_enter hA (loc_nil [] _ w m)
  refine seq_any fun K1 hK1 => ?_
  replace hst0 := hst0.more (r := .free) trivial List.nodup_nil (by simp [Res.blocks])
  refine region_any (tch := [(2, 0, (fun v => .blk v _))]) (fun h => by cases h) hst0 hfr0 (by kernel_rfl) (by kernel_rfl) (by kernel_rfl) (.cons rfl (ob_box rfl rfl) <|
      .cons rfl (ob_box rfl rfl) <|
      .consT rfl rfl (fun _ => rfl) rfl (ob_allocL Tryd.zeroValue24 rfl) <|
      .cons rfl (ob_assign rfl) <|
      .nil) ?_
  intro a1 w1 m1 hst1 hle1 hk1
  have hfr1 := hk1.fr (T' := [(0, _), (1, _), (2, _), (7, _)]) (.old rfl rfl <| .old rfl rfl <| .old rfl rfl <| .new rfl <| .nil)
  obtain ⟨gx, e2, hc4⟩ := hk1.ex 4 rfl
  replace hfr1 := hfr1.cons e2
  obtain ⟨gy, e3, hc5⟩ := hk1.ex 5 rfl
  replace hfr1 := hfr1.cons e3
  obtain ⟨g4, e4, _⟩ := hk1.ex 6 rfl
  replace hfr1 := hfr1.cons e4
  replace hst1 := hst1.fin (L' := [_]) (.cons e4 <| .nil)
  clear hst0 hfr0 hk1
  refine hK1 _ _ ?_; try clear hK1 K1
  refine seq_any fun K5 hK5 => ?_
  replace hst1 := hst1.more (r := .free) trivial List.nodup_nil (by simp [Res.blocks])
  refine region_seq (tch := [(0, 1, (fun v => .map v _)), (2, 1, (fun v => .map v _)), (4, 1, (fun v => .map v _)), (6, 1, (fun v => .map v _)), (8, 1, (fun v => .map v _)), (10, 1, (fun v => .map v _)), (12, 1, (fun v => .map v _))]) hst1 hfr1 (by kernel_rfl) (by kernel_rfl) (by kernel_rfl) (.consT rfl rfl (fun _ => rfl) rfl (ob_makeMapK S) <|
      .cons rfl (ob_makeFunc (.cons rfl <| .cons rfl <| .nil)) <|
      .consT rfl rfl (fun _ => rfl) rfl (ob_insertF keys_S rfl rfl rfl Tryd.underlying50 Tryd.underlying9) <|
      .cons rfl (ob_makeFunc (.cons rfl <| .cons rfl <| .nil)) <|
      .consT rfl rfl (fun _ => rfl) rfl (ob_insertF keys_S rfl rfl rfl Tryd.underlying50 Tryd.underlying9) <|
      .cons rfl (ob_makeFunc (.cons rfl <| .cons rfl <| .nil)) <|
      .consT rfl rfl (fun _ => rfl) rfl (ob_insertF keys_S rfl rfl rfl Tryd.underlying50 Tryd.underlying9) <|
      .cons rfl (ob_makeFunc (.cons rfl <| .cons rfl <| .nil)) <|
      .consT rfl rfl (fun _ => rfl) rfl (ob_insertF keys_S rfl rfl rfl Tryd.underlying50 Tryd.underlying9) <|
      .cons rfl (ob_makeFunc (.cons rfl <| .cons rfl <| .nil)) <|
      .consT rfl rfl (fun _ => rfl) rfl (ob_insertF keys_S rfl rfl rfl Tryd.underlying50 Tryd.underlying9) <|
      .cons rfl (ob_makeFunc (.cons rfl <| .cons rfl <| .nil)) <|
      .consT rfl rfl (fun _ => rfl) rfl (ob_insertF keys_S rfl rfl rfl Tryd.underlying50 Tryd.underlying9) <|
      .consA 11 rfl rfl <|
      .consA 18 rfl rfl <|
      .nil) ?_
  intro a2 w2 m2 hst2 hle2 hk2
  have hfr2 := hk2.fr (T' := [(0, _), (1, _), (2, _), (7, _), (4, _), (5, _), (6, _)]) (.old rfl rfl <| .old rfl rfl <| .old rfl rfl <| .old rfl rfl <| .old rfl rfl <| .old rfl rfl <| .old rfl rfl <| .nil)
  obtain ⟨gm, e6, _⟩ := hk2.ex 11 rfl
  replace hfr2 := hfr2.cons e6
  have es7 := hk2.same 18 rfl e6
  replace hfr2 := hfr2.cons (hk2.same 8 rfl es7)
  replace hst2 := hst2.fin (L' := [_, _]) (.cons e6 <| .cons e6 <| .cons e6 <| .cons e6 <| .cons e6 <| .cons e6 <| .cons e6 <| .nil)
  replace hc4 := hc4.mono hle2
  replace hc5 := hc5.mono hle2
  clear hst1 hfr1 hk2
  refine hK5 _ _ ?_; try clear hK5 K5
  refine seq_any fun K8 hK8 => ?_
  rcases op_cases s with rfl | rfl | rfl | rfl | rfl | rfl | ⟨h1, h2, h3, h4, h5, h6⟩
  · skip
    refine region_plain (fun h => by cases h) hst2 hfr2 (by kernel_rfl) (by kernel_rfl) (.cons rfl (ob_move rfl) <|
        .cons rfl (ob_move rfl) <|
        .cons rfl (ob_lookup (j := 1) (v := .func (.func 33) #[] #[.pointer (some ⟨gx, 0, none⟩), .pointer (some ⟨gy, 0, none⟩)]) (b := true) keys_S rfl rfl rfl Tryd.underlying50 Tryd.underlying9 Tryd.zeroValue48 rfl) <|
        .cons rfl (ob_move rfl) <|
        .cons rfl (ob_extract rfl rfl) <|
        .cons rfl (ob_extract rfl rfl) <|
        .cons rfl (ob_assign rfl) <|
        .cons rfl (ob_assign rfl) <|
        .nil) ?_
    intro a3 w3 m3 hst3 hle3 hk3
    have hfr3 := hk3.fr (T' := [(0, _), (1, _), (2, _), (7, _), (4, _), (5, _), (6, _), (8, _), (9, _), (10, _)]) (.old rfl rfl <| .old rfl rfl <| .old rfl rfl <| .old rfl rfl <| .old rfl rfl <| .old rfl rfl <| .old rfl rfl <| .old rfl rfl <| .new rfl <| .new rfl <| .nil)
    replace hc4 := hc4.mono hle3
    replace hc5 := hc5.mono hle3
    clear hst2 hfr2 hk3
    refine hK8 _ _ ?_; try clear hK8 K8
    refine seq_any fun K9 hK9 => ?_
    refine seq_any fun K10 hK10 => ?_
    refine region_plain (fun h => by cases h) hst3 hfr3 (by kernel_rfl) (by kernel_rfl) (.cons rfl (ob_move rfl) <|
        .cons rfl (ob_not rfl) <|
        .cons rfl (ob_move rfl) <|
        .cons rfl (ob_move rfl) <|
        .cons rfl (ob_seql rfl rfl) <|
        .cons rfl (ob_move rfl) <|
        .cons rfl (ob_load1' rfl hc5 Tryd.isAgg3 rfl) <|
        .cons rfl (ob_eql rfl rfl) <|
        .cons rfl (ob_and rfl rfl rfl) <|
        .cons rfl (ob_or rfl rfl rfl) <|
        .nil) ?_
    intro a4 w4 m4 hst4 hle4 hk4
    have hfr4 := hk4.fr (T' := [(0, _), (1, _), (2, _), (7, _), (4, _), (5, _), (6, _), (8, _), (9, _), (10, _), (34, _)]) (.old rfl rfl <| .old rfl rfl <| .old rfl rfl <| .old rfl rfl <| .old rfl rfl <| .old rfl rfl <| .old rfl rfl <| .old rfl rfl <| .old rfl rfl <| .old rfl rfl <| .new rfl <| .nil)
    replace hc4 := hc4.mono hle4
    replace hc5 := hc5.mono hle4
    clear hst3 hfr3 hk4
    refine hK10 _ _ ?_; try clear hK10 K10
    refine cond_any hfr4 rfl rfl (fun hb34 => ?_) (fun hb34 => ?_)
    · simp at hb34
    · refine wp_skip ?_
      refine hK9 _ _ ?_; try clear hK9 K9
      refine seq_any fun K11 hK11 => ?_
      refine region_any (tch := [(2, 0, (fun _ => .blk _ _))]) (fun h => by cases h) hst4 hfr4 (by kernel_rfl) (by kernel_rfl) (by kernel_rfl) (.cons rfl (ob_move rfl) <|
          .cons rfl (ob_callE rfl (.nil) Tryd.call33 (fun w m hK => by exact op_add (KC.agree hK) (hc4.mono (KC.le hK)) (hc5.mono (KC.le hK)))) <|
          .consT rfl rfl (fun _ => rfl) rfl (ob_store' rfl rfl rfl Tryd.sizeOf24 rfl rfl rfl) <|
          .cons rfl (ob_assign rfl) <|
          .nil) ?_
      intro a5 w5 m5 hst5 hle5 hk5
      have hfr5 := hk5.fr (T' := [(0, _), (1, _), (2, _), (4, _), (5, _), (6, _), (8, _), (9, _), (10, _), (7, _)]) (.old rfl rfl <| .old rfl rfl <| .old rfl rfl <| .old rfl rfl <| .old rfl rfl <| .old rfl rfl <| .old rfl rfl <| .old rfl rfl <| .old rfl rfl <| .new rfl <| .nil)
      replace hst5 := hst5.fin (L' := [_, _]) (.cons rfl <| .nil)
      replace hc4 := hc4.mono hle5
      replace hc5 := hc5.mono hle5
      clear hst4 hfr4 hk5
      refine hK11 _ _ ?_; try clear hK11 K11
      refine wp_ret ?_
      repeat (with_reducible first | refine then_ret ?_ | refine block_ret ?_)
      exact fn_ret hst5 hfr5 rfl (.cell rfl (load_blk (blk_heap (hst5.loc.at_ (k := 0) rfl)) Tryd.isAgg24 Tryd.sizeOf24) <| .tmp rfl <| .nil) (by simp [opRes, bundle])
  · skip
    refine region_plain (fun h => by cases h) hst2 hfr2 (by kernel_rfl) (by kernel_rfl) (.cons rfl (ob_move rfl) <|
        .cons rfl (ob_move rfl) <|
        .cons rfl (ob_lookup (j := 1) (v := .func (.func 35) #[] #[.pointer (some ⟨gx, 0, none⟩), .pointer (some ⟨gy, 0, none⟩)]) (b := true) keys_S rfl rfl rfl Tryd.underlying50 Tryd.underlying9 Tryd.zeroValue48 rfl) <|
        .cons rfl (ob_move rfl) <|
        .cons rfl (ob_extract rfl rfl) <|
        .cons rfl (ob_extract rfl rfl) <|
        .cons rfl (ob_assign rfl) <|
        .cons rfl (ob_assign rfl) <|
        .nil) ?_
    intro a3 w3 m3 hst3 hle3 hk3
    have hfr3 := hk3.fr (T' := [(0, _), (1, _), (2, _), (7, _), (4, _), (5, _), (6, _), (8, _), (9, _), (10, _)]) (.old rfl rfl <| .old rfl rfl <| .old rfl rfl <| .old rfl rfl <| .old rfl rfl <| .old rfl rfl <| .old rfl rfl <| .old rfl rfl <| .new rfl <| .new rfl <| .nil)
    replace hc4 := hc4.mono hle3
    replace hc5 := hc5.mono hle3
    clear hst2 hfr2 hk3
    refine hK8 _ _ ?_; try clear hK8 K8
    refine seq_any fun K13 hK13 => ?_
    refine seq_any fun K14 hK14 => ?_
    refine region_plain (fun h => by cases h) hst3 hfr3 (by kernel_rfl) (by kernel_rfl) (.cons rfl (ob_move rfl) <|
        .cons rfl (ob_not rfl) <|
        .cons rfl (ob_move rfl) <|
        .cons rfl (ob_move rfl) <|
        .cons rfl (ob_seql rfl rfl) <|
        .cons rfl (ob_move rfl) <|
        .cons rfl (ob_load1' rfl hc5 Tryd.isAgg3 rfl) <|
        .cons rfl (ob_eql rfl rfl) <|
        .cons rfl (ob_and rfl rfl rfl) <|
        .cons rfl (ob_or rfl rfl rfl) <|
        .nil) ?_
    intro a4 w4 m4 hst4 hle4 hk4
    have hfr4 := hk4.fr (T' := [(0, _), (1, _), (2, _), (7, _), (4, _), (5, _), (6, _), (8, _), (9, _), (10, _), (34, _)]) (.old rfl rfl <| .old rfl rfl <| .old rfl rfl <| .old rfl rfl <| .old rfl rfl <| .old rfl rfl <| .old rfl rfl <| .old rfl rfl <| .old rfl rfl <| .old rfl rfl <| .new rfl <| .nil)
    replace hc4 := hc4.mono hle4
    replace hc5 := hc5.mono hle4
    clear hst3 hfr3 hk4
    refine hK14 _ _ ?_; try clear hK14 K14
    refine cond_any hfr4 rfl rfl (fun hb34 => ?_) (fun hb34 => ?_)
    · simp at hb34
    · refine wp_skip ?_
      refine hK13 _ _ ?_; try clear hK13 K13
      refine seq_any fun K15 hK15 => ?_
      refine region_any (tch := [(2, 0, (fun _ => .blk _ _))]) (fun h => by cases h) hst4 hfr4 (by kernel_rfl) (by kernel_rfl) (by kernel_rfl) (.cons rfl (ob_move rfl) <|
          .cons rfl (ob_callE rfl (.nil) Tryd.call35 (fun w m hK => by exact op_sub (KC.agree hK) (hc4.mono (KC.le hK)) (hc5.mono (KC.le hK)))) <|
          .consT rfl rfl (fun _ => rfl) rfl (ob_store' rfl rfl rfl Tryd.sizeOf24 rfl rfl rfl) <|
          .cons rfl (ob_assign rfl) <|
          .nil) ?_
      intro a5 w5 m5 hst5 hle5 hk5
      have hfr5 := hk5.fr (T' := [(0, _), (1, _), (2, _), (4, _), (5, _), (6, _), (8, _), (9, _), (10, _), (7, _)]) (.old rfl rfl <| .old rfl rfl <| .old rfl rfl <| .old rfl rfl <| .old rfl rfl <| .old rfl rfl <| .old rfl rfl <| .old rfl rfl <| .old rfl rfl <| .new rfl <| .nil)
      replace hst5 := hst5.fin (L' := [_, _]) (.cons rfl <| .nil)
      replace hc4 := hc4.mono hle5
      replace hc5 := hc5.mono hle5
      clear hst4 hfr4 hk5
      refine hK15 _ _ ?_; try clear hK15 K15
      refine wp_ret ?_
      repeat (with_reducible first | refine then_ret ?_ | refine block_ret ?_)
      exact fn_ret hst5 hfr5 rfl (.cell rfl (load_blk (blk_heap (hst5.loc.at_ (k := 0) rfl)) Tryd.isAgg24 Tryd.sizeOf24) <| .tmp rfl <| .nil) (by simp [opRes, bundle])
  · skip
    refine region_plain (fun h => by cases h) hst2 hfr2 (by kernel_rfl) (by kernel_rfl) (.cons rfl (ob_move rfl) <|
        .cons rfl (ob_move rfl) <|
        .cons rfl (ob_lookup (j := 1) (v := .func (.func 36) #[] #[.pointer (some ⟨gx, 0, none⟩), .pointer (some ⟨gy, 0, none⟩)]) (b := true) keys_S rfl rfl rfl Tryd.underlying50 Tryd.underlying9 Tryd.zeroValue48 rfl) <|
        .cons rfl (ob_move rfl) <|
        .cons rfl (ob_extract rfl rfl) <|
        .cons rfl (ob_extract rfl rfl) <|
        .cons rfl (ob_assign rfl) <|
        .cons rfl (ob_assign rfl) <|
        .nil) ?_
    intro a3 w3 m3 hst3 hle3 hk3
    have hfr3 := hk3.fr (T' := [(0, _), (1, _), (2, _), (7, _), (4, _), (5, _), (6, _), (8, _), (9, _), (10, _)]) (.old rfl rfl <| .old rfl rfl <| .old rfl rfl <| .old rfl rfl <| .old rfl rfl <| .old rfl rfl <| .old rfl rfl <| .old rfl rfl <| .new rfl <| .new rfl <| .nil)
    replace hc4 := hc4.mono hle3
    replace hc5 := hc5.mono hle3
    clear hst2 hfr2 hk3
    refine hK8 _ _ ?_; try clear hK8 K8
    refine seq_any fun K17 hK17 => ?_
    refine seq_any fun K18 hK18 => ?_
    refine region_plain (fun h => by cases h) hst3 hfr3 (by kernel_rfl) (by kernel_rfl) (.cons rfl (ob_move rfl) <|
        .cons rfl (ob_not rfl) <|
        .cons rfl (ob_move rfl) <|
        .cons rfl (ob_move rfl) <|
        .cons rfl (ob_seql rfl rfl) <|
        .cons rfl (ob_move rfl) <|
        .cons rfl (ob_load1' rfl hc5 Tryd.isAgg3 rfl) <|
        .cons rfl (ob_eql rfl rfl) <|
        .cons rfl (ob_and rfl rfl rfl) <|
        .cons rfl (ob_or rfl rfl rfl) <|
        .nil) ?_
    intro a4 w4 m4 hst4 hle4 hk4
    have hfr4 := hk4.fr (T' := [(0, _), (1, _), (2, _), (7, _), (4, _), (5, _), (6, _), (8, _), (9, _), (10, _), (34, _)]) (.old rfl rfl <| .old rfl rfl <| .old rfl rfl <| .old rfl rfl <| .old rfl rfl <| .old rfl rfl <| .old rfl rfl <| .old rfl rfl <| .old rfl rfl <| .old rfl rfl <| .new rfl <| .nil)
    replace hc4 := hc4.mono hle4
    replace hc5 := hc5.mono hle4
    clear hst3 hfr3 hk4
    refine hK18 _ _ ?_; try clear hK18 K18
    refine cond_any hfr4 rfl rfl (fun hb34 => ?_) (fun hb34 => ?_)
    · simp at hb34
    · refine wp_skip ?_
      refine hK17 _ _ ?_; try clear hK17 K17
      refine seq_any fun K19 hK19 => ?_
      refine region_any (tch := [(2, 0, (fun _ => .blk _ _))]) (fun h => by cases h) hst4 hfr4 (by kernel_rfl) (by kernel_rfl) (by kernel_rfl) (.cons rfl (ob_move rfl) <|
          .cons rfl (ob_callE rfl (.nil) Tryd.call36 (fun w m hK => by exact op_mul (KC.agree hK) (hc4.mono (KC.le hK)) (hc5.mono (KC.le hK)))) <|
          .consT rfl rfl (fun _ => rfl) rfl (ob_store' rfl rfl rfl Tryd.sizeOf24 rfl rfl rfl) <|
          .cons rfl (ob_assign rfl) <|
          .nil) ?_
      intro a5 w5 m5 hst5 hle5 hk5
      have hfr5 := hk5.fr (T' := [(0, _), (1, _), (2, _), (4, _), (5, _), (6, _), (8, _), (9, _), (10, _), (7, _)]) (.old rfl rfl <| .old rfl rfl <| .old rfl rfl <| .old rfl rfl <| .old rfl rfl <| .old rfl rfl <| .old rfl rfl <| .old rfl rfl <| .old rfl rfl <| .new rfl <| .nil)
      replace hst5 := hst5.fin (L' := [_, _]) (.cons rfl <| .nil)
      replace hc4 := hc4.mono hle5
      replace hc5 := hc5.mono hle5
      clear hst4 hfr4 hk5
      refine hK19 _ _ ?_; try clear hK19 K19
      refine wp_ret ?_
      repeat (with_reducible first | refine then_ret ?_ | refine block_ret ?_)
      exact fn_ret hst5 hfr5 rfl (.cell rfl (load_blk (blk_heap (hst5.loc.at_ (k := 0) rfl)) Tryd.isAgg24 Tryd.sizeOf24) <| .tmp rfl <| .nil) (by simp [opRes, bundle])
  · skip
    refine region_plain (fun h => by cases h) hst2 hfr2 (by kernel_rfl) (by kernel_rfl) (.cons rfl (ob_move rfl) <|
        .cons rfl (ob_move rfl) <|
        .cons rfl (ob_lookup (j := 1) (v := .func (.func 37) #[] #[.pointer (some ⟨gx, 0, none⟩), .pointer (some ⟨gy, 0, none⟩)]) (b := true) keys_S rfl rfl rfl Tryd.underlying50 Tryd.underlying9 Tryd.zeroValue48 rfl) <|
        .cons rfl (ob_move rfl) <|
        .cons rfl (ob_extract rfl rfl) <|
        .cons rfl (ob_extract rfl rfl) <|
        .cons rfl (ob_assign rfl) <|
        .cons rfl (ob_assign rfl) <|
        .nil) ?_
    intro a3 w3 m3 hst3 hle3 hk3
    have hfr3 := hk3.fr (T' := [(0, _), (1, _), (2, _), (7, _), (4, _), (5, _), (6, _), (8, _), (9, _), (10, _)]) (.old rfl rfl <| .old rfl rfl <| .old rfl rfl <| .old rfl rfl <| .old rfl rfl <| .old rfl rfl <| .old rfl rfl <| .old rfl rfl <| .new rfl <| .new rfl <| .nil)
    replace hc4 := hc4.mono hle3
    replace hc5 := hc5.mono hle3
    clear hst2 hfr2 hk3
    refine hK8 _ _ ?_; try clear hK8 K8
    refine seq_any fun K21 hK21 => ?_
    refine seq_any fun K22 hK22 => ?_
    refine region_plain (fun h => by cases h) hst3 hfr3 (by kernel_rfl) (by kernel_rfl) (.cons rfl (ob_move rfl) <|
        .cons rfl (ob_not rfl) <|
        .cons rfl (ob_move rfl) <|
        .cons rfl (ob_move rfl) <|
        .cons rfl (ob_seql rfl rfl) <|
        .cons rfl (ob_move rfl) <|
        .cons rfl (ob_load1' rfl hc5 Tryd.isAgg3 rfl) <|
        .cons rfl (ob_eql rfl rfl) <|
        .cons rfl (ob_and rfl rfl rfl) <|
        .cons rfl (ob_or rfl rfl rfl) <|
        .nil) ?_
    intro a4 w4 m4 hst4 hle4 hk4
    have hfr4 := hk4.fr (T' := [(0, _), (1, _), (2, _), (7, _), (4, _), (5, _), (6, _), (8, _), (9, _), (10, _), (34, _)]) (.old rfl rfl <| .old rfl rfl <| .old rfl rfl <| .old rfl rfl <| .old rfl rfl <| .old rfl rfl <| .old rfl rfl <| .old rfl rfl <| .old rfl rfl <| .old rfl rfl <| .new rfl <| .nil)
    replace hc4 := hc4.mono hle4
    replace hc5 := hc5.mono hle4
    clear hst3 hfr3 hk4
    refine hK22 _ _ ?_; try clear hK22 K22
    refine cond_any hfr4 rfl rfl (fun hb34 => ?_) (fun hb34 => ?_)
    · refine seq_any fun K23 hK23 => ?_
      refine region_any (tch := [(1, 0, (fun _ => .blk _ _))]) (fun h => by cases h) hst4 hfr4 (by kernel_rfl) (by kernel_rfl) (by kernel_rfl) (.cons rfl (ob_buildS (.nil) Tryd.underlying24 Tryd.zeroValue24 (.cons Tryd.sizeOf3 <| .cons Tryd.sizeOf3 <| .cons Tryd.sizeOf9 <| .cons Tryd.sizeOf22 <| .nil) rfl) <|
          .consT rfl rfl (fun _ => rfl) rfl (ob_store' rfl rfl rfl Tryd.sizeOf24 rfl rfl rfl) <|
          .cons rfl (ob_assign rfl) <|
          .nil) ?_
      intro a5 w5 m5 hst5 hle5 hk5
      have hfr5 := hk5.fr (T' := [(0, _), (1, _), (2, _), (4, _), (5, _), (6, _), (8, _), (9, _), (10, _), (7, _)]) (.old rfl rfl <| .old rfl rfl <| .old rfl rfl <| .old rfl rfl <| .old rfl rfl <| .old rfl rfl <| .old rfl rfl <| .old rfl rfl <| .old rfl rfl <| .new rfl <| .nil)
      replace hst5 := hst5.fin (L' := [_, _]) (.cons rfl <| .nil)
      replace hc4 := hc4.mono hle5
      replace hc5 := hc5.mono hle5
      clear hst4 hfr4 hk5
      refine hK23 _ _ ?_; try clear hK23 K23
      refine wp_ret ?_
      repeat (with_reducible first | refine then_ret ?_ | refine block_ret ?_)
      exact fn_ret hst5 hfr5 rfl (.cell rfl (load_blk (blk_heap (hst5.loc.at_ (k := 0) rfl)) Tryd.isAgg24 Tryd.sizeOf24) <| .tmp rfl <| .nil) (by simp at hb34; simp [opRes, bundle, hb34])
    · refine wp_skip ?_
      refine hK21 _ _ ?_; try clear hK21 K21
      refine seq_any fun K25 hK25 => ?_
      refine region_any (tch := [(2, 0, (fun _ => .blk _ _))]) (fun h => by cases h) hst4 hfr4 (by kernel_rfl) (by kernel_rfl) (by kernel_rfl) (.cons rfl (ob_move rfl) <|
          .cons rfl (ob_callE rfl (.nil) Tryd.call37 (fun w m hK => by exact op_quo (KC.agree hK) (hc4.mono (KC.le hK)) (hc5.mono (KC.le hK)) (by simpa using hb34))) <|
          .consT rfl rfl (fun _ => rfl) rfl (ob_store' rfl rfl rfl Tryd.sizeOf24 rfl rfl rfl) <|
          .cons rfl (ob_assign rfl) <|
          .nil) ?_
      intro a5 w5 m5 hst5 hle5 hk5
      have hfr5 := hk5.fr (T' := [(0, _), (1, _), (2, _), (4, _), (5, _), (6, _), (8, _), (9, _), (10, _), (7, _)]) (.old rfl rfl <| .old rfl rfl <| .old rfl rfl <| .old rfl rfl <| .old rfl rfl <| .old rfl rfl <| .old rfl rfl <| .old rfl rfl <| .old rfl rfl <| .new rfl <| .nil)
      replace hst5 := hst5.fin (L' := [_, _]) (.cons rfl <| .nil)
      replace hc4 := hc4.mono hle5
      replace hc5 := hc5.mono hle5
      clear hst4 hfr4 hk5
      refine hK25 _ _ ?_; try clear hK25 K25
      refine wp_ret ?_
      repeat (with_reducible first | refine then_ret ?_ | refine block_ret ?_)
      exact fn_ret hst5 hfr5 rfl (.cell rfl (load_blk (blk_heap (hst5.loc.at_ (k := 0) rfl)) Tryd.isAgg24 Tryd.sizeOf24) <| .tmp rfl <| .nil) (by simp at hb34; simp [opRes, bundle, hb34])
  · skip
    refine region_plain (fun h => by cases h) hst2 hfr2 (by kernel_rfl) (by kernel_rfl) (.cons rfl (ob_move rfl) <|
        .cons rfl (ob_move rfl) <|
        .cons rfl (ob_lookup (j := 1) (v := .func (.func 38) #[] #[.pointer (some ⟨gx, 0, none⟩), .pointer (some ⟨gy, 0, none⟩)]) (b := true) keys_S rfl rfl rfl Tryd.underlying50 Tryd.underlying9 Tryd.zeroValue48 rfl) <|
        .cons rfl (ob_move rfl) <|
        .cons rfl (ob_extract rfl rfl) <|
        .cons rfl (ob_extract rfl rfl) <|
        .cons rfl (ob_assign rfl) <|
        .cons rfl (ob_assign rfl) <|
        .nil) ?_
    intro a3 w3 m3 hst3 hle3 hk3
    have hfr3 := hk3.fr (T' := [(0, _), (1, _), (2, _), (7, _), (4, _), (5, _), (6, _), (8, _), (9, _), (10, _)]) (.old rfl rfl <| .old rfl rfl <| .old rfl rfl <| .old rfl rfl <| .old rfl rfl <| .old rfl rfl <| .old rfl rfl <| .old rfl rfl <| .new rfl <| .new rfl <| .nil)
    replace hc4 := hc4.mono hle3
    replace hc5 := hc5.mono hle3
    clear hst2 hfr2 hk3
    refine hK8 _ _ ?_; try clear hK8 K8
    refine seq_any fun K27 hK27 => ?_
    refine seq_any fun K28 hK28 => ?_
    refine region_plain (fun h => by cases h) hst3 hfr3 (by kernel_rfl) (by kernel_rfl) (.cons rfl (ob_move rfl) <|
        .cons rfl (ob_not rfl) <|
        .cons rfl (ob_move rfl) <|
        .cons rfl (ob_move rfl) <|
        .cons rfl (ob_seql rfl rfl) <|
        .cons rfl (ob_move rfl) <|
        .cons rfl (ob_load1' rfl hc5 Tryd.isAgg3 rfl) <|
        .cons rfl (ob_eql rfl rfl) <|
        .cons rfl (ob_and rfl rfl rfl) <|
        .cons rfl (ob_or rfl rfl rfl) <|
        .nil) ?_
    intro a4 w4 m4 hst4 hle4 hk4
    have hfr4 := hk4.fr (T' := [(0, _), (1, _), (2, _), (7, _), (4, _), (5, _), (6, _), (8, _), (9, _), (10, _), (34, _)]) (.old rfl rfl <| .old rfl rfl <| .old rfl rfl <| .old rfl rfl <| .old rfl rfl <| .old rfl rfl <| .old rfl rfl <| .old rfl rfl <| .old rfl rfl <| .old rfl rfl <| .new rfl <| .nil)
    replace hc4 := hc4.mono hle4
    replace hc5 := hc5.mono hle4
    clear hst3 hfr3 hk4
    refine hK28 _ _ ?_; try clear hK28 K28
    refine cond_any hfr4 rfl rfl (fun hb34 => ?_) (fun hb34 => ?_)
    · simp at hb34
    · refine wp_skip ?_
      refine hK27 _ _ ?_; try clear hK27 K27
      refine seq_any fun K29 hK29 => ?_
      refine region_any (tch := [(2, 0, (fun _ => .blk _ _))]) (fun h => by cases h) hst4 hfr4 (by kernel_rfl) (by kernel_rfl) (by kernel_rfl) (.cons rfl (ob_move rfl) <|
          .cons rfl (ob_callE rfl (.nil) Tryd.call38 (fun w m hK => by exact op_lss (KC.agree hK) (hc4.mono (KC.le hK)) (hc5.mono (KC.le hK)))) <|
          .consT rfl rfl (fun _ => rfl) rfl (ob_store' rfl rfl rfl Tryd.sizeOf24 rfl rfl rfl) <|
          .cons rfl (ob_assign rfl) <|
          .nil) ?_
      intro a5 w5 m5 hst5 hle5 hk5
      have hfr5 := hk5.fr (T' := [(0, _), (1, _), (2, _), (4, _), (5, _), (6, _), (8, _), (9, _), (10, _), (7, _)]) (.old rfl rfl <| .old rfl rfl <| .old rfl rfl <| .old rfl rfl <| .old rfl rfl <| .old rfl rfl <| .old rfl rfl <| .old rfl rfl <| .old rfl rfl <| .new rfl <| .nil)
      replace hst5 := hst5.fin (L' := [_, _]) (.cons rfl <| .nil)
      replace hc4 := hc4.mono hle5
      replace hc5 := hc5.mono hle5
      clear hst4 hfr4 hk5
      refine hK29 _ _ ?_; try clear hK29 K29
      refine wp_ret ?_
      repeat (with_reducible first | refine then_ret ?_ | refine block_ret ?_)
      exact fn_ret hst5 hfr5 rfl (.cell rfl (load_blk (blk_heap (hst5.loc.at_ (k := 0) rfl)) Tryd.isAgg24 Tryd.sizeOf24) <| .tmp rfl <| .nil) (by simp [opRes, bundle])
  · skip
    refine region_plain (fun h => by cases h) hst2 hfr2 (by kernel_rfl) (by kernel_rfl) (.cons rfl (ob_move rfl) <|
        .cons rfl (ob_move rfl) <|
        .cons rfl (ob_lookup (j := 1) (v := .func (.func 40) #[] #[.pointer (some ⟨gx, 0, none⟩), .pointer (some ⟨gy, 0, none⟩)]) (b := true) keys_S rfl rfl rfl Tryd.underlying50 Tryd.underlying9 Tryd.zeroValue48 rfl) <|
        .cons rfl (ob_move rfl) <|
        .cons rfl (ob_extract rfl rfl) <|
        .cons rfl (ob_extract rfl rfl) <|
        .cons rfl (ob_assign rfl) <|
        .cons rfl (ob_assign rfl) <|
        .nil) ?_
    intro a3 w3 m3 hst3 hle3 hk3
    have hfr3 := hk3.fr (T' := [(0, _), (1, _), (2, _), (7, _), (4, _), (5, _), (6, _), (8, _), (9, _), (10, _)]) (.old rfl rfl <| .old rfl rfl <| .old rfl rfl <| .old rfl rfl <| .old rfl rfl <| .old rfl rfl <| .old rfl rfl <| .old rfl rfl <| .new rfl <| .new rfl <| .nil)
    replace hc4 := hc4.mono hle3
    replace hc5 := hc5.mono hle3
    clear hst2 hfr2 hk3
    refine hK8 _ _ ?_; try clear hK8 K8
    refine seq_any fun K31 hK31 => ?_
    refine seq_any fun K32 hK32 => ?_
    refine region_plain (fun h => by cases h) hst3 hfr3 (by kernel_rfl) (by kernel_rfl) (.cons rfl (ob_move rfl) <|
        .cons rfl (ob_not rfl) <|
        .cons rfl (ob_move rfl) <|
        .cons rfl (ob_move rfl) <|
        .cons rfl (ob_seql rfl rfl) <|
        .cons rfl (ob_move rfl) <|
        .cons rfl (ob_load1' rfl hc5 Tryd.isAgg3 rfl) <|
        .cons rfl (ob_eql rfl rfl) <|
        .cons rfl (ob_and rfl rfl rfl) <|
        .cons rfl (ob_or rfl rfl rfl) <|
        .nil) ?_
    intro a4 w4 m4 hst4 hle4 hk4
    have hfr4 := hk4.fr (T' := [(0, _), (1, _), (2, _), (7, _), (4, _), (5, _), (6, _), (8, _), (9, _), (10, _), (34, _)]) (.old rfl rfl <| .old rfl rfl <| .old rfl rfl <| .old rfl rfl <| .old rfl rfl <| .old rfl rfl <| .old rfl rfl <| .old rfl rfl <| .old rfl rfl <| .old rfl rfl <| .new rfl <| .nil)
    replace hc4 := hc4.mono hle4
    replace hc5 := hc5.mono hle4
    clear hst3 hfr3 hk4
    refine hK32 _ _ ?_; try clear hK32 K32
    refine cond_any hfr4 rfl rfl (fun hb34 => ?_) (fun hb34 => ?_)
    · simp at hb34
    · refine wp_skip ?_
      refine hK31 _ _ ?_; try clear hK31 K31
      refine seq_any fun K33 hK33 => ?_
      refine region_any (tch := [(2, 0, (fun _ => .blk _ _))]) (fun h => by cases h) hst4 hfr4 (by kernel_rfl) (by kernel_rfl) (by kernel_rfl) (.cons rfl (ob_move rfl) <|
          .cons rfl (ob_callE rfl (.nil) Tryd.call40 (fun w m hK => by exact op_eql (KC.agree hK) (hc4.mono (KC.le hK)) (hc5.mono (KC.le hK)))) <|
          .consT rfl rfl (fun _ => rfl) rfl (ob_store' rfl rfl rfl Tryd.sizeOf24 rfl rfl rfl) <|
          .cons rfl (ob_assign rfl) <|
          .nil) ?_
      intro a5 w5 m5 hst5 hle5 hk5
      have hfr5 := hk5.fr (T' := [(0, _), (1, _), (2, _), (4, _), (5, _), (6, _), (8, _), (9, _), (10, _), (7, _)]) (.old rfl rfl <| .old rfl rfl <| .old rfl rfl <| .old rfl rfl <| .old rfl rfl <| .old rfl rfl <| .old rfl rfl <| .old rfl rfl <| .old rfl rfl <| .new rfl <| .nil)
      replace hst5 := hst5.fin (L' := [_, _]) (.cons rfl <| .nil)
      replace hc4 := hc4.mono hle5
      replace hc5 := hc5.mono hle5
      clear hst4 hfr4 hk5
      refine hK33 _ _ ?_; try clear hK33 K33
      refine wp_ret ?_
      repeat (with_reducible first | refine then_ret ?_ | refine block_ret ?_)
      exact fn_ret hst5 hfr5 rfl (.cell rfl (load_blk (blk_heap (hst5.loc.at_ (k := 0) rfl)) Tryd.isAgg24 Tryd.sizeOf24) <| .tmp rfl <| .nil) (by simp [opRes, bundle])
  · skip
    refine region_plain (fun h => by cases h) hst2 hfr2 (by kernel_rfl) (by kernel_rfl) (.cons rfl (ob_move rfl) <|
        .cons rfl (ob_move rfl) <|
        .cons rfl (ob_lookup (j := 1) (v := .nilFunc) (b := false) keys_S rfl rfl rfl Tryd.underlying50 Tryd.underlying9 Tryd.zeroValue48 (by rw [show alook s _ = none from by simp [alook, aset, h1, h2, h3, h4, h5, h6]])) <|
        .cons rfl (ob_move rfl) <|
        .cons rfl (ob_extract rfl rfl) <|
        .cons rfl (ob_extract rfl rfl) <|
        .cons rfl (ob_assign rfl) <|
        .cons rfl (ob_assign rfl) <|
        .nil) ?_
    intro a3 w3 m3 hst3 hle3 hk3
    have hfr3 := hk3.fr (T' := [(0, _), (1, _), (2, _), (7, _), (4, _), (5, _), (6, _), (8, _), (9, _), (10, _)]) (.old rfl rfl <| .old rfl rfl <| .old rfl rfl <| .old rfl rfl <| .old rfl rfl <| .old rfl rfl <| .old rfl rfl <| .old rfl rfl <| .new rfl <| .new rfl <| .nil)
    replace hc4 := hc4.mono hle3
    replace hc5 := hc5.mono hle3
    clear hst2 hfr2 hk3
    refine hK8 _ _ ?_; try clear hK8 K8
    refine seq_any fun K35 hK35 => ?_
    refine seq_any fun K36 hK36 => ?_
    refine region_plain (fun h => by cases h) hst3 hfr3 (by kernel_rfl) (by kernel_rfl) (.cons rfl (ob_move rfl) <|
        .cons rfl (ob_not rfl) <|
        .cons rfl (ob_move rfl) <|
        .cons rfl (ob_move rfl) <|
        .cons rfl (ob_seql rfl rfl) <|
        .cons rfl (ob_move rfl) <|
        .cons rfl (ob_load1' rfl hc5 Tryd.isAgg3 rfl) <|
        .cons rfl (ob_eql rfl rfl) <|
        .cons rfl (ob_and rfl rfl rfl) <|
        .cons rfl (ob_or rfl rfl rfl) <|
        .nil) ?_
    intro a4 w4 m4 hst4 hle4 hk4
    have hfr4 := hk4.fr (T' := [(0, _), (1, _), (2, _), (7, _), (4, _), (5, _), (6, _), (8, _), (9, _), (10, _), (34, _)]) (.old rfl rfl <| .old rfl rfl <| .old rfl rfl <| .old rfl rfl <| .old rfl rfl <| .old rfl rfl <| .old rfl rfl <| .old rfl rfl <| .old rfl rfl <| .old rfl rfl <| .new rfl <| .nil)
    replace hc4 := hc4.mono hle4
    replace hc5 := hc5.mono hle4
    clear hst3 hfr3 hk4
    refine hK36 _ _ ?_; try clear hK36 K36
    refine cond_any hfr4 rfl rfl (fun hb34 => ?_) (fun hb34 => ?_)
    · refine seq_any fun K37 hK37 => ?_
      refine region_any (tch := [(1, 0, (fun _ => .blk _ _))]) (fun h => by cases h) hst4 hfr4 (by kernel_rfl) (by kernel_rfl) (by kernel_rfl) (.cons rfl (ob_buildS (.nil) Tryd.underlying24 Tryd.zeroValue24 (.cons Tryd.sizeOf3 <| .cons Tryd.sizeOf3 <| .cons Tryd.sizeOf9 <| .cons Tryd.sizeOf22 <| .nil) rfl) <|
          .consT rfl rfl (fun _ => rfl) rfl (ob_store' rfl rfl rfl Tryd.sizeOf24 rfl rfl rfl) <|
          .cons rfl (ob_assign rfl) <|
          .nil) ?_
      intro a5 w5 m5 hst5 hle5 hk5
      have hfr5 := hk5.fr (T' := [(0, _), (1, _), (2, _), (4, _), (5, _), (6, _), (8, _), (9, _), (10, _), (7, _)]) (.old rfl rfl <| .old rfl rfl <| .old rfl rfl <| .old rfl rfl <| .old rfl rfl <| .old rfl rfl <| .old rfl rfl <| .old rfl rfl <| .old rfl rfl <| .new rfl <| .nil)
      replace hst5 := hst5.fin (L' := [_, _]) (.cons rfl <| .nil)
      replace hc4 := hc4.mono hle5
      replace hc5 := hc5.mono hle5
      clear hst4 hfr4 hk5
      refine hK37 _ _ ?_; try clear hK37 K37
      refine wp_ret ?_
      repeat (with_reducible first | refine then_ret ?_ | refine block_ret ?_)
      exact fn_ret hst5 hfr5 rfl (.cell rfl (load_blk (blk_heap (hst5.loc.at_ (k := 0) rfl)) Tryd.isAgg24 Tryd.sizeOf24) <| .tmp rfl <| .nil) (by simp [opRes, bundle, h1, h2, h3, h4, h5, h6])
    · simp at hb34

theorem opRes_shape (s : Str) (a b : Int) : ∃ k n, (opRes s a b).1 = Vl k n [] nilK := by
  unfold opRes
  repeat' split
  all_goals exact ⟨_, _, rfl⟩
/-- The number that it makes. -/
def opN (s : Str) (a b : Int) : Int := match (opRes s a b).1 with | Value.agg cs => intOf (cs.toList.getD 1 undef) | _ => 0

set_option maxHeartbeats 400000 in
theorem numb_c {w : World} {m : Mem} {s : Str} {a b : Int} (hA : Agree w m) :
    FnV Tryd.prog 22 #[S s, .int .i64 a, .int .i64 b] w m (fun _ _ v => v = .int .i64 (opN s a b)) := by
  refine fn_enter (vs := [S s, .int .i64 a, .int .i64 b]) Tryd.func22 rfl rfl rfl fun a0 hfr0 => ?_
  have hst0 := st_enter hA (loc_nil [] _ w m)
  obtain ⟨kk, nn, e⟩ := opRes_shape s a b
  have en : opN s a b = nn := by simp [opN, e, intOf]
  refine seq_any fun K1 hK1 => ?_
  refine region_plain (fun h => by cases h) hst0 hfr0 (by kernel_rfl) (by kernel_rfl) (.cons rfl (ob_assign rfl) <|
      .nil) ?_
  intro a1 w1 m1 hst1 hle1 hk1
  have hfr1 := hk1.fr (T' := [(0, _), (1, _), (2, _), (6, _)]) (.old rfl rfl <| .old rfl rfl <| .old rfl rfl <| .new rfl <| .nil)
  clear hst0 hfr0 hk1
  refine hK1 _ _ ?_; try clear hK1 K1
  refine seq_any fun K2 hK2 => ?_
  replace hst1 := hst1.more (r := .free) trivial List.nodup_nil (by simp [Res.blocks])
  refine region_any (tch := [(7, 0, (fun v => .blk v _)), (8, 0, (fun v => .blk v _))]) (fun h => by cases h) hst1 hfr1 (by kernel_rfl) (by kernel_rfl) (by kernel_rfl) (.cons rfl (ob_move rfl) <|
      .cons rfl (ob_move rfl) <|
      .cons rfl (ob_move rfl) <|
      .cons rfl (ob_callE rfl (.cons rfl <| .cons rfl <| .cons rfl <| .nil) Tryd.call20 (fun w m hK => by exact (show FnV Tryd.prog _ _ _ _ (fun _ _ v => v = .tuple #[Vl kk nn [] nilK, .bool (opRes s a b).2]) from by rw [← e]; exact op_c (KC.agree hK)))) <|
      .cons rfl (ob_move rfl) <|
      .cons rfl (ob_extract rfl rfl) <|
      .cons rfl (ob_extract rfl rfl) <|
      .consT rfl rfl (fun _ => rfl) rfl (ob_allocL Tryd.zeroValue24 rfl) <|
      .consT rfl rfl (fun _ => rfl) rfl (ob_imgT 7 rfl rfl rfl fun y7 => ob_storeF rfl rfl rfl rfl Tryd.sizeOf24 rfl rfl rfl) <|
      .cons rfl (ob_assign rfl) <|
      .nil) ?_
  intro a2 w2 m2 hst2 hle2 hk2
  have hfr2 := hk2.fr (T' := [(0, _), (1, _), (2, _), (6, _)]) (.old rfl rfl <| .old rfl rfl <| .old rfl rfl <| .old rfl rfl <| .nil)
  obtain ⟨g3, e3, _⟩ := hk2.ex 7 rfl
  replace hfr2 := hfr2.cons e3
  replace hst2 := hst2.fin (L' := [_]) (.cons e3 <| .cons e3 <| .nil)
  clear hst1 hfr1 hk2
  refine hK2 _ _ ?_; try clear hK2 K2
  refine seq_any fun K4 hK4 => ?_
  refine region_plain (fun h => by cases h) hst2 hfr2 (by kernel_rfl) (by kernel_rfl) (.cons rfl (ob_fieldAddr rfl Tryd.underlying24 rfl Tryd.sizeOf3 rfl) <|
      .cons rfl (ob_loadL (j := 0) rfl rfl Tryd.isAgg3 rfl) <|
      .cons rfl (ob_assign rfl) <|
      .nil) ?_
  intro a3 w3 m3 hst3 hle3 hk3
  have hfr3 := hk3.fr (T' := [(0, _), (1, _), (2, _), (7, _), (6, _)]) (.old rfl rfl <| .old rfl rfl <| .old rfl rfl <| .old rfl rfl <| .new rfl <| .nil)
  clear hst2 hfr2 hk3
  refine hK4 _ _ ?_; try clear hK4 K4
  refine wp_ret ?_
  repeat (with_reducible first | refine then_ret ?_ | refine block_ret ?_)
  exact fn_ret hst3 hfr3 rfl (.tmp rfl <| .nil) (by rw [en]; rfl)

end Go.Proofs.YtineijefefjpeaaDoor
