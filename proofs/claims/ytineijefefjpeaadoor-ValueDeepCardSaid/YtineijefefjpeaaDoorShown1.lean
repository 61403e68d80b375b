/-
  The document's operators, and what is shown in any case. Conditions: those of each theorem.
-/
import Derived.Test.YtineijefefjpeaaDoorRefs2
namespace Go.Proofs.YtineijefefjpeaaDoor
set_option linter.all false
open Go.RowKit
open Go.Lib (itoa formatBool decDigits)
set_option maxHeartbeats 400000 in
theorem rop_c {w : World} {m : Mem} {s : Str} {a : Int} {b : Int} (hA : Agree w m) (ha : InI64 a) (hb : InI64 b) : FnV Tryd.prog 21 #[S s, .int .i64 a, .int .i64 b] w m (fun _ _ v => v = .tuple #[(opRes s a b).1, .bool (opRes s a b).2]) := by
  refine fn_enter (vs := [_, _, _]) Tryd.func21 rfl rfl rfl fun a0 hfr0 => ?_
  have hst0 := st_enter hA (loc_nil [] _ w m)
  have hM : MLe m m := MLe.refl m
  refine seq_any fun K1 hK1 => ?_
  replace hst0 := hst0.more (r := .free) trivial List.nodup_nil (by simp [Res.blocks])
  refine region_any (tch := [(0, 0, (fun v => .blk v _))]) (fun h => by cases h) hst0 hfr0 (by kernel_rfl) (by kernel_rfl) (by kernel_rfl) (.consT rfl rfl (fun _ => rfl) rfl (ob_allocL Tryd.zeroValue24 rfl) <|
      .cons rfl (ob_assign rfl) <|
      .nil) ?_
  intro a1 w1 m1 hst1 hle1 hk1
  have hfr1 := hk1.fr (T' := [(0, _), (1, _), (2, _), (7, _)]) (.old rfl rfl <| .old rfl rfl <| .old rfl rfl <| .new rfl <| .nil)
  obtain ⟨g2, e2, _⟩ := hk1.ex 6 rfl
  replace hfr1 := hfr1.cons e2
  replace hst1 := hst1.fin (L' := [_]) (.cons e2 <| .nil)
  replace hM := hM.trans hle1
  clear hst0 hfr0 hk1
  refine hK1 _ _ ?_; try clear hK1 K1
  refine seq_any fun K3 hK3 => ?_
  refine region_plain (fun h => by cases h) hst1 hfr1 (by kernel_rfl) (by kernel_rfl) (.cons rfl (ob_move rfl) <|
      .cons rfl (ob_conv_int rfl Tryd.underlying3 Tryd.underlying35) <|
      .cons rfl (ob_assign rfl) <|
      .nil) ?_
  intro a2 w2 m2 hst2 hle2 hk2
  have hfr2 := hk2.fr (T' := [(0, _), (1, _), (2, _), (7, _), (6, _), (8, _)]) (.old rfl rfl <| .old rfl rfl <| .old rfl rfl <| .old rfl rfl <| .old rfl rfl <| .new rfl <| .nil)
  replace hM := hM.trans hle2
  clear hst1 hfr1 hk2
  refine hK3 _ _ ?_; try clear hK3 K3
  refine seq_any fun K4 hK4 => ?_
  refine region_plain (fun h => by cases h) hst2 hfr2 (by kernel_rfl) (by kernel_rfl) (.cons rfl (ob_move rfl) <|
      .cons rfl (ob_conv_int rfl Tryd.underlying3 Tryd.underlying35) <|
      .cons rfl (ob_assign rfl) <|
      .nil) ?_
  intro a3 w3 m3 hst3 hle3 hk3
  have hfr3 := hk3.fr (T' := [(0, _), (1, _), (2, _), (7, _), (6, _), (8, _), (9, _)]) (.old rfl rfl <| .old rfl rfl <| .old rfl rfl <| .old rfl rfl <| .old rfl rfl <| .old rfl rfl <| .new rfl <| .nil)
  replace hM := hM.trans hle3
  clear hst2 hfr2 hk3
  refine hK4 _ _ ?_; try clear hK4 K4
  refine seq_any fun K5 hK5 => ?_
  replace hst3 := hst3.more (r := .free) trivial List.nodup_nil (by simp [Res.blocks])
  refine region_any (tch := [(1, 1, (fun v => .blk v _)), (2, 1, (fun v => .blk v _))]) (fun h => by cases h) hst3 hfr3 (by kernel_rfl) (by kernel_rfl) (by kernel_rfl) (.cons rfl (ob_buildS (.cons rfl <| .nil) Tryd.underlying24 Tryd.zeroValue24 (.cons Tryd.sizeOf3 <| .cons Tryd.sizeOf3 <| .cons Tryd.sizeOf9 <| .cons Tryd.sizeOf22 <| .nil) rfl) <|
      .consT rfl rfl (fun _ => rfl) rfl (ob_allocL Tryd.zeroValue24 rfl) <|
      .consT rfl rfl (fun _ => rfl) rfl (ob_imgT 10 rfl rfl rfl fun y10 => ob_storeF rfl rfl rfl rfl Tryd.sizeOf24 rfl rfl rfl) <|
      .nil) ?_
  intro a4 w4 m4 hst4 hle4 hk4
  have hfr4 := hk4.fr (T' := [(0, _), (1, _), (2, _), (7, _), (6, _), (8, _), (9, _)]) (.old rfl rfl <| .old rfl rfl <| .old rfl rfl <| .old rfl rfl <| .old rfl rfl <| .old rfl rfl <| .old rfl rfl <| .nil)
  obtain ⟨g6, e6, _⟩ := hk4.ex 10 rfl
  replace hfr4 := hfr4.cons e6
  replace hst4 := hst4.fin (L' := [_, _]) (.cons e6 <| .cons e6 <| .nil)
  replace hM := hM.trans hle4
  clear hst3 hfr3 hk4
  refine hK5 _ _ ?_; try clear hK5 K5
  refine seq_any fun K7 hK7 => ?_
  refine seq_any fun K8 hK8 => ?_
  rcases op_cases s with rfl | rfl | rfl | rfl | rfl | rfl | ⟨h1, h2, h3, h4, h5, h6⟩
  · skip
    refine region_plain (fun h => by cases h) hst4 hfr4 (by kernel_rfl) (by kernel_rfl) (.cons rfl (ob_move rfl) <|
        .nil) ?_
    intro a5 w5 m5 hst5 hle5 hk5
    have hfr5 := hk5.fr (T' := [(0, _), (1, _), (2, _), (7, _), (6, _), (8, _), (9, _), (10, _), (16, _)]) (.old rfl rfl <| .old rfl rfl <| .old rfl rfl <| .old rfl rfl <| .old rfl rfl <| .old rfl rfl <| .old rfl rfl <| .old rfl rfl <| .new rfl <| .nil)
    replace hM := hM.trans hle5
    clear hst4 hfr4 hk5
    refine hK8 _ _ ?_; try clear hK8 K8
    refine wp_block ?_
    refine seq_any fun K9 hK9 => ?_
    refine region_plain (fun h => by cases h) hst5 hfr5 (by kernel_rfl) (by kernel_rfl) (.cons rfl (ob_seql rfl rfl) <|
        .cons rfl (ob_assign rfl) <|
        .nil) ?_
    intro a6 w6 m6 hst6 hle6 hk6
    have hfr6 := hk6.fr (T' := [(0, _), (1, _), (2, _), (7, _), (6, _), (8, _), (9, _), (10, _), (16, _), (18, _)]) (.old rfl rfl <| .old rfl rfl <| .old rfl rfl <| .old rfl rfl <| .old rfl rfl <| .old rfl rfl <| .old rfl rfl <| .old rfl rfl <| .old rfl rfl <| .new rfl <| .nil)
    replace hM := hM.trans hle6
    clear hst5 hfr5 hk6
    refine hK9 _ _ ?_; try clear hK9 K9
    refine cond_any hfr6 rfl rfl (fun hb18 => ?_) (fun hb18 => ?_)
    · try simp only [Bool.not_eq_true', Bool.not_eq_false', decide_eq_true_eq, decide_eq_false_iff_not, Bool.and_eq_true, Bool.or_eq_true, Bool.and_eq_false_iff, Bool.or_eq_false_iff, Bool.not_not, u8_eq] at hb18
      refine region_any (tch := [(5, 1, (fun _ => .blk _ _))]) (fun h => by cases h) hst6 hfr6 (by kernel_rfl) (by kernel_rfl) (by kernel_rfl) (.cons rfl (ob_move rfl) <|
          .cons rfl (ob_move rfl) <|
          .cons rfl (ob_addW rfl rfl) <|
          .cons rfl (ob_conv_int rfl Tryd.underlying35 Tryd.underlying3) <|
          .cons rfl (ob_fieldAddr rfl Tryd.underlying24 rfl Tryd.sizeOf3 rfl) <|
          .consT rfl rfl (fun _ => rfl) rfl (ob_store rfl rfl rfl Tryd.sizeOf3 rfl rfl rfl) <|
          .nil) ?_
      intro a7 w7 m7 hst7 hle7 hk7
      have hfr7 := hk7.fr (T' := [(0, _), (1, _), (2, _), (7, _), (6, _), (8, _), (9, _), (10, _), (16, _)]) (.old rfl rfl <| .old rfl rfl <| .old rfl rfl <| .old rfl rfl <| .old rfl rfl <| .old rfl rfl <| .old rfl rfl <| .old rfl rfl <| .old rfl rfl <| .nil)
      replace hst7 := hst7.fin (L' := [_, _]) (.cons rfl <| .nil)
      replace hM := hM.trans hle7
      clear hst6 hfr6 hk7
      refine hK7 _ _ ?_; try clear hK7 K7
      refine seq_any fun K10 hK10 => ?_
      refine region_any (tch := [(1, 0, (fun _ => .blk _ _))]) (fun h => by cases h) hst7 hfr7 (by kernel_rfl) (by kernel_rfl) (by kernel_rfl) (.cons rfl (ob_loadLS' (j := 1) rfl rfl Tryd.isAgg24 Tryd.sizeOf24 rfl rfl) <|
          .consT rfl rfl (fun _ => rfl) rfl (ob_store' rfl rfl rfl Tryd.sizeOf24 rfl rfl rfl) <|
          .cons rfl (ob_assign rfl) <|
          .nil) ?_
      intro a8 w8 m8 hst8 hle8 hk8
      have hfr8 := hk8.fr (T' := [(0, _), (1, _), (2, _), (6, _), (8, _), (9, _), (10, _), (16, _), (7, _)]) (.old rfl rfl <| .old rfl rfl <| .old rfl rfl <| .old rfl rfl <| .old rfl rfl <| .old rfl rfl <| .old rfl rfl <| .old rfl rfl <| .new rfl <| .nil)
      replace hst8 := hst8.fin (L' := [_, _]) (.cons rfl <| .nil)
      replace hM := hM.trans hle8
      clear hst7 hfr7 hk8
      refine hK10 _ _ ?_; try clear hK10 K10
      refine wp_ret ?_
      repeat (with_reducible first | refine then_ret ?_ | refine block_ret ?_)
      exact fn_ret hst8 hfr8 rfl (.cell rfl (load_blk (blk_heap (hst8.loc.at_ (k := 0) rfl)) Tryd.isAgg24 Tryd.sizeOf24) <| .tmp rfl <| .nil) (by rw [show opRes [43] a b = (Vl 1 (IntKind.i64.wrap (a + b)) [] nilK, true) from rfl, ← wr_add]; rfl)
    · simp at hb18
  · skip
    refine region_plain (fun h => by cases h) hst4 hfr4 (by kernel_rfl) (by kernel_rfl) (.cons rfl (ob_move rfl) <|
        .nil) ?_
    intro a5 w5 m5 hst5 hle5 hk5
    have hfr5 := hk5.fr (T' := [(0, _), (1, _), (2, _), (7, _), (6, _), (8, _), (9, _), (10, _), (16, _)]) (.old rfl rfl <| .old rfl rfl <| .old rfl rfl <| .old rfl rfl <| .old rfl rfl <| .old rfl rfl <| .old rfl rfl <| .old rfl rfl <| .new rfl <| .nil)
    replace hM := hM.trans hle5
    clear hst4 hfr4 hk5
    refine hK8 _ _ ?_; try clear hK8 K8
    refine wp_block ?_
    refine seq_any fun K12 hK12 => ?_
    refine region_plain (fun h => by cases h) hst5 hfr5 (by kernel_rfl) (by kernel_rfl) (.cons rfl (ob_seql rfl rfl) <|
        .cons rfl (ob_assign rfl) <|
        .nil) ?_
    intro a6 w6 m6 hst6 hle6 hk6
    have hfr6 := hk6.fr (T' := [(0, _), (1, _), (2, _), (7, _), (6, _), (8, _), (9, _), (10, _), (16, _), (18, _)]) (.old rfl rfl <| .old rfl rfl <| .old rfl rfl <| .old rfl rfl <| .old rfl rfl <| .old rfl rfl <| .old rfl rfl <| .old rfl rfl <| .old rfl rfl <| .new rfl <| .nil)
    replace hM := hM.trans hle6
    clear hst5 hfr5 hk6
    refine hK12 _ _ ?_; try clear hK12 K12
    refine cond_any hfr6 rfl rfl (fun hb18 => ?_) (fun hb18 => ?_)
    · simp at hb18
    · try simp only [Bool.not_eq_true', Bool.not_eq_false', decide_eq_true_eq, decide_eq_false_iff_not, Bool.and_eq_true, Bool.or_eq_true, Bool.and_eq_false_iff, Bool.or_eq_false_iff, Bool.not_not, u8_eq] at hb18
      refine seq_any fun K13 hK13 => ?_
      refine region_plain (fun h => by cases h) hst6 hfr6 (by kernel_rfl) (by kernel_rfl) (.cons rfl (ob_seql rfl rfl) <|
          .cons rfl (ob_assign rfl) <|
          .nil) ?_
      intro a7 w7 m7 hst7 hle7 hk7
      have hfr7 := hk7.fr (T' := [(0, _), (1, _), (2, _), (7, _), (6, _), (8, _), (9, _), (10, _), (16, _), (25, _)]) (.old rfl rfl <| .old rfl rfl <| .old rfl rfl <| .old rfl rfl <| .old rfl rfl <| .old rfl rfl <| .old rfl rfl <| .old rfl rfl <| .old rfl rfl <| .new rfl <| .nil)
      replace hM := hM.trans hle7
      clear hst6 hfr6 hk7
      refine hK13 _ _ ?_; try clear hK13 K13
      refine cond_any hfr7 rfl rfl (fun hb25 => ?_) (fun hb25 => ?_)
      · try simp only [Bool.not_eq_true', Bool.not_eq_false', decide_eq_true_eq, decide_eq_false_iff_not, Bool.and_eq_true, Bool.or_eq_true, Bool.and_eq_false_iff, Bool.or_eq_false_iff, Bool.not_not, u8_eq] at hb25
        refine region_any (tch := [(5, 1, (fun _ => .blk _ _))]) (fun h => by cases h) hst7 hfr7 (by kernel_rfl) (by kernel_rfl) (by kernel_rfl) (.cons rfl (ob_move rfl) <|
            .cons rfl (ob_move rfl) <|
            .cons rfl (ob_subW rfl rfl) <|
            .cons rfl (ob_conv_int rfl Tryd.underlying35 Tryd.underlying3) <|
            .cons rfl (ob_fieldAddr rfl Tryd.underlying24 rfl Tryd.sizeOf3 rfl) <|
            .consT rfl rfl (fun _ => rfl) rfl (ob_store rfl rfl rfl Tryd.sizeOf3 rfl rfl rfl) <|
            .nil) ?_
        intro a8 w8 m8 hst8 hle8 hk8
        have hfr8 := hk8.fr (T' := [(0, _), (1, _), (2, _), (7, _), (6, _), (8, _), (9, _), (10, _), (16, _)]) (.old rfl rfl <| .old rfl rfl <| .old rfl rfl <| .old rfl rfl <| .old rfl rfl <| .old rfl rfl <| .old rfl rfl <| .old rfl rfl <| .old rfl rfl <| .nil)
        replace hst8 := hst8.fin (L' := [_, _]) (.cons rfl <| .nil)
        replace hM := hM.trans hle8
        clear hst7 hfr7 hk8
        refine hK7 _ _ ?_; try clear hK7 K7
        refine seq_any fun K14 hK14 => ?_
        refine region_any (tch := [(1, 0, (fun _ => .blk _ _))]) (fun h => by cases h) hst8 hfr8 (by kernel_rfl) (by kernel_rfl) (by kernel_rfl) (.cons rfl (ob_loadLS' (j := 1) rfl rfl Tryd.isAgg24 Tryd.sizeOf24 rfl rfl) <|
            .consT rfl rfl (fun _ => rfl) rfl (ob_store' rfl rfl rfl Tryd.sizeOf24 rfl rfl rfl) <|
            .cons rfl (ob_assign rfl) <|
            .nil) ?_
        intro a9 w9 m9 hst9 hle9 hk9
        have hfr9 := hk9.fr (T' := [(0, _), (1, _), (2, _), (6, _), (8, _), (9, _), (10, _), (16, _), (7, _)]) (.old rfl rfl <| .old rfl rfl <| .old rfl rfl <| .old rfl rfl <| .old rfl rfl <| .old rfl rfl <| .old rfl rfl <| .old rfl rfl <| .new rfl <| .nil)
        replace hst9 := hst9.fin (L' := [_, _]) (.cons rfl <| .nil)
        replace hM := hM.trans hle9
        clear hst8 hfr8 hk9
        refine hK14 _ _ ?_; try clear hK14 K14
        refine wp_ret ?_
        repeat (with_reducible first | refine then_ret ?_ | refine block_ret ?_)
        exact fn_ret hst9 hfr9 rfl (.cell rfl (load_blk (blk_heap (hst9.loc.at_ (k := 0) rfl)) Tryd.isAgg24 Tryd.sizeOf24) <| .tmp rfl <| .nil) (by rw [show opRes [45] a b = (Vl 1 (IntKind.i64.wrap (a - b)) [] nilK, true) from rfl, ← wr_sub]; rfl)
      · simp at hb25
  · skip
    refine region_plain (fun h => by cases h) hst4 hfr4 (by kernel_rfl) (by kernel_rfl) (.cons rfl (ob_move rfl) <|
        .nil) ?_
    intro a5 w5 m5 hst5 hle5 hk5
    have hfr5 := hk5.fr (T' := [(0, _), (1, _), (2, _), (7, _), (6, _), (8, _), (9, _), (10, _), (16, _)]) (.old rfl rfl <| .old rfl rfl <| .old rfl rfl <| .old rfl rfl <| .old rfl rfl <| .old rfl rfl <| .old rfl rfl <| .old rfl rfl <| .new rfl <| .nil)
    replace hM := hM.trans hle5
    clear hst4 hfr4 hk5
    refine hK8 _ _ ?_; try clear hK8 K8
    refine wp_block ?_
    refine seq_any fun K16 hK16 => ?_
    refine region_plain (fun h => by cases h) hst5 hfr5 (by kernel_rfl) (by kernel_rfl) (.cons rfl (ob_seql rfl rfl) <|
        .cons rfl (ob_assign rfl) <|
        .nil) ?_
    intro a6 w6 m6 hst6 hle6 hk6
    have hfr6 := hk6.fr (T' := [(0, _), (1, _), (2, _), (7, _), (6, _), (8, _), (9, _), (10, _), (16, _), (18, _)]) (.old rfl rfl <| .old rfl rfl <| .old rfl rfl <| .old rfl rfl <| .old rfl rfl <| .old rfl rfl <| .old rfl rfl <| .old rfl rfl <| .old rfl rfl <| .new rfl <| .nil)
    replace hM := hM.trans hle6
    clear hst5 hfr5 hk6
    refine hK16 _ _ ?_; try clear hK16 K16
    refine cond_any hfr6 rfl rfl (fun hb18 => ?_) (fun hb18 => ?_)
    · simp at hb18
    · try simp only [Bool.not_eq_true', Bool.not_eq_false', decide_eq_true_eq, decide_eq_false_iff_not, Bool.and_eq_true, Bool.or_eq_true, Bool.and_eq_false_iff, Bool.or_eq_false_iff, Bool.not_not, u8_eq] at hb18
      refine seq_any fun K17 hK17 => ?_
      refine region_plain (fun h => by cases h) hst6 hfr6 (by kernel_rfl) (by kernel_rfl) (.cons rfl (ob_seql rfl rfl) <|
          .cons rfl (ob_assign rfl) <|
          .nil) ?_
      intro a7 w7 m7 hst7 hle7 hk7
      have hfr7 := hk7.fr (T' := [(0, _), (1, _), (2, _), (7, _), (6, _), (8, _), (9, _), (10, _), (16, _), (25, _)]) (.old rfl rfl <| .old rfl rfl <| .old rfl rfl <| .old rfl rfl <| .old rfl rfl <| .old rfl rfl <| .old rfl rfl <| .old rfl rfl <| .old rfl rfl <| .new rfl <| .nil)
      replace hM := hM.trans hle7
      clear hst6 hfr6 hk7
      refine hK17 _ _ ?_; try clear hK17 K17
      refine cond_any hfr7 rfl rfl (fun hb25 => ?_) (fun hb25 => ?_)
      · simp at hb25
      · try simp only [Bool.not_eq_true', Bool.not_eq_false', decide_eq_true_eq, decide_eq_false_iff_not, Bool.and_eq_true, Bool.or_eq_true, Bool.and_eq_false_iff, Bool.or_eq_false_iff, Bool.not_not, u8_eq] at hb25
        refine seq_any fun K18 hK18 => ?_
        refine region_plain (fun h => by cases h) hst7 hfr7 (by kernel_rfl) (by kernel_rfl) (.cons rfl (ob_seql rfl rfl) <|
            .cons rfl (ob_assign rfl) <|
            .nil) ?_
        intro a8 w8 m8 hst8 hle8 hk8
        have hfr8 := hk8.fr (T' := [(0, _), (1, _), (2, _), (7, _), (6, _), (8, _), (9, _), (10, _), (16, _), (32, _)]) (.old rfl rfl <| .old rfl rfl <| .old rfl rfl <| .old rfl rfl <| .old rfl rfl <| .old rfl rfl <| .old rfl rfl <| .old rfl rfl <| .old rfl rfl <| .new rfl <| .nil)
        replace hM := hM.trans hle8
        clear hst7 hfr7 hk8
        refine hK18 _ _ ?_; try clear hK18 K18
        refine cond_any hfr8 rfl rfl (fun hb32 => ?_) (fun hb32 => ?_)
        · try simp only [Bool.not_eq_true', Bool.not_eq_false', decide_eq_true_eq, decide_eq_false_iff_not, Bool.and_eq_true, Bool.or_eq_true, Bool.and_eq_false_iff, Bool.or_eq_false_iff, Bool.not_not, u8_eq] at hb32
          refine region_any (tch := [(5, 1, (fun _ => .blk _ _))]) (fun h => by cases h) hst8 hfr8 (by kernel_rfl) (by kernel_rfl) (by kernel_rfl) (.cons rfl (ob_move rfl) <|
              .cons rfl (ob_move rfl) <|
              .cons rfl (ob_mulW rfl rfl) <|
              .cons rfl (ob_conv_int rfl Tryd.underlying35 Tryd.underlying3) <|
              .cons rfl (ob_fieldAddr rfl Tryd.underlying24 rfl Tryd.sizeOf3 rfl) <|
              .consT rfl rfl (fun _ => rfl) rfl (ob_store rfl rfl rfl Tryd.sizeOf3 rfl rfl rfl) <|
              .nil) ?_
          intro a9 w9 m9 hst9 hle9 hk9
          have hfr9 := hk9.fr (T' := [(0, _), (1, _), (2, _), (7, _), (6, _), (8, _), (9, _), (10, _), (16, _)]) (.old rfl rfl <| .old rfl rfl <| .old rfl rfl <| .old rfl rfl <| .old rfl rfl <| .old rfl rfl <| .old rfl rfl <| .old rfl rfl <| .old rfl rfl <| .nil)
          replace hst9 := hst9.fin (L' := [_, _]) (.cons rfl <| .nil)
          replace hM := hM.trans hle9
          clear hst8 hfr8 hk9
          refine hK7 _ _ ?_; try clear hK7 K7
          refine seq_any fun K19 hK19 => ?_
          refine region_any (tch := [(1, 0, (fun _ => .blk _ _))]) (fun h => by cases h) hst9 hfr9 (by kernel_rfl) (by kernel_rfl) (by kernel_rfl) (.cons rfl (ob_loadLS' (j := 1) rfl rfl Tryd.isAgg24 Tryd.sizeOf24 rfl rfl) <|
              .consT rfl rfl (fun _ => rfl) rfl (ob_store' rfl rfl rfl Tryd.sizeOf24 rfl rfl rfl) <|
              .cons rfl (ob_assign rfl) <|
              .nil) ?_
          intro a10 w10 m10 hst10 hle10 hk10
          have hfr10 := hk10.fr (T' := [(0, _), (1, _), (2, _), (6, _), (8, _), (9, _), (10, _), (16, _), (7, _)]) (.old rfl rfl <| .old rfl rfl <| .old rfl rfl <| .old rfl rfl <| .old rfl rfl <| .old rfl rfl <| .old rfl rfl <| .old rfl rfl <| .new rfl <| .nil)
          replace hst10 := hst10.fin (L' := [_, _]) (.cons rfl <| .nil)
          replace hM := hM.trans hle10
          clear hst9 hfr9 hk10
          refine hK19 _ _ ?_; try clear hK19 K19
          refine wp_ret ?_
          repeat (with_reducible first | refine then_ret ?_ | refine block_ret ?_)
          exact fn_ret hst10 hfr10 rfl (.cell rfl (load_blk (blk_heap (hst10.loc.at_ (k := 0) rfl)) Tryd.isAgg24 Tryd.sizeOf24) <| .tmp rfl <| .nil) (by rw [show opRes [42] a b = (Vl 1 (IntKind.i64.wrap (a * b)) [] nilK, true) from rfl, ← wr_mul]; rfl)
        · simp at hb32
  · skip
    refine region_plain (fun h => by cases h) hst4 hfr4 (by kernel_rfl) (by kernel_rfl) (.cons rfl (ob_move rfl) <|
        .nil) ?_
    intro a5 w5 m5 hst5 hle5 hk5
    have hfr5 := hk5.fr (T' := [(0, _), (1, _), (2, _), (7, _), (6, _), (8, _), (9, _), (10, _), (16, _)]) (.old rfl rfl <| .old rfl rfl <| .old rfl rfl <| .old rfl rfl <| .old rfl rfl <| .old rfl rfl <| .old rfl rfl <| .old rfl rfl <| .new rfl <| .nil)
    replace hM := hM.trans hle5
    clear hst4 hfr4 hk5
    refine hK8 _ _ ?_; try clear hK8 K8
    refine wp_block ?_
    refine seq_any fun K21 hK21 => ?_
    refine region_plain (fun h => by cases h) hst5 hfr5 (by kernel_rfl) (by kernel_rfl) (.cons rfl (ob_seql rfl rfl) <|
        .cons rfl (ob_assign rfl) <|
        .nil) ?_
    intro a6 w6 m6 hst6 hle6 hk6
    have hfr6 := hk6.fr (T' := [(0, _), (1, _), (2, _), (7, _), (6, _), (8, _), (9, _), (10, _), (16, _), (18, _)]) (.old rfl rfl <| .old rfl rfl <| .old rfl rfl <| .old rfl rfl <| .old rfl rfl <| .old rfl rfl <| .old rfl rfl <| .old rfl rfl <| .old rfl rfl <| .new rfl <| .nil)
    replace hM := hM.trans hle6
    clear hst5 hfr5 hk6
    refine hK21 _ _ ?_; try clear hK21 K21
    refine cond_any hfr6 rfl rfl (fun hb18 => ?_) (fun hb18 => ?_)
    · simp at hb18
    · try simp only [Bool.not_eq_true', Bool.not_eq_false', decide_eq_true_eq, decide_eq_false_iff_not, Bool.and_eq_true, Bool.or_eq_true, Bool.and_eq_false_iff, Bool.or_eq_false_iff, Bool.not_not, u8_eq] at hb18
      refine seq_any fun K22 hK22 => ?_
      refine region_plain (fun h => by cases h) hst6 hfr6 (by kernel_rfl) (by kernel_rfl) (.cons rfl (ob_seql rfl rfl) <|
          .cons rfl (ob_assign rfl) <|
          .nil) ?_
      intro a7 w7 m7 hst7 hle7 hk7
      have hfr7 := hk7.fr (T' := [(0, _), (1, _), (2, _), (7, _), (6, _), (8, _), (9, _), (10, _), (16, _), (25, _)]) (.old rfl rfl <| .old rfl rfl <| .old rfl rfl <| .old rfl rfl <| .old rfl rfl <| .old rfl rfl <| .old rfl rfl <| .old rfl rfl <| .old rfl rfl <| .new rfl <| .nil)
      replace hM := hM.trans hle7
      clear hst6 hfr6 hk7
      refine hK22 _ _ ?_; try clear hK22 K22
      refine cond_any hfr7 rfl rfl (fun hb25 => ?_) (fun hb25 => ?_)
      · simp at hb25
      · try simp only [Bool.not_eq_true', Bool.not_eq_false', decide_eq_true_eq, decide_eq_false_iff_not, Bool.and_eq_true, Bool.or_eq_true, Bool.and_eq_false_iff, Bool.or_eq_false_iff, Bool.not_not, u8_eq] at hb25
        refine seq_any fun K23 hK23 => ?_
        refine region_plain (fun h => by cases h) hst7 hfr7 (by kernel_rfl) (by kernel_rfl) (.cons rfl (ob_seql rfl rfl) <|
            .cons rfl (ob_assign rfl) <|
            .nil) ?_
        intro a8 w8 m8 hst8 hle8 hk8
        have hfr8 := hk8.fr (T' := [(0, _), (1, _), (2, _), (7, _), (6, _), (8, _), (9, _), (10, _), (16, _), (32, _)]) (.old rfl rfl <| .old rfl rfl <| .old rfl rfl <| .old rfl rfl <| .old rfl rfl <| .old rfl rfl <| .old rfl rfl <| .old rfl rfl <| .old rfl rfl <| .new rfl <| .nil)
        replace hM := hM.trans hle8
        clear hst7 hfr7 hk8
        refine hK23 _ _ ?_; try clear hK23 K23
        refine cond_any hfr8 rfl rfl (fun hb32 => ?_) (fun hb32 => ?_)
        · simp at hb32
        · try simp only [Bool.not_eq_true', Bool.not_eq_false', decide_eq_true_eq, decide_eq_false_iff_not, Bool.and_eq_true, Bool.or_eq_true, Bool.and_eq_false_iff, Bool.or_eq_false_iff, Bool.not_not, u8_eq] at hb32
          refine seq_any fun K24 hK24 => ?_
          refine region_plain (fun h => by cases h) hst8 hfr8 (by kernel_rfl) (by kernel_rfl) (.cons rfl (ob_seql rfl rfl) <|
              .cons rfl (ob_assign rfl) <|
              .nil) ?_
          intro a9 w9 m9 hst9 hle9 hk9
          have hfr9 := hk9.fr (T' := [(0, _), (1, _), (2, _), (7, _), (6, _), (8, _), (9, _), (10, _), (16, _), (39, _)]) (.old rfl rfl <| .old rfl rfl <| .old rfl rfl <| .old rfl rfl <| .old rfl rfl <| .old rfl rfl <| .old rfl rfl <| .old rfl rfl <| .old rfl rfl <| .new rfl <| .nil)
          replace hM := hM.trans hle9
          clear hst8 hfr8 hk9
          refine hK24 _ _ ?_; try clear hK24 K24
          refine cond_any hfr9 rfl rfl (fun hb39 => ?_) (fun hb39 => ?_)
          · try simp only [Bool.not_eq_true', Bool.not_eq_false', decide_eq_true_eq, decide_eq_false_iff_not, Bool.and_eq_true, Bool.or_eq_true, Bool.and_eq_false_iff, Bool.or_eq_false_iff, Bool.not_not, u8_eq] at hb39
            refine seq_any fun K25 hK25 => ?_
            refine seq_any fun K26 hK26 => ?_
            refine region_plain (fun h => by cases h) hst9 hfr9 (by kernel_rfl) (by kernel_rfl) (.cons rfl (ob_move rfl) <|
                .cons rfl (ob_eql rfl rfl) <|
                .nil) ?_
            intro a10 w10 m10 hst10 hle10 hk10
            have hfr10 := hk10.fr (T' := [(0, _), (1, _), (2, _), (7, _), (6, _), (8, _), (9, _), (10, _), (16, _), (42, _)]) (.old rfl rfl <| .old rfl rfl <| .old rfl rfl <| .old rfl rfl <| .old rfl rfl <| .old rfl rfl <| .old rfl rfl <| .old rfl rfl <| .old rfl rfl <| .new rfl <| .nil)
            replace hM := hM.trans hle10
            clear hst9 hfr9 hk10
            refine hK26 _ _ ?_; try clear hK26 K26
            refine cond_any hfr10 rfl rfl (fun hb42 => ?_) (fun hb42 => ?_)
            · try simp only [Bool.not_eq_true', Bool.not_eq_false', decide_eq_true_eq, decide_eq_false_iff_not, Bool.and_eq_true, Bool.or_eq_true, Bool.and_eq_false_iff, Bool.or_eq_false_iff, Bool.not_not, u8_eq] at hb42
              refine seq_any fun K27 hK27 => ?_
              refine region_any (tch := [(1, 0, (fun _ => .blk _ _))]) (fun h => by cases h) hst10 hfr10 (by kernel_rfl) (by kernel_rfl) (by kernel_rfl) (.cons rfl (ob_buildS (.nil) Tryd.underlying24 Tryd.zeroValue24 (.cons Tryd.sizeOf3 <| .cons Tryd.sizeOf3 <| .cons Tryd.sizeOf9 <| .cons Tryd.sizeOf22 <| .nil) rfl) <|
                  .consT rfl rfl (fun _ => rfl) rfl (ob_store' rfl rfl rfl Tryd.sizeOf24 rfl rfl rfl) <|
                  .cons rfl (ob_assign rfl) <|
                  .nil) ?_
              intro a11 w11 m11 hst11 hle11 hk11
              have hfr11 := hk11.fr (T' := [(0, _), (1, _), (2, _), (6, _), (8, _), (9, _), (10, _), (16, _), (7, _)]) (.old rfl rfl <| .old rfl rfl <| .old rfl rfl <| .old rfl rfl <| .old rfl rfl <| .old rfl rfl <| .old rfl rfl <| .old rfl rfl <| .new rfl <| .nil)
              replace hst11 := hst11.fin (L' := [_, _]) (.cons rfl <| .nil)
              replace hM := hM.trans hle11
              clear hst10 hfr10 hk11
              refine hK27 _ _ ?_; try clear hK27 K27
              refine wp_ret ?_
              repeat (with_reducible first | refine then_ret ?_ | refine block_ret ?_)
              exact fn_ret hst11 hfr11 rfl (.cell rfl (load_blk (blk_heap (hst11.loc.at_ (k := 0) rfl)) Tryd.isAgg24 Tryd.sizeOf24) <| .tmp rfl <| .nil) (by first | (rw [show opRes [47] a b = (Vl 0 (0) [] nilK, false) from by simp [opRes, hb42]]; rfl) | (subst hb45; rw [show opRes [47] a (-1) = (Vl 1 (IntKind.i64.wrap (a.tdiv (-1))) [] nilK, true) from rfl, ← wr_neg]; rfl) | (rw [show opRes [47] a b = (Vl 1 (IntKind.i64.wrap (a.tdiv b)) [] nilK, true) from by simp [opRes, hb42]]; rfl))
            · try simp only [Bool.not_eq_true', Bool.not_eq_false', decide_eq_true_eq, decide_eq_false_iff_not, Bool.and_eq_true, Bool.or_eq_true, Bool.and_eq_false_iff, Bool.or_eq_false_iff, Bool.not_not, u8_eq] at hb42
              refine wp_skip ?_
              refine hK25 _ _ ?_; try clear hK25 K25
              refine seq_any fun K29 hK29 => ?_
              refine region_plain (fun h => by cases h) hst10 hfr10 (by kernel_rfl) (by kernel_rfl) (.cons rfl (ob_move rfl) <|
                  .cons rfl (ob_eql rfl rfl) <|
                  .nil) ?_
              intro a11 w11 m11 hst11 hle11 hk11
              have hfr11 := hk11.fr (T' := [(0, _), (1, _), (2, _), (7, _), (6, _), (8, _), (9, _), (10, _), (16, _), (45, _)]) (.old rfl rfl <| .old rfl rfl <| .old rfl rfl <| .old rfl rfl <| .old rfl rfl <| .old rfl rfl <| .old rfl rfl <| .old rfl rfl <| .old rfl rfl <| .new rfl <| .nil)
              replace hM := hM.trans hle11
              clear hst10 hfr10 hk11
              refine hK29 _ _ ?_; try clear hK29 K29
              refine cond_any hfr11 rfl rfl (fun hb45 => ?_) (fun hb45 => ?_)
              · try simp only [Bool.not_eq_true', Bool.not_eq_false', decide_eq_true_eq, decide_eq_false_iff_not, Bool.and_eq_true, Bool.or_eq_true, Bool.and_eq_false_iff, Bool.or_eq_false_iff, Bool.not_not, u8_eq] at hb45
                refine region_any (tch := [(4, 1, (fun _ => .blk _ _))]) (fun h => by cases h) hst11 hfr11 (by kernel_rfl) (by kernel_rfl) (by kernel_rfl) (.cons rfl (ob_move rfl) <|
                    .cons rfl (ob_subW rfl rfl) <|
                    .cons rfl (ob_conv_int rfl Tryd.underlying35 Tryd.underlying3) <|
                    .cons rfl (ob_fieldAddr rfl Tryd.underlying24 rfl Tryd.sizeOf3 rfl) <|
                    .consT rfl rfl (fun _ => rfl) rfl (ob_store rfl rfl rfl Tryd.sizeOf3 rfl rfl rfl) <|
                    .nil) ?_
                intro a12 w12 m12 hst12 hle12 hk12
                have hfr12 := hk12.fr (T' := [(0, _), (1, _), (2, _), (7, _), (6, _), (8, _), (9, _), (10, _), (16, _)]) (.old rfl rfl <| .old rfl rfl <| .old rfl rfl <| .old rfl rfl <| .old rfl rfl <| .old rfl rfl <| .old rfl rfl <| .old rfl rfl <| .old rfl rfl <| .nil)
                replace hst12 := hst12.fin (L' := [_, _]) (.cons rfl <| .nil)
                replace hM := hM.trans hle12
                clear hst11 hfr11 hk12
                refine hK7 _ _ ?_; try clear hK7 K7
                refine seq_any fun K30 hK30 => ?_
                refine region_any (tch := [(1, 0, (fun _ => .blk _ _))]) (fun h => by cases h) hst12 hfr12 (by kernel_rfl) (by kernel_rfl) (by kernel_rfl) (.cons rfl (ob_loadLS' (j := 1) rfl rfl Tryd.isAgg24 Tryd.sizeOf24 rfl rfl) <|
                    .consT rfl rfl (fun _ => rfl) rfl (ob_store' rfl rfl rfl Tryd.sizeOf24 rfl rfl rfl) <|
                    .cons rfl (ob_assign rfl) <|
                    .nil) ?_
                intro a13 w13 m13 hst13 hle13 hk13
                have hfr13 := hk13.fr (T' := [(0, _), (1, _), (2, _), (6, _), (8, _), (9, _), (10, _), (16, _), (7, _)]) (.old rfl rfl <| .old rfl rfl <| .old rfl rfl <| .old rfl rfl <| .old rfl rfl <| .old rfl rfl <| .old rfl rfl <| .old rfl rfl <| .new rfl <| .nil)
                replace hst13 := hst13.fin (L' := [_, _]) (.cons rfl <| .nil)
                replace hM := hM.trans hle13
                clear hst12 hfr12 hk13
                refine hK30 _ _ ?_; try clear hK30 K30
                refine wp_ret ?_
                repeat (with_reducible first | refine then_ret ?_ | refine block_ret ?_)
                exact fn_ret hst13 hfr13 rfl (.cell rfl (load_blk (blk_heap (hst13.loc.at_ (k := 0) rfl)) Tryd.isAgg24 Tryd.sizeOf24) <| .tmp rfl <| .nil) (by first | (rw [show opRes [47] a b = (Vl 0 (0) [] nilK, false) from by simp [opRes, hb42]]; rfl) | (subst hb45; rw [show opRes [47] a (-1) = (Vl 1 (IntKind.i64.wrap (a.tdiv (-1))) [] nilK, true) from rfl, ← wr_neg]; rfl) | (rw [show opRes [47] a b = (Vl 1 (IntKind.i64.wrap (a.tdiv b)) [] nilK, true) from by simp [opRes, hb42]]; rfl))
              · try simp only [Bool.not_eq_true', Bool.not_eq_false', decide_eq_true_eq, decide_eq_false_iff_not, Bool.and_eq_true, Bool.or_eq_true, Bool.and_eq_false_iff, Bool.or_eq_false_iff, Bool.not_not, u8_eq] at hb45
                refine region_any (tch := [(4, 1, (fun _ => .blk _ _))]) (fun h => by cases h) hst11 hfr11 (by kernel_rfl) (by kernel_rfl) (by kernel_rfl) (.cons rfl (ob_move rfl) <|
                    .cons rfl (ob_move rfl) <|
                    .cons rfl (ob_quoW rfl rfl hb42) <|
                    .cons rfl (ob_fieldAddr rfl Tryd.underlying24 rfl Tryd.sizeOf3 rfl) <|
                    .consT rfl rfl (fun _ => rfl) rfl (ob_store rfl rfl rfl Tryd.sizeOf3 rfl rfl rfl) <|
                    .nil) ?_
                intro a12 w12 m12 hst12 hle12 hk12
                have hfr12 := hk12.fr (T' := [(0, _), (1, _), (2, _), (7, _), (6, _), (8, _), (9, _), (10, _), (16, _)]) (.old rfl rfl <| .old rfl rfl <| .old rfl rfl <| .old rfl rfl <| .old rfl rfl <| .old rfl rfl <| .old rfl rfl <| .old rfl rfl <| .old rfl rfl <| .nil)
                replace hst12 := hst12.fin (L' := [_, _]) (.cons rfl <| .nil)
                replace hM := hM.trans hle12
                clear hst11 hfr11 hk12
                refine hK7 _ _ ?_; try clear hK7 K7
                refine seq_any fun K32 hK32 => ?_
                refine region_any (tch := [(1, 0, (fun _ => .blk _ _))]) (fun h => by cases h) hst12 hfr12 (by kernel_rfl) (by kernel_rfl) (by kernel_rfl) (.cons rfl (ob_loadLS' (j := 1) rfl rfl Tryd.isAgg24 Tryd.sizeOf24 rfl rfl) <|
                    .consT rfl rfl (fun _ => rfl) rfl (ob_store' rfl rfl rfl Tryd.sizeOf24 rfl rfl rfl) <|
                    .cons rfl (ob_assign rfl) <|
                    .nil) ?_
                intro a13 w13 m13 hst13 hle13 hk13
                have hfr13 := hk13.fr (T' := [(0, _), (1, _), (2, _), (6, _), (8, _), (9, _), (10, _), (16, _), (7, _)]) (.old rfl rfl <| .old rfl rfl <| .old rfl rfl <| .old rfl rfl <| .old rfl rfl <| .old rfl rfl <| .old rfl rfl <| .old rfl rfl <| .new rfl <| .nil)
                replace hst13 := hst13.fin (L' := [_, _]) (.cons rfl <| .nil)
                replace hM := hM.trans hle13
                clear hst12 hfr12 hk13
                refine hK32 _ _ ?_; try clear hK32 K32
                refine wp_ret ?_
                repeat (with_reducible first | refine then_ret ?_ | refine block_ret ?_)
                exact fn_ret hst13 hfr13 rfl (.cell rfl (load_blk (blk_heap (hst13.loc.at_ (k := 0) rfl)) Tryd.isAgg24 Tryd.sizeOf24) <| .tmp rfl <| .nil) (by first | (rw [show opRes [47] a b = (Vl 0 (0) [] nilK, false) from by simp [opRes, hb42]]; rfl) | (subst hb45; rw [show opRes [47] a (-1) = (Vl 1 (IntKind.i64.wrap (a.tdiv (-1))) [] nilK, true) from rfl, ← wr_neg]; rfl) | (rw [show opRes [47] a b = (Vl 1 (IntKind.i64.wrap (a.tdiv b)) [] nilK, true) from by simp [opRes, hb42]]; rfl))
          · simp at hb39
  · skip
    refine region_plain (fun h => by cases h) hst4 hfr4 (by kernel_rfl) (by kernel_rfl) (.cons rfl (ob_move rfl) <|
        .nil) ?_
    intro a5 w5 m5 hst5 hle5 hk5
    have hfr5 := hk5.fr (T' := [(0, _), (1, _), (2, _), (7, _), (6, _), (8, _), (9, _), (10, _), (16, _)]) (.old rfl rfl <| .old rfl rfl <| .old rfl rfl <| .old rfl rfl <| .old rfl rfl <| .old rfl rfl <| .old rfl rfl <| .old rfl rfl <| .new rfl <| .nil)
    replace hM := hM.trans hle5
    clear hst4 hfr4 hk5
    refine hK8 _ _ ?_; try clear hK8 K8
    refine wp_block ?_
    refine seq_any fun K34 hK34 => ?_
    refine region_plain (fun h => by cases h) hst5 hfr5 (by kernel_rfl) (by kernel_rfl) (.cons rfl (ob_seql rfl rfl) <|
        .cons rfl (ob_assign rfl) <|
        .nil) ?_
    intro a6 w6 m6 hst6 hle6 hk6
    have hfr6 := hk6.fr (T' := [(0, _), (1, _), (2, _), (7, _), (6, _), (8, _), (9, _), (10, _), (16, _), (18, _)]) (.old rfl rfl <| .old rfl rfl <| .old rfl rfl <| .old rfl rfl <| .old rfl rfl <| .old rfl rfl <| .old rfl rfl <| .old rfl rfl <| .old rfl rfl <| .new rfl <| .nil)
    replace hM := hM.trans hle6
    clear hst5 hfr5 hk6
    refine hK34 _ _ ?_; try clear hK34 K34
    refine cond_any hfr6 rfl rfl (fun hb18 => ?_) (fun hb18 => ?_)
    · simp at hb18
    · try simp only [Bool.not_eq_true', Bool.not_eq_false', decide_eq_true_eq, decide_eq_false_iff_not, Bool.and_eq_true, Bool.or_eq_true, Bool.and_eq_false_iff, Bool.or_eq_false_iff, Bool.not_not, u8_eq] at hb18
      refine seq_any fun K35 hK35 => ?_
      refine region_plain (fun h => by cases h) hst6 hfr6 (by kernel_rfl) (by kernel_rfl) (.cons rfl (ob_seql rfl rfl) <|
          .cons rfl (ob_assign rfl) <|
          .nil) ?_
      intro a7 w7 m7 hst7 hle7 hk7
      have hfr7 := hk7.fr (T' := [(0, _), (1, _), (2, _), (7, _), (6, _), (8, _), (9, _), (10, _), (16, _), (25, _)]) (.old rfl rfl <| .old rfl rfl <| .old rfl rfl <| .old rfl rfl <| .old rfl rfl <| .old rfl rfl <| .old rfl rfl <| .old rfl rfl <| .old rfl rfl <| .new rfl <| .nil)
      replace hM := hM.trans hle7
      clear hst6 hfr6 hk7
      refine hK35 _ _ ?_; try clear hK35 K35
      refine cond_any hfr7 rfl rfl (fun hb25 => ?_) (fun hb25 => ?_)
      · simp at hb25
      · try simp only [Bool.not_eq_true', Bool.not_eq_false', decide_eq_true_eq, decide_eq_false_iff_not, Bool.and_eq_true, Bool.or_eq_true, Bool.and_eq_false_iff, Bool.or_eq_false_iff, Bool.not_not, u8_eq] at hb25
        refine seq_any fun K36 hK36 => ?_
        refine region_plain (fun h => by cases h) hst7 hfr7 (by kernel_rfl) (by kernel_rfl) (.cons rfl (ob_seql rfl rfl) <|
            .cons rfl (ob_assign rfl) <|
            .nil) ?_
        intro a8 w8 m8 hst8 hle8 hk8
        have hfr8 := hk8.fr (T' := [(0, _), (1, _), (2, _), (7, _), (6, _), (8, _), (9, _), (10, _), (16, _), (32, _)]) (.old rfl rfl <| .old rfl rfl <| .old rfl rfl <| .old rfl rfl <| .old rfl rfl <| .old rfl rfl <| .old rfl rfl <| .old rfl rfl <| .old rfl rfl <| .new rfl <| .nil)
        replace hM := hM.trans hle8
        clear hst7 hfr7 hk8
        refine hK36 _ _ ?_; try clear hK36 K36
        refine cond_any hfr8 rfl rfl (fun hb32 => ?_) (fun hb32 => ?_)
        · simp at hb32
        · try simp only [Bool.not_eq_true', Bool.not_eq_false', decide_eq_true_eq, decide_eq_false_iff_not, Bool.and_eq_true, Bool.or_eq_true, Bool.and_eq_false_iff, Bool.or_eq_false_iff, Bool.not_not, u8_eq] at hb32
          refine seq_any fun K37 hK37 => ?_
          refine region_plain (fun h => by cases h) hst8 hfr8 (by kernel_rfl) (by kernel_rfl) (.cons rfl (ob_seql rfl rfl) <|
              .cons rfl (ob_assign rfl) <|
              .nil) ?_
          intro a9 w9 m9 hst9 hle9 hk9
          have hfr9 := hk9.fr (T' := [(0, _), (1, _), (2, _), (7, _), (6, _), (8, _), (9, _), (10, _), (16, _), (39, _)]) (.old rfl rfl <| .old rfl rfl <| .old rfl rfl <| .old rfl rfl <| .old rfl rfl <| .old rfl rfl <| .old rfl rfl <| .old rfl rfl <| .old rfl rfl <| .new rfl <| .nil)
          replace hM := hM.trans hle9
          clear hst8 hfr8 hk9
          refine hK37 _ _ ?_; try clear hK37 K37
          refine cond_any hfr9 rfl rfl (fun hb39 => ?_) (fun hb39 => ?_)
          · simp at hb39
          · try simp only [Bool.not_eq_true', Bool.not_eq_false', decide_eq_true_eq, decide_eq_false_iff_not, Bool.and_eq_true, Bool.or_eq_true, Bool.and_eq_false_iff, Bool.or_eq_false_iff, Bool.not_not, u8_eq] at hb39
            refine seq_any fun K38 hK38 => ?_
            refine region_plain (fun h => by cases h) hst9 hfr9 (by kernel_rfl) (by kernel_rfl) (.cons rfl (ob_seql rfl rfl) <|
                .cons rfl (ob_assign rfl) <|
                .nil) ?_
            intro a10 w10 m10 hst10 hle10 hk10
            have hfr10 := hk10.fr (T' := [(0, _), (1, _), (2, _), (7, _), (6, _), (8, _), (9, _), (10, _), (16, _), (54, _)]) (.old rfl rfl <| .old rfl rfl <| .old rfl rfl <| .old rfl rfl <| .old rfl rfl <| .old rfl rfl <| .old rfl rfl <| .old rfl rfl <| .old rfl rfl <| .new rfl <| .nil)
            replace hM := hM.trans hle10
            clear hst9 hfr9 hk10
            refine hK38 _ _ ?_; try clear hK38 K38
            refine cond_any hfr10 rfl rfl (fun hb54 => ?_) (fun hb54 => ?_)
            · try simp only [Bool.not_eq_true', Bool.not_eq_false', decide_eq_true_eq, decide_eq_false_iff_not, Bool.and_eq_true, Bool.or_eq_true, Bool.and_eq_false_iff, Bool.or_eq_false_iff, Bool.not_not, u8_eq] at hb54
              refine seq_any fun K39 hK39 => ?_
              refine region_any (tch := [(1, 1, (fun _ => .blk _ _))]) (fun h => by cases h) hst10 hfr10 (by kernel_rfl) (by kernel_rfl) (by kernel_rfl) (.cons rfl (ob_fieldAddr rfl Tryd.underlying24 rfl Tryd.sizeOf3 rfl) <|
                  .consT rfl rfl (fun _ => rfl) rfl (ob_store rfl rfl rfl Tryd.sizeOf3 rfl rfl rfl) <|
                  .nil) ?_
              intro a11 w11 m11 hst11 hle11 hk11
              have hfr11 := hk11.fr (T' := [(0, _), (1, _), (2, _), (7, _), (6, _), (8, _), (9, _), (10, _), (16, _)]) (.old rfl rfl <| .old rfl rfl <| .old rfl rfl <| .old rfl rfl <| .old rfl rfl <| .old rfl rfl <| .old rfl rfl <| .old rfl rfl <| .old rfl rfl <| .nil)
              replace hst11 := hst11.fin (L' := [_, _]) (.cons rfl <| .nil)
              replace hM := hM.trans hle11
              clear hst10 hfr10 hk11
              refine hK39 _ _ ?_; try clear hK39 K39
              refine seq_any fun K40 hK40 => ?_
              refine region_plain (fun h => by cases h) hst11 hfr11 (by kernel_rfl) (by kernel_rfl) (.cons rfl (ob_move rfl) <|
                  .cons rfl (ob_move rfl) <|
                  .cons rfl (ob_lss rfl rfl) <|
                  .nil) ?_
              intro a12 w12 m12 hst12 hle12 hk12
              have hfr12 := hk12.fr (T' := [(0, _), (1, _), (2, _), (7, _), (6, _), (8, _), (9, _), (10, _), (16, _), (59, _)]) (.old rfl rfl <| .old rfl rfl <| .old rfl rfl <| .old rfl rfl <| .old rfl rfl <| .old rfl rfl <| .old rfl rfl <| .old rfl rfl <| .old rfl rfl <| .new rfl <| .nil)
              replace hM := hM.trans hle12
              clear hst11 hfr11 hk12
              refine hK40 _ _ ?_; try clear hK40 K40
              refine cond_any hfr12 rfl rfl (fun hb59 => ?_) (fun hb59 => ?_)
              · try simp only [Bool.not_eq_true', Bool.not_eq_false', decide_eq_true_eq, decide_eq_false_iff_not, Bool.and_eq_true, Bool.or_eq_true, Bool.and_eq_false_iff, Bool.or_eq_false_iff, Bool.not_not, u8_eq] at hb59
                refine region_any (tch := [(1, 1, (fun _ => .blk _ _))]) (fun h => by cases h) hst12 hfr12 (by kernel_rfl) (by kernel_rfl) (by kernel_rfl) (.cons rfl (ob_fieldAddr rfl Tryd.underlying24 rfl Tryd.sizeOf3 rfl) <|
                    .consT rfl rfl (fun _ => rfl) rfl (ob_store rfl rfl rfl Tryd.sizeOf3 rfl rfl rfl) <|
                    .nil) ?_
                intro a13 w13 m13 hst13 hle13 hk13
                have hfr13 := hk13.fr (T' := [(0, _), (1, _), (2, _), (7, _), (6, _), (8, _), (9, _), (10, _), (16, _)]) (.old rfl rfl <| .old rfl rfl <| .old rfl rfl <| .old rfl rfl <| .old rfl rfl <| .old rfl rfl <| .old rfl rfl <| .old rfl rfl <| .old rfl rfl <| .nil)
                replace hst13 := hst13.fin (L' := [_, _]) (.cons rfl <| .nil)
                replace hM := hM.trans hle13
                clear hst12 hfr12 hk13
                refine hK7 _ _ ?_; try clear hK7 K7
                refine seq_any fun K41 hK41 => ?_
                refine region_any (tch := [(1, 0, (fun _ => .blk _ _))]) (fun h => by cases h) hst13 hfr13 (by kernel_rfl) (by kernel_rfl) (by kernel_rfl) (.cons rfl (ob_loadLS' (j := 1) rfl rfl Tryd.isAgg24 Tryd.sizeOf24 rfl rfl) <|
                    .consT rfl rfl (fun _ => rfl) rfl (ob_store' rfl rfl rfl Tryd.sizeOf24 rfl rfl rfl) <|
                    .cons rfl (ob_assign rfl) <|
                    .nil) ?_
                intro a14 w14 m14 hst14 hle14 hk14
                have hfr14 := hk14.fr (T' := [(0, _), (1, _), (2, _), (6, _), (8, _), (9, _), (10, _), (16, _), (7, _)]) (.old rfl rfl <| .old rfl rfl <| .old rfl rfl <| .old rfl rfl <| .old rfl rfl <| .old rfl rfl <| .old rfl rfl <| .old rfl rfl <| .new rfl <| .nil)
                replace hst14 := hst14.fin (L' := [_, _]) (.cons rfl <| .nil)
                replace hM := hM.trans hle14
                clear hst13 hfr13 hk14
                refine hK41 _ _ ?_; try clear hK41 K41
                refine wp_ret ?_
                repeat (with_reducible first | refine then_ret ?_ | refine block_ret ?_)
                exact fn_ret hst14 hfr14 rfl (.cell rfl (load_blk (blk_heap (hst14.loc.at_ (k := 0) rfl)) Tryd.isAgg24 Tryd.sizeOf24) <| .tmp rfl <| .nil) (by first | (rw [show opRes [60] a b = (Vl 2 (1) [] nilK, true) from by simp [opRes, hb59]]; rfl) | (rw [show opRes [60] a b = (Vl 2 (0) [] nilK, true) from by simp [opRes, hb59]]; rfl))
              · try simp only [Bool.not_eq_true', Bool.not_eq_false', decide_eq_true_eq, decide_eq_false_iff_not, Bool.and_eq_true, Bool.or_eq_true, Bool.and_eq_false_iff, Bool.or_eq_false_iff, Bool.not_not, u8_eq] at hb59
                refine wp_skip ?_
                refine hK7 _ _ ?_; try clear hK7 K7
                refine seq_any fun K43 hK43 => ?_
                refine region_any (tch := [(1, 0, (fun _ => .blk _ _))]) (fun h => by cases h) hst12 hfr12 (by kernel_rfl) (by kernel_rfl) (by kernel_rfl) (.cons rfl (ob_loadLS' (j := 1) rfl rfl Tryd.isAgg24 Tryd.sizeOf24 rfl rfl) <|
                    .consT rfl rfl (fun _ => rfl) rfl (ob_store' rfl rfl rfl Tryd.sizeOf24 rfl rfl rfl) <|
                    .cons rfl (ob_assign rfl) <|
                    .nil) ?_
                intro a13 w13 m13 hst13 hle13 hk13
                have hfr13 := hk13.fr (T' := [(0, _), (1, _), (2, _), (6, _), (8, _), (9, _), (10, _), (16, _), (7, _)]) (.old rfl rfl <| .old rfl rfl <| .old rfl rfl <| .old rfl rfl <| .old rfl rfl <| .old rfl rfl <| .old rfl rfl <| .old rfl rfl <| .new rfl <| .nil)
                replace hst13 := hst13.fin (L' := [_, _]) (.cons rfl <| .nil)
                replace hM := hM.trans hle13
                clear hst12 hfr12 hk13
                refine hK43 _ _ ?_; try clear hK43 K43
                refine wp_ret ?_
                repeat (with_reducible first | refine then_ret ?_ | refine block_ret ?_)
                exact fn_ret hst13 hfr13 rfl (.cell rfl (load_blk (blk_heap (hst13.loc.at_ (k := 0) rfl)) Tryd.isAgg24 Tryd.sizeOf24) <| .tmp rfl <| .nil) (by first | (rw [show opRes [60] a b = (Vl 2 (1) [] nilK, true) from by simp [opRes, hb59]]; rfl) | (rw [show opRes [60] a b = (Vl 2 (0) [] nilK, true) from by simp [opRes, hb59]]; rfl))
            · simp at hb54
  · skip
    refine region_plain (fun h => by cases h) hst4 hfr4 (by kernel_rfl) (by kernel_rfl) (.cons rfl (ob_move rfl) <|
        .nil) ?_
    intro a5 w5 m5 hst5 hle5 hk5
    have hfr5 := hk5.fr (T' := [(0, _), (1, _), (2, _), (7, _), (6, _), (8, _), (9, _), (10, _), (16, _)]) (.old rfl rfl <| .old rfl rfl <| .old rfl rfl <| .old rfl rfl <| .old rfl rfl <| .old rfl rfl <| .old rfl rfl <| .old rfl rfl <| .new rfl <| .nil)
    replace hM := hM.trans hle5
    clear hst4 hfr4 hk5
    refine hK8 _ _ ?_; try clear hK8 K8
    refine wp_block ?_
    refine seq_any fun K45 hK45 => ?_
    refine region_plain (fun h => by cases h) hst5 hfr5 (by kernel_rfl) (by kernel_rfl) (.cons rfl (ob_seql rfl rfl) <|
        .cons rfl (ob_assign rfl) <|
        .nil) ?_
    intro a6 w6 m6 hst6 hle6 hk6
    have hfr6 := hk6.fr (T' := [(0, _), (1, _), (2, _), (7, _), (6, _), (8, _), (9, _), (10, _), (16, _), (18, _)]) (.old rfl rfl <| .old rfl rfl <| .old rfl rfl <| .old rfl rfl <| .old rfl rfl <| .old rfl rfl <| .old rfl rfl <| .old rfl rfl <| .old rfl rfl <| .new rfl <| .nil)
    replace hM := hM.trans hle6
    clear hst5 hfr5 hk6
    refine hK45 _ _ ?_; try clear hK45 K45
    refine cond_any hfr6 rfl rfl (fun hb18 => ?_) (fun hb18 => ?_)
    · simp at hb18
    · try simp only [Bool.not_eq_true', Bool.not_eq_false', decide_eq_true_eq, decide_eq_false_iff_not, Bool.and_eq_true, Bool.or_eq_true, Bool.and_eq_false_iff, Bool.or_eq_false_iff, Bool.not_not, u8_eq] at hb18
      refine seq_any fun K46 hK46 => ?_
      refine region_plain (fun h => by cases h) hst6 hfr6 (by kernel_rfl) (by kernel_rfl) (.cons rfl (ob_seql rfl rfl) <|
          .cons rfl (ob_assign rfl) <|
          .nil) ?_
      intro a7 w7 m7 hst7 hle7 hk7
      have hfr7 := hk7.fr (T' := [(0, _), (1, _), (2, _), (7, _), (6, _), (8, _), (9, _), (10, _), (16, _), (25, _)]) (.old rfl rfl <| .old rfl rfl <| .old rfl rfl <| .old rfl rfl <| .old rfl rfl <| .old rfl rfl <| .old rfl rfl <| .old rfl rfl <| .old rfl rfl <| .new rfl <| .nil)
      replace hM := hM.trans hle7
      clear hst6 hfr6 hk7
      refine hK46 _ _ ?_; try clear hK46 K46
      refine cond_any hfr7 rfl rfl (fun hb25 => ?_) (fun hb25 => ?_)
      · simp at hb25
      · try simp only [Bool.not_eq_true', Bool.not_eq_false', decide_eq_true_eq, decide_eq_false_iff_not, Bool.and_eq_true, Bool.or_eq_true, Bool.and_eq_false_iff, Bool.or_eq_false_iff, Bool.not_not, u8_eq] at hb25
        refine seq_any fun K47 hK47 => ?_
        refine region_plain (fun h => by cases h) hst7 hfr7 (by kernel_rfl) (by kernel_rfl) (.cons rfl (ob_seql rfl rfl) <|
            .cons rfl (ob_assign rfl) <|
            .nil) ?_
        intro a8 w8 m8 hst8 hle8 hk8
        have hfr8 := hk8.fr (T' := [(0, _), (1, _), (2, _), (7, _), (6, _), (8, _), (9, _), (10, _), (16, _), (32, _)]) (.old rfl rfl <| .old rfl rfl <| .old rfl rfl <| .old rfl rfl <| .old rfl rfl <| .old rfl rfl <| .old rfl rfl <| .old rfl rfl <| .old rfl rfl <| .new rfl <| .nil)
        replace hM := hM.trans hle8
        clear hst7 hfr7 hk8
        refine hK47 _ _ ?_; try clear hK47 K47
        refine cond_any hfr8 rfl rfl (fun hb32 => ?_) (fun hb32 => ?_)
        · simp at hb32
        · try simp only [Bool.not_eq_true', Bool.not_eq_false', decide_eq_true_eq, decide_eq_false_iff_not, Bool.and_eq_true, Bool.or_eq_true, Bool.and_eq_false_iff, Bool.or_eq_false_iff, Bool.not_not, u8_eq] at hb32
          refine seq_any fun K48 hK48 => ?_
          refine region_plain (fun h => by cases h) hst8 hfr8 (by kernel_rfl) (by kernel_rfl) (.cons rfl (ob_seql rfl rfl) <|
              .cons rfl (ob_assign rfl) <|
              .nil) ?_
          intro a9 w9 m9 hst9 hle9 hk9
          have hfr9 := hk9.fr (T' := [(0, _), (1, _), (2, _), (7, _), (6, _), (8, _), (9, _), (10, _), (16, _), (39, _)]) (.old rfl rfl <| .old rfl rfl <| .old rfl rfl <| .old rfl rfl <| .old rfl rfl <| .old rfl rfl <| .old rfl rfl <| .old rfl rfl <| .old rfl rfl <| .new rfl <| .nil)
          replace hM := hM.trans hle9
          clear hst8 hfr8 hk9
          refine hK48 _ _ ?_; try clear hK48 K48
          refine cond_any hfr9 rfl rfl (fun hb39 => ?_) (fun hb39 => ?_)
          · simp at hb39
          · try simp only [Bool.not_eq_true', Bool.not_eq_false', decide_eq_true_eq, decide_eq_false_iff_not, Bool.and_eq_true, Bool.or_eq_true, Bool.and_eq_false_iff, Bool.or_eq_false_iff, Bool.not_not, u8_eq] at hb39
            refine seq_any fun K49 hK49 => ?_
            refine region_plain (fun h => by cases h) hst9 hfr9 (by kernel_rfl) (by kernel_rfl) (.cons rfl (ob_seql rfl rfl) <|
                .cons rfl (ob_assign rfl) <|
                .nil) ?_
            intro a10 w10 m10 hst10 hle10 hk10
            have hfr10 := hk10.fr (T' := [(0, _), (1, _), (2, _), (7, _), (6, _), (8, _), (9, _), (10, _), (16, _), (54, _)]) (.old rfl rfl <| .old rfl rfl <| .old rfl rfl <| .old rfl rfl <| .old rfl rfl <| .old rfl rfl <| .old rfl rfl <| .old rfl rfl <| .old rfl rfl <| .new rfl <| .nil)
            replace hM := hM.trans hle10
            clear hst9 hfr9 hk10
            refine hK49 _ _ ?_; try clear hK49 K49
            refine cond_any hfr10 rfl rfl (fun hb54 => ?_) (fun hb54 => ?_)
            · simp at hb54
            · try simp only [Bool.not_eq_true', Bool.not_eq_false', decide_eq_true_eq, decide_eq_false_iff_not, Bool.and_eq_true, Bool.or_eq_true, Bool.and_eq_false_iff, Bool.or_eq_false_iff, Bool.not_not, u8_eq] at hb54
              refine seq_any fun K50 hK50 => ?_
              refine region_plain (fun h => by cases h) hst10 hfr10 (by kernel_rfl) (by kernel_rfl) (.cons rfl (ob_seql rfl rfl) <|
                  .cons rfl (ob_assign rfl) <|
                  .nil) ?_
              intro a11 w11 m11 hst11 hle11 hk11
              have hfr11 := hk11.fr (T' := [(0, _), (1, _), (2, _), (7, _), (6, _), (8, _), (9, _), (10, _), (16, _), (61, _)]) (.old rfl rfl <| .old rfl rfl <| .old rfl rfl <| .old rfl rfl <| .old rfl rfl <| .old rfl rfl <| .old rfl rfl <| .old rfl rfl <| .old rfl rfl <| .new rfl <| .nil)
              replace hM := hM.trans hle11
              clear hst10 hfr10 hk11
              refine hK50 _ _ ?_; try clear hK50 K50
              refine cond_any hfr11 rfl rfl (fun hb61 => ?_) (fun hb61 => ?_)
              · try simp only [Bool.not_eq_true', Bool.not_eq_false', decide_eq_true_eq, decide_eq_false_iff_not, Bool.and_eq_true, Bool.or_eq_true, Bool.and_eq_false_iff, Bool.or_eq_false_iff, Bool.not_not, u8_eq] at hb61
                refine seq_any fun K51 hK51 => ?_
                refine region_any (tch := [(1, 1, (fun _ => .blk _ _))]) (fun h => by cases h) hst11 hfr11 (by kernel_rfl) (by kernel_rfl) (by kernel_rfl) (.cons rfl (ob_fieldAddr rfl Tryd.underlying24 rfl Tryd.sizeOf3 rfl) <|
                    .consT rfl rfl (fun _ => rfl) rfl (ob_store rfl rfl rfl Tryd.sizeOf3 rfl rfl rfl) <|
                    .nil) ?_
                intro a12 w12 m12 hst12 hle12 hk12
                have hfr12 := hk12.fr (T' := [(0, _), (1, _), (2, _), (7, _), (6, _), (8, _), (9, _), (10, _), (16, _)]) (.old rfl rfl <| .old rfl rfl <| .old rfl rfl <| .old rfl rfl <| .old rfl rfl <| .old rfl rfl <| .old rfl rfl <| .old rfl rfl <| .old rfl rfl <| .nil)
                replace hst12 := hst12.fin (L' := [_, _]) (.cons rfl <| .nil)
                replace hM := hM.trans hle12
                clear hst11 hfr11 hk12
                refine hK51 _ _ ?_; try clear hK51 K51
                refine seq_any fun K52 hK52 => ?_
                refine region_plain (fun h => by cases h) hst12 hfr12 (by kernel_rfl) (by kernel_rfl) (.cons rfl (ob_move rfl) <|
                    .cons rfl (ob_move rfl) <|
                    .cons rfl (ob_eql rfl rfl) <|
                    .nil) ?_
                intro a13 w13 m13 hst13 hle13 hk13
                have hfr13 := hk13.fr (T' := [(0, _), (1, _), (2, _), (7, _), (6, _), (8, _), (9, _), (10, _), (16, _), (66, _)]) (.old rfl rfl <| .old rfl rfl <| .old rfl rfl <| .old rfl rfl <| .old rfl rfl <| .old rfl rfl <| .old rfl rfl <| .old rfl rfl <| .old rfl rfl <| .new rfl <| .nil)
                replace hM := hM.trans hle13
                clear hst12 hfr12 hk13
                refine hK52 _ _ ?_; try clear hK52 K52
                refine cond_any hfr13 rfl rfl (fun hb66 => ?_) (fun hb66 => ?_)
                · try simp only [Bool.not_eq_true', Bool.not_eq_false', decide_eq_true_eq, decide_eq_false_iff_not, Bool.and_eq_true, Bool.or_eq_true, Bool.and_eq_false_iff, Bool.or_eq_false_iff, Bool.not_not, u8_eq] at hb66
                  refine region_any (tch := [(1, 1, (fun _ => .blk _ _))]) (fun h => by cases h) hst13 hfr13 (by kernel_rfl) (by kernel_rfl) (by kernel_rfl) (.cons rfl (ob_fieldAddr rfl Tryd.underlying24 rfl Tryd.sizeOf3 rfl) <|
                      .consT rfl rfl (fun _ => rfl) rfl (ob_store rfl rfl rfl Tryd.sizeOf3 rfl rfl rfl) <|
                      .nil) ?_
                  intro a14 w14 m14 hst14 hle14 hk14
                  have hfr14 := hk14.fr (T' := [(0, _), (1, _), (2, _), (7, _), (6, _), (8, _), (9, _), (10, _), (16, _)]) (.old rfl rfl <| .old rfl rfl <| .old rfl rfl <| .old rfl rfl <| .old rfl rfl <| .old rfl rfl <| .old rfl rfl <| .old rfl rfl <| .old rfl rfl <| .nil)
                  replace hst14 := hst14.fin (L' := [_, _]) (.cons rfl <| .nil)
                  replace hM := hM.trans hle14
                  clear hst13 hfr13 hk14
                  refine hK7 _ _ ?_; try clear hK7 K7
                  refine seq_any fun K53 hK53 => ?_
                  refine region_any (tch := [(1, 0, (fun _ => .blk _ _))]) (fun h => by cases h) hst14 hfr14 (by kernel_rfl) (by kernel_rfl) (by kernel_rfl) (.cons rfl (ob_loadLS' (j := 1) rfl rfl Tryd.isAgg24 Tryd.sizeOf24 rfl rfl) <|
                      .consT rfl rfl (fun _ => rfl) rfl (ob_store' rfl rfl rfl Tryd.sizeOf24 rfl rfl rfl) <|
                      .cons rfl (ob_assign rfl) <|
                      .nil) ?_
                  intro a15 w15 m15 hst15 hle15 hk15
                  have hfr15 := hk15.fr (T' := [(0, _), (1, _), (2, _), (6, _), (8, _), (9, _), (10, _), (16, _), (7, _)]) (.old rfl rfl <| .old rfl rfl <| .old rfl rfl <| .old rfl rfl <| .old rfl rfl <| .old rfl rfl <| .old rfl rfl <| .old rfl rfl <| .new rfl <| .nil)
                  replace hst15 := hst15.fin (L' := [_, _]) (.cons rfl <| .nil)
                  replace hM := hM.trans hle15
                  clear hst14 hfr14 hk15
                  refine hK53 _ _ ?_; try clear hK53 K53
                  refine wp_ret ?_
                  repeat (with_reducible first | refine then_ret ?_ | refine block_ret ?_)
                  exact fn_ret hst15 hfr15 rfl (.cell rfl (load_blk (blk_heap (hst15.loc.at_ (k := 0) rfl)) Tryd.isAgg24 Tryd.sizeOf24) <| .tmp rfl <| .nil) (by first | (have hq : a = b := (by have := wr_eq ha hb; simpa [hb66] using this.symm); rw [show opRes [61] a b = (Vl 2 (1) [] nilK, true) from by simp [opRes, hq]]; rfl) | (have hq : ¬ a = b := (by have := wr_eq ha hb; simpa [hb66] using this.symm); rw [show opRes [61] a b = (Vl 2 (0) [] nilK, true) from by simp [opRes, hq]]; rfl))
                · try simp only [Bool.not_eq_true', Bool.not_eq_false', decide_eq_true_eq, decide_eq_false_iff_not, Bool.and_eq_true, Bool.or_eq_true, Bool.and_eq_false_iff, Bool.or_eq_false_iff, Bool.not_not, u8_eq] at hb66
                  refine wp_skip ?_
                  refine hK7 _ _ ?_; try clear hK7 K7
                  refine seq_any fun K55 hK55 => ?_
                  refine region_any (tch := [(1, 0, (fun _ => .blk _ _))]) (fun h => by cases h) hst13 hfr13 (by kernel_rfl) (by kernel_rfl) (by kernel_rfl) (.cons rfl (ob_loadLS' (j := 1) rfl rfl Tryd.isAgg24 Tryd.sizeOf24 rfl rfl) <|
                      .consT rfl rfl (fun _ => rfl) rfl (ob_store' rfl rfl rfl Tryd.sizeOf24 rfl rfl rfl) <|
                      .cons rfl (ob_assign rfl) <|
                      .nil) ?_
                  intro a14 w14 m14 hst14 hle14 hk14
                  have hfr14 := hk14.fr (T' := [(0, _), (1, _), (2, _), (6, _), (8, _), (9, _), (10, _), (16, _), (7, _)]) (.old rfl rfl <| .old rfl rfl <| .old rfl rfl <| .old rfl rfl <| .old rfl rfl <| .old rfl rfl <| .old rfl rfl <| .old rfl rfl <| .new rfl <| .nil)
                  replace hst14 := hst14.fin (L' := [_, _]) (.cons rfl <| .nil)
                  replace hM := hM.trans hle14
                  clear hst13 hfr13 hk14
                  refine hK55 _ _ ?_; try clear hK55 K55
                  refine wp_ret ?_
                  repeat (with_reducible first | refine then_ret ?_ | refine block_ret ?_)
                  exact fn_ret hst14 hfr14 rfl (.cell rfl (load_blk (blk_heap (hst14.loc.at_ (k := 0) rfl)) Tryd.isAgg24 Tryd.sizeOf24) <| .tmp rfl <| .nil) (by first | (have hq : a = b := (by have := wr_eq ha hb; simpa [hb66] using this.symm); rw [show opRes [61] a b = (Vl 2 (1) [] nilK, true) from by simp [opRes, hq]]; rfl) | (have hq : ¬ a = b := (by have := wr_eq ha hb; simpa [hb66] using this.symm); rw [show opRes [61] a b = (Vl 2 (0) [] nilK, true) from by simp [opRes, hq]]; rfl))
              · simp at hb61
  · skip
    refine region_plain (fun h => by cases h) hst4 hfr4 (by kernel_rfl) (by kernel_rfl) (.cons rfl (ob_move rfl) <|
        .nil) ?_
    intro a5 w5 m5 hst5 hle5 hk5
    have hfr5 := hk5.fr (T' := [(0, _), (1, _), (2, _), (7, _), (6, _), (8, _), (9, _), (10, _), (16, _)]) (.old rfl rfl <| .old rfl rfl <| .old rfl rfl <| .old rfl rfl <| .old rfl rfl <| .old rfl rfl <| .old rfl rfl <| .old rfl rfl <| .new rfl <| .nil)
    replace hM := hM.trans hle5
    clear hst4 hfr4 hk5
    refine hK8 _ _ ?_; try clear hK8 K8
    refine wp_block ?_
    refine seq_any fun K57 hK57 => ?_
    refine region_plain (fun h => by cases h) hst5 hfr5 (by kernel_rfl) (by kernel_rfl) (.cons rfl (ob_seql rfl rfl) <|
        .cons rfl (ob_assign rfl) <|
        .nil) ?_
    intro a6 w6 m6 hst6 hle6 hk6
    have hfr6 := hk6.fr (T' := [(0, _), (1, _), (2, _), (7, _), (6, _), (8, _), (9, _), (10, _), (16, _), (18, _)]) (.old rfl rfl <| .old rfl rfl <| .old rfl rfl <| .old rfl rfl <| .old rfl rfl <| .old rfl rfl <| .old rfl rfl <| .old rfl rfl <| .old rfl rfl <| .new rfl <| .nil)
    replace hM := hM.trans hle6
    clear hst5 hfr5 hk6
    refine hK57 _ _ ?_; try clear hK57 K57
    refine cond_any hfr6 rfl rfl (fun hb18 => ?_) (fun hb18 => ?_)
    · exact absurd (by simpa using hb18) h1
    · try simp only [Bool.not_eq_true', Bool.not_eq_false', decide_eq_true_eq, decide_eq_false_iff_not, Bool.and_eq_true, Bool.or_eq_true, Bool.and_eq_false_iff, Bool.or_eq_false_iff, Bool.not_not, u8_eq] at hb18
      refine seq_any fun K58 hK58 => ?_
      refine region_plain (fun h => by cases h) hst6 hfr6 (by kernel_rfl) (by kernel_rfl) (.cons rfl (ob_seql rfl rfl) <|
          .cons rfl (ob_assign rfl) <|
          .nil) ?_
      intro a7 w7 m7 hst7 hle7 hk7
      have hfr7 := hk7.fr (T' := [(0, _), (1, _), (2, _), (7, _), (6, _), (8, _), (9, _), (10, _), (16, _), (25, _)]) (.old rfl rfl <| .old rfl rfl <| .old rfl rfl <| .old rfl rfl <| .old rfl rfl <| .old rfl rfl <| .old rfl rfl <| .old rfl rfl <| .old rfl rfl <| .new rfl <| .nil)
      replace hM := hM.trans hle7
      clear hst6 hfr6 hk7
      refine hK58 _ _ ?_; try clear hK58 K58
      refine cond_any hfr7 rfl rfl (fun hb25 => ?_) (fun hb25 => ?_)
      · exact absurd (by simpa using hb25) h2
      · try simp only [Bool.not_eq_true', Bool.not_eq_false', decide_eq_true_eq, decide_eq_false_iff_not, Bool.and_eq_true, Bool.or_eq_true, Bool.and_eq_false_iff, Bool.or_eq_false_iff, Bool.not_not, u8_eq] at hb25
        refine seq_any fun K59 hK59 => ?_
        refine region_plain (fun h => by cases h) hst7 hfr7 (by kernel_rfl) (by kernel_rfl) (.cons rfl (ob_seql rfl rfl) <|
            .cons rfl (ob_assign rfl) <|
            .nil) ?_
        intro a8 w8 m8 hst8 hle8 hk8
        have hfr8 := hk8.fr (T' := [(0, _), (1, _), (2, _), (7, _), (6, _), (8, _), (9, _), (10, _), (16, _), (32, _)]) (.old rfl rfl <| .old rfl rfl <| .old rfl rfl <| .old rfl rfl <| .old rfl rfl <| .old rfl rfl <| .old rfl rfl <| .old rfl rfl <| .old rfl rfl <| .new rfl <| .nil)
        replace hM := hM.trans hle8
        clear hst7 hfr7 hk8
        refine hK59 _ _ ?_; try clear hK59 K59
        refine cond_any hfr8 rfl rfl (fun hb32 => ?_) (fun hb32 => ?_)
        · exact absurd (by simpa using hb32) h3
        · try simp only [Bool.not_eq_true', Bool.not_eq_false', decide_eq_true_eq, decide_eq_false_iff_not, Bool.and_eq_true, Bool.or_eq_true, Bool.and_eq_false_iff, Bool.or_eq_false_iff, Bool.not_not, u8_eq] at hb32
          refine seq_any fun K60 hK60 => ?_
          refine region_plain (fun h => by cases h) hst8 hfr8 (by kernel_rfl) (by kernel_rfl) (.cons rfl (ob_seql rfl rfl) <|
              .cons rfl (ob_assign rfl) <|
              .nil) ?_
          intro a9 w9 m9 hst9 hle9 hk9
          have hfr9 := hk9.fr (T' := [(0, _), (1, _), (2, _), (7, _), (6, _), (8, _), (9, _), (10, _), (16, _), (39, _)]) (.old rfl rfl <| .old rfl rfl <| .old rfl rfl <| .old rfl rfl <| .old rfl rfl <| .old rfl rfl <| .old rfl rfl <| .old rfl rfl <| .old rfl rfl <| .new rfl <| .nil)
          replace hM := hM.trans hle9
          clear hst8 hfr8 hk9
          refine hK60 _ _ ?_; try clear hK60 K60
          refine cond_any hfr9 rfl rfl (fun hb39 => ?_) (fun hb39 => ?_)
          · exact absurd (by simpa using hb39) h4
          · try simp only [Bool.not_eq_true', Bool.not_eq_false', decide_eq_true_eq, decide_eq_false_iff_not, Bool.and_eq_true, Bool.or_eq_true, Bool.and_eq_false_iff, Bool.or_eq_false_iff, Bool.not_not, u8_eq] at hb39
            refine seq_any fun K61 hK61 => ?_
            refine region_plain (fun h => by cases h) hst9 hfr9 (by kernel_rfl) (by kernel_rfl) (.cons rfl (ob_seql rfl rfl) <|
                .cons rfl (ob_assign rfl) <|
                .nil) ?_
            intro a10 w10 m10 hst10 hle10 hk10
            have hfr10 := hk10.fr (T' := [(0, _), (1, _), (2, _), (7, _), (6, _), (8, _), (9, _), (10, _), (16, _), (54, _)]) (.old rfl rfl <| .old rfl rfl <| .old rfl rfl <| .old rfl rfl <| .old rfl rfl <| .old rfl rfl <| .old rfl rfl <| .old rfl rfl <| .old rfl rfl <| .new rfl <| .nil)
            replace hM := hM.trans hle10
            clear hst9 hfr9 hk10
            refine hK61 _ _ ?_; try clear hK61 K61
            refine cond_any hfr10 rfl rfl (fun hb54 => ?_) (fun hb54 => ?_)
            · exact absurd (by simpa using hb54) h5
            · try simp only [Bool.not_eq_true', Bool.not_eq_false', decide_eq_true_eq, decide_eq_false_iff_not, Bool.and_eq_true, Bool.or_eq_true, Bool.and_eq_false_iff, Bool.or_eq_false_iff, Bool.not_not, u8_eq] at hb54
              refine seq_any fun K62 hK62 => ?_
              refine region_plain (fun h => by cases h) hst10 hfr10 (by kernel_rfl) (by kernel_rfl) (.cons rfl (ob_seql rfl rfl) <|
                  .cons rfl (ob_assign rfl) <|
                  .nil) ?_
              intro a11 w11 m11 hst11 hle11 hk11
              have hfr11 := hk11.fr (T' := [(0, _), (1, _), (2, _), (7, _), (6, _), (8, _), (9, _), (10, _), (16, _), (61, _)]) (.old rfl rfl <| .old rfl rfl <| .old rfl rfl <| .old rfl rfl <| .old rfl rfl <| .old rfl rfl <| .old rfl rfl <| .old rfl rfl <| .old rfl rfl <| .new rfl <| .nil)
              replace hM := hM.trans hle11
              clear hst10 hfr10 hk11
              refine hK62 _ _ ?_; try clear hK62 K62
              refine cond_any hfr11 rfl rfl (fun hb61 => ?_) (fun hb61 => ?_)
              · exact absurd (by simpa using hb61) h6
              · try simp only [Bool.not_eq_true', Bool.not_eq_false', decide_eq_true_eq, decide_eq_false_iff_not, Bool.and_eq_true, Bool.or_eq_true, Bool.and_eq_false_iff, Bool.or_eq_false_iff, Bool.not_not, u8_eq] at hb61
                refine seq_any fun K63 hK63 => ?_
                refine region_any (tch := [(1, 0, (fun _ => .blk _ _))]) (fun h => by cases h) hst11 hfr11 (by kernel_rfl) (by kernel_rfl) (by kernel_rfl) (.cons rfl (ob_buildS (.nil) Tryd.underlying24 Tryd.zeroValue24 (.cons Tryd.sizeOf3 <| .cons Tryd.sizeOf3 <| .cons Tryd.sizeOf9 <| .cons Tryd.sizeOf22 <| .nil) rfl) <|
                    .consT rfl rfl (fun _ => rfl) rfl (ob_store' rfl rfl rfl Tryd.sizeOf24 rfl rfl rfl) <|
                    .cons rfl (ob_assign rfl) <|
                    .nil) ?_
                intro a12 w12 m12 hst12 hle12 hk12
                have hfr12 := hk12.fr (T' := [(0, _), (1, _), (2, _), (6, _), (8, _), (9, _), (10, _), (16, _), (7, _)]) (.old rfl rfl <| .old rfl rfl <| .old rfl rfl <| .old rfl rfl <| .old rfl rfl <| .old rfl rfl <| .old rfl rfl <| .old rfl rfl <| .new rfl <| .nil)
                replace hst12 := hst12.fin (L' := [_, _]) (.cons rfl <| .nil)
                replace hM := hM.trans hle12
                clear hst11 hfr11 hk12
                refine hK63 _ _ ?_; try clear hK63 K63
                refine wp_ret ?_
                repeat (with_reducible first | refine then_ret ?_ | refine block_ret ?_)
                exact fn_ret hst12 hfr12 rfl (.cell rfl (load_blk (blk_heap (hst12.loc.at_ (k := 0) rfl)) Tryd.isAgg24 Tryd.sizeOf24) <| .tmp rfl <| .nil) (by simp [opRes, bundle, h1, h2, h3, h4, h5, h6])

set_option maxHeartbeats 400000 in
theorem shown_c {w : World} {m : Mem}  (hA : Agree w m) (hT : Tab w) : FnV Tryd.prog 11 #[] w m (fun _ _ v => v = .bool true) := by
  refine fn_enter (vs := []) Tryd.func11 rfl rfl rfl fun a0 hfr0 => ?_
  have hst0 := st_enter hA (loc_nil [] _ w m)
  have hM : MLe m m := MLe.refl m
  refine seq_any fun K1 hK1 => ?_
  refine region_plain (fun h => by cases h) hst0 hfr0 (by kernel_rfl) (by kernel_rfl) (.cons rfl (ob_assign rfl) <|
      .nil) ?_
  intro a1 w1 m1 hst1 hle1 hk1
  have hfr1 := hk1.fr (T' := [(0, _)]) (.new rfl <| .nil)
  replace hM := hM.trans hle1
  clear hst0 hfr0 hk1
  refine hK1 _ _ ?_; try clear hK1 K1
  refine seq_any fun K2 hK2 => ?_
  replace hst1 := hst1.more (r := .free) trivial List.nodup_nil (by simp [Res.blocks])
  refine region_any (tch := [(1, 0, (fun v => .blk v _)), (2, 0, (fun v => .blk v _))]) (fun h => by cases h) hst1 hfr1 (by kernel_rfl) (by kernel_rfl) (by kernel_rfl) (.cons rfl (ob_buildS (.cons rfl <| .cons rfl <| .nil) Tryd.underlying24 Tryd.zeroValue24 (.cons Tryd.sizeOf3 <| .cons Tryd.sizeOf3 <| .cons Tryd.sizeOf9 <| .cons Tryd.sizeOf22 <| .nil) rfl) <|
      .consT rfl rfl (fun _ => rfl) rfl (ob_allocL Tryd.zeroValue24 rfl) <|
      .consT rfl rfl (fun _ => rfl) rfl (ob_imgT 1 rfl rfl rfl fun y1 => ob_storeF rfl rfl rfl rfl Tryd.sizeOf24 rfl rfl rfl) <|
      .nil) ?_
  intro a2 w2 m2 hst2 hle2 hk2
  have hfr2 := hk2.fr (T' := [(0, _)]) (.old rfl rfl <| .nil)
  obtain ⟨g3, e3, _⟩ := hk2.ex 1 rfl
  replace hfr2 := hfr2.cons e3
  replace hst2 := hst2.fin (L' := [_]) (.cons e3 <| .cons e3 <| .nil)
  replace hM := hM.trans hle2
  clear hst1 hfr1 hk2
  refine hK2 _ _ ?_; try clear hK2 K2
  refine seq_any fun K4 hK4 => ?_
  replace hst2 := hst2.more (r := .free) trivial List.nodup_nil (by simp [Res.blocks])
  refine region_any (tch := [(4, 1, (fun v => .blk v _)), (5, 1, (fun v => .blkx v _ _))]) (fun h => by cases h) hst2 hfr2 (by kernel_rfl) (by kernel_rfl) (by kernel_rfl) (.cons rfl (ob_buildS (.cons rfl <| .cons rfl <| .nil) Tryd.underlying24 Tryd.zeroValue24 (.cons Tryd.sizeOf3 <| .cons Tryd.sizeOf3 <| .cons Tryd.sizeOf9 <| .cons Tryd.sizeOf22 <| .nil) rfl) <|
      .cons rfl (ob_loadLS' (j := 0) rfl rfl Tryd.isAgg24 Tryd.sizeOf24 rfl rfl) <|
      .cons rfl (ob_buildSlice (.cons rfl <| .cons rfl <| .nil) Tryd.underlying22 Tryd.sizeOf24 Tryd.zeroValue24 rfl rfl rfl rfl) <|
      .cons rfl (ob_imgV 12 rfl rfl rfl fun y12 => ob_buildS (.cons rfl <| .cons rfl <| .cons rfl <| .nil) Tryd.underlying24 Tryd.zeroValue24 (.cons Tryd.sizeOf3 <| .cons Tryd.sizeOf3 <| .cons Tryd.sizeOf9 <| .cons Tryd.sizeOf22 <| .nil) rfl) <|
      .consT rfl rfl (fun _ => rfl) rfl (ob_allocL Tryd.zeroValue24 rfl) <|
      .consT rfl rfl (fun _ => rfl) rfl (ob_imgT 2 rfl rfl rfl fun y2 => ob_imgTX 13 rfl rfl rfl fun y13 => ob_storeF rfl rfl rfl rfl Tryd.sizeOf24 rfl rfl rfl) <|
      .nil) ?_
  intro a3 w3 m3 hst3 hle3 hk3
  have hfr3 := hk3.fr (T' := [(0, _), (1, _)]) (.old rfl rfl <| .old rfl rfl <| .nil)
  obtain ⟨g5, e5, _⟩ := hk3.ex 2 rfl
  replace hfr3 := hfr3.cons e5
  replace hst3 := hst3.fin (L' := [_, _]) (.cons e5 <| .cons e5 <| .nil)
  obtain ⟨g1, hcon, hst3⟩ := hst3.unx (k := 1) rfl (fun _ => rfl)
  replace hM := hM.trans hle3
  clear hst2 hfr2 hk3
  have hcv : VR m3 con0 [.int .i64 4, .int .i64 0, S [67, 111, 110, 115], .slice (some ⟨g1, 0, none⟩) 2 2] := VR.build (ks := [one0, nil0]) (Sl.two (vs := [.int .i64 1, .int .i64 1, S [], .slice none 0 0]) (us := [.int .i64 4, .int .i64 0, S [78, 105, 108], .slice none 0 0]) hcon rfl rfl (VR.leaf (by unfold InI64; omega) (by unfold InI64; omega)) (VR.leaf (by unfold InI64; omega) (by unfold InI64; omega))) (by unfold InI64; omega) (by unfold InI64; omega)
  refine hK4 _ _ ?_; try clear hK4 K4
  refine seq_any fun K7 hK7 => ?_
  refine region_plain (fun h => by cases h) hst3 hfr3 (by kernel_rfl) (by kernel_rfl) (.cons rfl (ob_loadLS' (j := 1) rfl rfl Tryd.isAgg24 Tryd.sizeOf24 rfl rfl) <|
      .cons rfl (ob_callE rfl (.cons rfl <| .nil) Tryd.call12 (fun w m hK => by have hle_ := KC.le hK; have hA := KC.agree hK; have hM := hM.trans hle_; have hT := tab_keep hT hK.st.ext; have hcv := hcv.mono hle_; exact (show FnV Tryd.prog 12 #[_] _ _ (fun _ _ v => v = .tuple #[S [67, 111, 110, 115, 40, 49, 44, 32, 78, 105, 108, 41], .int .i64 0]) from by rw [← con0_text]; exact text0_c (t := con0) hA hcv hT (by decide)))) <|
      .cons rfl (ob_move rfl) <|
      .cons rfl (ob_extract rfl rfl) <|
      .cons rfl (ob_extract rfl rfl) <|
      .cons rfl (ob_assign rfl) <|
      .cons rfl (ob_assign rfl) <|
      .nil) ?_
  intro a4 w4 m4 hst4 hle4 hk4
  have hfr4 := hk4.fr (T' := [(0, _), (1, _), (2, _), (3, _), (4, _)]) (.old rfl rfl <| .old rfl rfl <| .old rfl rfl <| .new rfl <| .new rfl <| .nil)
  replace hcon := hcon.mono hle4
  replace hcv := hcv.mono hle4
  replace hM := hM.trans hle4
  clear hst3 hfr3 hk4
  refine hK7 _ _ ?_; try clear hK7 K7
  refine seq_any fun K8 hK8 => ?_
  replace hst4 := hst4.more (r := .free) trivial List.nodup_nil (by simp [Res.blocks])
  refine region_any (tch := [(4, 2, (fun v => .blk v _)), (5, 2, (fun v => .blk v _))]) (fun h => by cases h) hst4 hfr4 (by kernel_rfl) (by kernel_rfl) (by kernel_rfl) (.cons rfl (ob_callE rfl (.cons rfl <| .cons rfl <| .cons rfl <| .nil) Tryd.call20 (fun w m hK => by have hle_ := KC.le hK; have hA := KC.agree hK; have hM := hM.trans hle_; have hT := tab_keep hT hK.st.ext; exact (show FnV Tryd.prog 20 _ _ _ (fun _ _ v => v = .tuple #[Vl 1 (-3) [] nilK, .bool true]) from op_c hA))) <|
      .cons rfl (ob_move rfl) <|
      .cons rfl (ob_extract rfl rfl) <|
      .cons rfl (ob_extract rfl rfl) <|
      .consT rfl rfl (fun _ => rfl) rfl (ob_allocL Tryd.zeroValue24 rfl) <|
      .consT rfl rfl (fun _ => rfl) rfl (ob_imgT 5 rfl rfl rfl fun y5 => ob_storeF rfl rfl rfl rfl Tryd.sizeOf24 rfl rfl rfl) <|
      .cons rfl (ob_assign rfl) <|
      .nil) ?_
  intro a5 w5 m5 hst5 hle5 hk5
  have hfr5 := hk5.fr (T' := [(0, _), (1, _), (2, _), (3, _), (4, _), (6, _)]) (.old rfl rfl <| .old rfl rfl <| .old rfl rfl <| .old rfl rfl <| .old rfl rfl <| .new rfl <| .nil)
  obtain ⟨g9, e9, _⟩ := hk5.ex 5 rfl
  replace hfr5 := hfr5.cons e9
  replace hst5 := hst5.fin (L' := [_, _, _]) (.cons e9 <| .cons e9 <| .nil)
  replace hcon := hcon.mono hle5
  replace hcv := hcv.mono hle5
  replace hM := hM.trans hle5
  clear hst4 hfr4 hk5
  refine hK8 _ _ ?_; try clear hK8 K8
  refine seq_any fun K10 hK10 => ?_
  replace hst5 := hst5.more (r := .free) trivial List.nodup_nil (by simp [Res.blocks])
  refine region_any (tch := [(4, 3, (fun v => .blk v _)), (5, 3, (fun v => .blk v _))]) (fun h => by cases h) hst5 hfr5 (by kernel_rfl) (by kernel_rfl) (by kernel_rfl) (.cons rfl (ob_callE rfl (.cons rfl <| .cons rfl <| .cons rfl <| .nil) Tryd.call20 (fun w m hK => by have hle_ := KC.le hK; have hA := KC.agree hK; have hM := hM.trans hle_; have hT := tab_keep hT hK.st.ext; exact (show FnV Tryd.prog 20 _ _ _ (fun _ _ v => v = .tuple #[Vl 0 0 [] nilK, .bool false]) from op_c hA))) <|
      .cons rfl (ob_move rfl) <|
      .cons rfl (ob_extract rfl rfl) <|
      .cons rfl (ob_extract rfl rfl) <|
      .consT rfl rfl (fun _ => rfl) rfl (ob_allocL Tryd.zeroValue24 rfl) <|
      .consT rfl rfl (fun _ => rfl) rfl (ob_imgT 7 rfl rfl rfl fun y7 => ob_storeF rfl rfl rfl rfl Tryd.sizeOf24 rfl rfl rfl) <|
      .cons rfl (ob_assign rfl) <|
      .nil) ?_
  intro a6 w6 m6 hst6 hle6 hk6
  have hfr6 := hk6.fr (T' := [(0, _), (1, _), (2, _), (3, _), (4, _), (6, _), (5, _), (8, _)]) (.old rfl rfl <| .old rfl rfl <| .old rfl rfl <| .old rfl rfl <| .old rfl rfl <| .old rfl rfl <| .old rfl rfl <| .new rfl <| .nil)
  obtain ⟨g11, e11, _⟩ := hk6.ex 7 rfl
  replace hfr6 := hfr6.cons e11
  replace hst6 := hst6.fin (L' := [_, _, _, _]) (.cons e11 <| .cons e11 <| .nil)
  replace hcon := hcon.mono hle6
  replace hcv := hcv.mono hle6
  replace hM := hM.trans hle6
  clear hst5 hfr5 hk6
  refine hK10 _ _ ?_; try clear hK10 K10
  refine seq_any fun K12 hK12 => ?_
  refine region_plain (fun h => by cases h) hst6 hfr6 (by kernel_rfl) (by kernel_rfl) (.cons rfl (ob_move rfl) <|
      .cons rfl (ob_seql rfl rfl) <|
      .cons rfl (ob_move rfl) <|
      .cons rfl (ob_move rfl) <|
      .cons rfl (ob_eql rfl rfl) <|
      .cons rfl (ob_and rfl rfl rfl) <|
      .cons rfl (ob_move rfl) <|
      .cons rfl (ob_loadLS' (j := 1) rfl rfl Tryd.isAgg24 Tryd.sizeOf24 rfl rfl) <|
      .cons rfl (ob_callE rfl (.cons rfl <| .nil) Tryd.call16 (fun w m hK => by have hle_ := KC.le hK; have hA := KC.agree hK; have hM := hM.trans hle_; have hT := tab_keep hT hK.st.ext; have hcv := hcv.mono hle_; exact (show FnV Tryd.prog 16 #[_] _ _ (fun _ _ v => v = .bool true) from first_c (t := con0) hA hcv))) <|
      .cons rfl (ob_and rfl rfl rfl) <|
      .cons rfl (ob_move rfl) <|
      .cons rfl (ob_loadLS' (j := 1) rfl rfl Tryd.isAgg24 Tryd.sizeOf24 rfl rfl) <|
      .cons rfl (ob_callE rfl (.cons rfl <| .nil) Tryd.call14 (fun w m hK => by have hle_ := KC.le hK; have hA := KC.agree hK; have hM := hM.trans hle_; have hT := tab_keep hT hK.st.ext; have hcv := hcv.mono hle_; exact (show FnV Tryd.prog 14 #[_] _ _ (fun _ _ v => v = .bool true) from right0_c (t := con0) hA hcv))) <|
      .cons rfl (ob_and rfl rfl rfl) <|
      .cons rfl (ob_move rfl) <|
      .cons rfl (ob_loadLS' (j := 1) rfl rfl Tryd.isAgg24 Tryd.sizeOf24 rfl rfl) <|
      .cons rfl (ob_loadLS' (j := 1) rfl rfl Tryd.isAgg24 Tryd.sizeOf24 rfl rfl) <|
      .cons rfl (ob_callE rfl (.cons rfl <| .cons rfl <| .nil) Tryd.call18 (fun w m hK => by have hle_ := KC.le hK; have hA := KC.agree hK; have hM := hM.trans hle_; have hT := tab_keep hT hK.st.ext; have hcv := hcv.mono hle_; exact (show FnV Tryd.prog 18 #[_, _] _ _ (fun _ _ v => v = .bool true) from same_c con0 (u := con0) hA hcv hcv))) <|
      .cons rfl (ob_and rfl rfl rfl) <|
      .cons rfl (ob_move rfl) <|
      .cons rfl (ob_fieldAddr rfl Tryd.underlying24 rfl Tryd.sizeOf3 rfl) <|
      .cons rfl (ob_loadL (j := 2) rfl rfl Tryd.isAgg3 rfl) <|
      .cons rfl (ob_eql rfl rfl) <|
      .cons rfl (ob_and rfl rfl rfl) <|
      .cons rfl (ob_move rfl) <|
      .cons rfl (ob_move rfl) <|
      .cons rfl (ob_and rfl rfl rfl) <|
      .cons rfl (ob_move rfl) <|
      .cons rfl (ob_move rfl) <|
      .cons rfl (ob_not rfl) <|
      .cons rfl (ob_and rfl rfl rfl) <|
      .cons rfl (ob_move rfl) <|
      .cons rfl (ob_pickTF rfl) <|
      .cons rfl (ob_assign rfl) <|
      .nil) ?_
  intro a7 w7 m7 hst7 hle7 hk7
  have hfr7 := hk7.fr (T' := [(1, _), (2, _), (3, _), (4, _), (6, _), (5, _), (8, _), (0, _)]) (.old rfl rfl <| .old rfl rfl <| .old rfl rfl <| .old rfl rfl <| .old rfl rfl <| .old rfl rfl <| .old rfl rfl <| .new rfl <| .nil)
  replace hcon := hcon.mono hle7
  replace hcv := hcv.mono hle7
  replace hM := hM.trans hle7
  clear hst6 hfr6 hk7
  refine hK12 _ _ ?_; try clear hK12 K12
  refine wp_ret ?_
  repeat (with_reducible first | refine then_ret ?_ | refine block_ret ?_)
  exact fn_ret hst7 hfr7 rfl (.tmp rfl <| .nil) (rfl)

end Go.Proofs.YtineijefefjpeaaDoor
