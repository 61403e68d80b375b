/-
  unify.Types, unify.Rows. Conditions: those of each theorem.
-/
import Derived.Test.YtlidonjpgigocaaGreatTypes7
namespace Go.Proofs.YtlidonjpgigocaaGreat
set_option linter.all false
set_option maxRecDepth 4000
open Go.RowKit
/-- What is answered: with an error what was handed in. -/
def outU (r : Int × USt) (U : USt) : Int × USt := if r.1 ≠ 0 then (r.1, U) else (0, r.2)
def MP.un (r : Int × USt) : MP := MP.mem (fun q : QQ => .tuple #[.agg (subV q).toArray, .int .i64 r.2.nx, .int .i64 r.1]) (fun q m => SubQ m r.2.s (subV q)) fun hm h => h.mono hm
set_option maxHeartbeats 1600000 in
theorem types7_c {w : World} {m : Mem} {U : Sub} {vs_s : List Value} {a : Ty} {vs_a : List Value} {b : Ty} {vs_b : List Value} {n : Int} {k : Nat} {R : Int × USt} (hA : Agree w m) (h_s : SubQ m U vs_s) (h_a : TyR m a vs_a) (h_b : TyR m b vs_b) (hrun : typesU k a b ⟨U, n⟩ = some R) : FnV Tryz.prog 14 #[.agg vs_s.toArray, .agg vs_a.toArray, .agg vs_b.toArray, .int .i64 n] w m (fun _ m v => (MP.un (outU R ⟨U, n⟩)).p m v) := by
  obtain ⟨q0, rfl⟩ := h_s.val
  obtain ⟨o_a, c_a, oL_a, cL_a, rfl, hk_a, hs_a, hi_a, hj_a, hr_a⟩ := h_a.open_
  have hbg_a := hk_a.big; have hcp_a := hk_a.cap; have hbs_a := hs_a.big; have hcs_a := hs_a.cap
  have hrw_a : RwR _ ⟨a.labels, a.rv⟩ _ := ⟨_, _, rfl, hs_a, hr_a⟩
  obtain ⟨o_b, c_b, oL_b, cL_b, rfl, hk_b, hs_b, hi_b, hj_b, hr_b⟩ := h_b.open_
  have hbg_b := hk_b.big; have hcp_b := hk_b.cap; have hbs_b := hs_b.big; have hcs_b := hs_b.cap
  have hrw_b : RwR _ ⟨b.labels, b.rv⟩ _ := ⟨_, _, rfl, hs_b, hr_b⟩
  refine fn_enter (vs := [_, _, _, _]) Tryz.func14 rfl rfl rfl fun a0 hfr0 => ?_
  have hst0 := st_enter hA (loc_nil [] _ w m)
  have hM : MLe m m := MLe.refl m
  refine seq_any fun _ hK1 => ?_
  replace hst0 := hst0.more (r := .free) trivial List.nodup_nil (by simp [Res.blocks])
  refine ra0 (tch := [(3, 0, (fun v => .blk v _))]) hst0 hfr0 (.cons rfl (ob_box rfl rfl) <| .cons rfl (ob_box rfl rfl) <| .cons rfl (ob_box rfl rfl) <| .consT rfl rfl (fun _ => rfl) rfl (ob_allocL Tryz.zeroValue29 rfl) <| .cons rfl (ob_assign rfl) <| .cons rfl (ob_assign rfl) <| .nil) ?_
  intro a1 w1 m1 hst1 hle1 hk1
  have hfr1 := hk1.fr (T' := [(3, _)]) (.old rfl rfl <| .nil)
  obtain ⟨g2, e2, hc4⟩ := hk1.ex 4 rfl
  replace hfr1 := hfr1.cons e2
  obtain ⟨g3, e3, hc5⟩ := hk1.ex 5 rfl
  replace hfr1 := hfr1.cons e3
  obtain ⟨g4, e4, hc6⟩ := hk1.ex 6 rfl
  replace hfr1 := hfr1.cons e4
  obtain ⟨gS, e5, _⟩ := hk1.ex 8 rfl
  replace hfr1 := hfr1.cons e5
  replace hst1 := hst1.fin (L' := [_]) (.cons e5 <| .nil)
  replace h_s := h_s.mono hle1
  replace h_a := h_a.mono hle1
  replace hk_a := hk_a.mono hle1
  replace hs_a := hs_a.mono hle1
  replace hrw_a := hrw_a.mono hle1
  replace h_b := h_b.mono hle1
  replace hk_b := hk_b.mono hle1
  replace hs_b := hs_b.mono hle1
  replace hrw_b := hrw_b.mono hle1
  replace hM := hM.trans hle1
  clear hst0 hfr0 hk1
  refine hK1 _ _ ?_; clear hK1
  refine seq_any fun _ hK6 => ?_
  replace hst1 := hst1.more (r := .free) trivial List.nodup_nil (by simp [Res.blocks])
  refine ra0 (tch := [(3, 1, (fun v => .blk v _)), (4, 1, (fun v => .blk v _))]) hst1 hfr1 (.cons rfl (ob_loadS' rfl hc4 Tryz.isAgg29 Tryz.sizeOf29 rfl rfl) <| .cons rfl (ob_move rfl) <| .cons rfl (ob_buildS (.cons rfl <| .cons rfl <| .nil) Tryz.underlying74 Tryz.zeroValue74 (.cons Tryz.sizeOf29 <| .cons Tryz.sizeOf3 <| .nil) rfl) <| .consT rfl rfl (fun _ => rfl) rfl (ob_allocL Tryz.zeroValue74 rfl) <| .consT rfl rfl (fun _ => rfl) rfl (ob_imgT 11 rfl rfl rfl fun y11 => ob_storeF rfl rfl rfl rfl rfl Tryz.sizeOf74 rfl rfl rfl) <| .nil) ?_
  intro a2 w2 m2 hst2 hle2 hk2
  have hfr2 := hk2.fr (T' := [(3, _), (4, _), (5, _), (6, _), (8, _)]) (.old rfl rfl <| .old rfl rfl <| .old rfl rfl <| .old rfl rfl <| .old rfl rfl <| .nil)
  obtain ⟨gU, e7, _⟩ := hk2.ex 11 rfl
  replace hfr2 := hfr2.cons e7
  replace hst2 := hst2.fin (L' := [_, _]) (.cons e7 <| .cons e7 <| .nil)
  try simp only [List.take_succ_cons, List.take_zero, List.drop_succ_cons, List.drop_zero, List.cons_append, List.nil_append, List.append_nil, List.length_cons, List.length_nil, Nat.zero_add, Nat.reduceAdd] at hst2
  replace h_s := h_s.mono hle2
  replace h_a := h_a.mono hle2
  replace hk_a := hk_a.mono hle2
  replace hs_a := hs_a.mono hle2
  replace hrw_a := hrw_a.mono hle2
  replace h_b := h_b.mono hle2
  replace hk_b := hk_b.mono hle2
  replace hs_b := hs_b.mono hle2
  replace hrw_b := hrw_b.mono hle2
  replace hc4 := hc4.mono hle2
  replace hc5 := hc5.mono hle2
  replace hc6 := hc6.mono hle2
  replace hM := hM.trans hle2
  clear hst1 hfr1 hk2
  have hst2 : St [] w m [_, UB gU q0 n] w2 m2 := hst2
  refine hK6 _ _ ?_; clear hK6
  refine seq_any fun _ hK8 => ?_
  refine seq_any fun _ hK9 => ?_
  refine ra0 (tch := [(2, 1, (fun _ => UK gU (R).2))]) hst2 hfr2 (.cons rfl (ob_loadS' rfl hc5 Tryz.isAgg45 Tryz.sizeOf45 rfl rfl) <| .cons rfl (ob_loadS' rfl hc6 Tryz.isAgg45 Tryz.sizeOf45 rfl rfl) <| .consT rfl rfl (fun _ => rfl) rfl (ob_callT rfl (.cons rfl <| .cons rfl <| .cons rfl <| .nil) Tryz.call38 (κ := .eq (.int .i64 (R).1)) (fun σ w m hK hr hkn => by have hle_ := KC.le hK; have hA := KC.agree hK; have hM := hM.trans hle_; have h_s := h_s.mono hle_; have h_a := h_a.mono hle_; have hk_a := hk_a.mono hle_; have hs_a := hs_a.mono hle_; have hrw_a := hrw_a.mono hle_; have h_b := h_b.mono hle_; have hk_b := hk_b.mono hle_; have hs_b := hs_b.mono hle_; have hrw_b := hrw_b.mono hle_; have hc4 := hc4.mono hle_; have hc5 := hc5.mono hle_; have hc6 := hc6.mono hle_; exact up_T (types_t k a b ⟨U, n⟩ R hrun _ _ gU q0 _ _ hA hr h_s h_a h_b))) <| .cons rfl (ob_assign rfl) <| .nil) ?_
  intro a3 w3 m3 hst3 hle3 hk3
  have hfr3 := hk3.fr (T' := [(3, _), (4, _), (8, _), (11, _), (12, _)]) (.old rfl rfl <| .old rfl rfl <| .old rfl rfl <| .old rfl rfl <| .new rfl <| .nil)
  replace hst3 := hst3.fin (L' := [_, _]) (.cons rfl <| .nil)
  replace h_s := h_s.mono hle3
  replace hc4 := hc4.mono hle3
  clear hst2 hfr2 hk3
  obtain ⟨q3, hst3, hU3⟩ := up_open (k := 1) hst3 rfl
  simp only [List.set_cons_zero, List.set_cons_succ] at hst3
  refine hK9 _ _ ?_; clear hK9
  refine seq_any fun _ hK10 => ?_
  refine rp0 hst3 hfr3 (.cons rfl (ob_move rfl) <| .cons rfl (ob_neq rfl rfl) <| .nil) ?_
  intro a4 w4 m4 hst4 hle4 hk4
  have hfr4 := hk4.fr (T' := [(3, _), (4, _), (8, _), (11, _), (12, _), (20, _)]) (.old rfl rfl <| .old rfl rfl <| .old rfl rfl <| .old rfl rfl <| .old rfl rfl <| .new rfl <| .nil)
  replace h_s := h_s.mono hle4
  replace hc4 := hc4.mono hle4
  replace hU3 := hU3.mono hle4
  clear hst3 hfr3 hk4
  refine hK10 _ _ ?_; clear hK10
  refine cond_any hfr4 rfl rfl (fun hb20 => ?_) (fun hb20 => ?_)
  · try simp only [nq1, nq2, nq3, nq4, nq5, nq6, nq7, nq8, nq9, u8_eq] at hb20
    have ho9 : outU (R) ⟨U, n⟩ = ((R).1, ⟨U, n⟩) := by unfold outU; rw [if_pos hb20]
    refine seq_any fun _ hK11 => ?_
    refine ra0 (tch := [(3, 0, (fun _ => .blk _ _))]) hst4 hfr4 (.cons rfl (ob_loadS' rfl hc4 Tryz.isAgg29 Tryz.sizeOf29 rfl rfl) <| .cons rfl (ob_move rfl) <| .cons rfl (ob_move rfl) <| .consT rfl rfl (fun _ => rfl) rfl (ob_store' rfl rfl rfl Tryz.sizeOf29 rfl rfl rfl) <| .cons rfl (ob_assign rfl) <| .cons rfl (ob_assign rfl) <| .nil) ?_
    intro a5 w5 m5 hst5 hle5 hk5
    have hfr5 := hk5.fr (T' := [(8, _), (9, _), (10, _)]) (.old rfl rfl <| .new rfl <| .new rfl <| .nil)
    replace hst5 := hst5.fin (L' := [_, _]) (.cons rfl <| .nil)
    try simp only [List.take_succ_cons, List.take_zero, List.drop_succ_cons, List.drop_zero, List.cons_append, List.nil_append, List.append_nil, List.length_cons, List.length_nil, Nat.zero_add, Nat.reduceAdd] at hst5
    replace h_s := h_s.mono hle5
    clear hst4 hfr4 hk5
    refine hK11 _ _ ?_; clear hK11
    refine wp_ret ?_
    repeat (with_reducible first | refine then_ret ?_ | refine block_ret ?_)
    exact fn_ret hst5 hfr5 rfl (.cell rfl (load_blk (blk_heap (hst5.loc.at_ (k := 0) rfl)) Tryz.isAgg29 Tryz.sizeOf29) <| .tmp rfl <| .tmp rfl <| .nil) (⟨q0, by rw [ho9]; rfl, by rw [ho9]; exact h_s⟩)
  · try simp only [nq1, nq2, nq3, nq4, nq5, nq6, nq7, nq8, nq9, u8_eq] at hb20
    have ho9 : outU (R) ⟨U, n⟩ = (0, (R).2) := by unfold outU; rw [if_neg (by omega)]
    refine wp_skip ?_
    refine hK8 _ _ ?_; clear hK8
    refine seq_any fun _ hK13 => ?_
    refine region_any (tch := [(4, 0, (fun _ => .blk _ _))]) (fun _ => mixed) hst4 hfr4 (by kernel_rfl) (by kernel_rfl) (by kernel_rfl) (.cons rfl (ob_fieldAddrO (off := 0) rfl Tryz.underlying74 rfl rfl Tryz.sizeOf29 rfl) <| .cons rfl (ob_loadLS (j := 1) rfl rfl Tryz.isAgg29 Tryz.sizeOf29 rfl rfl) <| .cons rfl (ob_fieldAddrO (off := 2) rfl Tryz.underlying74 rfl rfl Tryz.sizeOf3 rfl) <| .cons rfl (ob_loadL (j := 1) rfl rfl Tryz.isAgg3 rfl) <| .consT rfl rfl (fun _ => rfl) rfl (ob_store' rfl rfl rfl Tryz.sizeOf29 rfl rfl rfl) <| .cons rfl (ob_assign rfl) <| .cons rfl (ob_assign rfl) <| .nil) ?_
    intro a5 w5 m5 hst5 hle5 hk5
    have hfr5 := hk5.fr (T' := [(8, _), (9, _), (10, _)]) (.old rfl rfl <| .new rfl <| .new rfl <| .nil)
    replace hst5 := hst5.fin (L' := [_, _]) (.cons rfl <| .nil)
    try simp only [List.take_succ_cons, List.take_zero, List.drop_succ_cons, List.drop_zero, List.cons_append, List.nil_append, List.append_nil, List.length_cons, List.length_nil, Nat.zero_add, Nat.reduceAdd] at hst5
    replace hU3 := hU3.mono hle5
    clear hst4 hfr4 hk5
    refine hK13 _ _ ?_; clear hK13
    refine wp_ret ?_
    repeat (with_reducible first | refine then_ret ?_ | refine block_ret ?_)
    exact fn_ret hst5 hfr5 rfl (.cell rfl (load_blk (blk_heap (hst5.loc.at_ (k := 0) rfl)) Tryz.isAgg29 Tryz.sizeOf29) <| .tmp rfl <| .tmp rfl <| .nil) (⟨q3, by rw [ho9]; rfl, by rw [ho9]; exact hU3⟩)

set_option maxHeartbeats 1600000 in
theorem rows7_c {w : World} {m : Mem} {U : Sub} {vs_s : List Value} {a : Rw} {vs_a : List Value} {b : Rw} {vs_b : List Value} {n : Int} (hA : Agree w m) (h_s : SubQ m U vs_s) (h_a : RwR m a vs_a) (h_b : RwR m b vs_b) (hok : OkS ⟨U, n⟩) (ha : a.labels.length ≤ 50000000) (hb : b.labels.length ≤ 50000000) : FnV Tryz.prog 27 #[.agg vs_s.toArray, .agg vs_a.toArray, .agg vs_b.toArray, .int .i64 n] w m (fun _ m v => (MP.un (outU (rowsU a b ⟨U, n⟩) ⟨U, n⟩)).p m v) := by
  obtain ⟨q0, rfl⟩ := h_s.val
  obtain ⟨o_a, c_a, rfl, hs_a, hr_a⟩ := h_a.open_
  have hbs_a := hs_a.big; have hcs_a := hs_a.cap
  obtain ⟨o_b, c_b, rfl, hs_b, hr_b⟩ := h_b.open_
  have hbs_b := hs_b.big; have hcs_b := hs_b.cap
  refine fn_enter (vs := [_, _, _, _]) Tryz.func27 rfl rfl rfl fun a0 hfr0 => ?_
  have hst0 := st_enter hA (loc_nil [] _ w m)
  have hM : MLe m m := MLe.refl m
  refine seq_any fun _ hK1 => ?_
  replace hst0 := hst0.more (r := .free) trivial List.nodup_nil (by simp [Res.blocks])
  refine ra0 (tch := [(3, 0, (fun v => .blk v _))]) hst0 hfr0 (.cons rfl (ob_box rfl rfl) <| .cons rfl (ob_box rfl rfl) <| .cons rfl (ob_box rfl rfl) <| .consT rfl rfl (fun _ => rfl) rfl (ob_allocL Tryz.zeroValue29 rfl) <| .cons rfl (ob_assign rfl) <| .cons rfl (ob_assign rfl) <| .nil) ?_
  intro a1 w1 m1 hst1 hle1 hk1
  have hfr1 := hk1.fr (T' := [(3, _)]) (.old rfl rfl <| .nil)
  obtain ⟨g2, e2, hc4⟩ := hk1.ex 4 rfl
  replace hfr1 := hfr1.cons e2
  obtain ⟨g3, e3, hc5⟩ := hk1.ex 5 rfl
  replace hfr1 := hfr1.cons e3
  obtain ⟨g4, e4, hc6⟩ := hk1.ex 6 rfl
  replace hfr1 := hfr1.cons e4
  obtain ⟨gS, e5, _⟩ := hk1.ex 8 rfl
  replace hfr1 := hfr1.cons e5
  replace hst1 := hst1.fin (L' := [_]) (.cons e5 <| .nil)
  replace h_s := h_s.mono hle1
  replace h_a := h_a.mono hle1
  replace hs_a := hs_a.mono hle1
  replace h_b := h_b.mono hle1
  replace hs_b := hs_b.mono hle1
  replace hM := hM.trans hle1
  clear hst0 hfr0 hk1
  refine hK1 _ _ ?_; clear hK1
  refine seq_any fun _ hK6 => ?_
  replace hst1 := hst1.more (r := .free) trivial List.nodup_nil (by simp [Res.blocks])
  refine ra0 (tch := [(3, 1, (fun v => .blk v _)), (4, 1, (fun v => .blk v _))]) hst1 hfr1 (.cons rfl (ob_loadS' rfl hc4 Tryz.isAgg29 Tryz.sizeOf29 rfl rfl) <| .cons rfl (ob_move rfl) <| .cons rfl (ob_buildS (.cons rfl <| .cons rfl <| .nil) Tryz.underlying74 Tryz.zeroValue74 (.cons Tryz.sizeOf29 <| .cons Tryz.sizeOf3 <| .nil) rfl) <| .consT rfl rfl (fun _ => rfl) rfl (ob_allocL Tryz.zeroValue74 rfl) <| .consT rfl rfl (fun _ => rfl) rfl (ob_imgT 11 rfl rfl rfl fun y11 => ob_storeF rfl rfl rfl rfl rfl Tryz.sizeOf74 rfl rfl rfl) <| .nil) ?_
  intro a2 w2 m2 hst2 hle2 hk2
  have hfr2 := hk2.fr (T' := [(3, _), (4, _), (5, _), (6, _), (8, _)]) (.old rfl rfl <| .old rfl rfl <| .old rfl rfl <| .old rfl rfl <| .old rfl rfl <| .nil)
  obtain ⟨gU, e7, _⟩ := hk2.ex 11 rfl
  replace hfr2 := hfr2.cons e7
  replace hst2 := hst2.fin (L' := [_, _]) (.cons e7 <| .cons e7 <| .nil)
  try simp only [List.take_succ_cons, List.take_zero, List.drop_succ_cons, List.drop_zero, List.cons_append, List.nil_append, List.append_nil, List.length_cons, List.length_nil, Nat.zero_add, Nat.reduceAdd] at hst2
  replace h_s := h_s.mono hle2
  replace h_a := h_a.mono hle2
  replace hs_a := hs_a.mono hle2
  replace h_b := h_b.mono hle2
  replace hs_b := hs_b.mono hle2
  replace hc4 := hc4.mono hle2
  replace hc5 := hc5.mono hle2
  replace hc6 := hc6.mono hle2
  replace hM := hM.trans hle2
  clear hst1 hfr1 hk2
  have hst2 : St [] w m [_, UB gU q0 n] w2 m2 := hst2
  refine hK6 _ _ ?_; clear hK6
  refine seq_any fun _ hK8 => ?_
  refine seq_any fun _ hK9 => ?_
  refine ra0 (tch := [(2, 1, (fun _ => UK gU (rowsU a b ⟨U, n⟩).2))]) hst2 hfr2 (.cons rfl (ob_loadS' rfl hc5 Tryz.isAgg43 Tryz.sizeOf43 rfl rfl) <| .cons rfl (ob_loadS' rfl hc6 Tryz.isAgg43 Tryz.sizeOf43 rfl rfl) <| .consT rfl rfl (fun _ => rfl) rfl (ob_callT rfl (.cons rfl <| .cons rfl <| .cons rfl <| .nil) Tryz.call50 (κ := .eq (.int .i64 (rowsU a b ⟨U, n⟩).1)) (fun σ w m hK hr hkn => by have hle_ := KC.le hK; have hA := KC.agree hK; have hM := hM.trans hle_; have h_s := h_s.mono hle_; have h_a := h_a.mono hle_; have hs_a := hs_a.mono hle_; have h_b := h_b.mono hle_; have hs_b := hs_b.mono hle_; have hc4 := hc4.mono hle_; have hc5 := hc5.mono hle_; have hc6 := hc6.mono hle_; exact up_T (rows_g (U := ⟨U, n⟩) hA hr h_s h_a h_b hok ha hb))) <| .cons rfl (ob_assign rfl) <| .nil) ?_
  intro a3 w3 m3 hst3 hle3 hk3
  have hfr3 := hk3.fr (T' := [(3, _), (4, _), (8, _), (11, _), (12, _)]) (.old rfl rfl <| .old rfl rfl <| .old rfl rfl <| .old rfl rfl <| .new rfl <| .nil)
  replace hst3 := hst3.fin (L' := [_, _]) (.cons rfl <| .nil)
  replace h_s := h_s.mono hle3
  replace hc4 := hc4.mono hle3
  clear hst2 hfr2 hk3
  obtain ⟨q3, hst3, hU3⟩ := up_open (k := 1) hst3 rfl
  simp only [List.set_cons_zero, List.set_cons_succ] at hst3
  refine hK9 _ _ ?_; clear hK9
  refine seq_any fun _ hK10 => ?_
  refine rp0 hst3 hfr3 (.cons rfl (ob_move rfl) <| .cons rfl (ob_neq rfl rfl) <| .nil) ?_
  intro a4 w4 m4 hst4 hle4 hk4
  have hfr4 := hk4.fr (T' := [(3, _), (4, _), (8, _), (11, _), (12, _), (20, _)]) (.old rfl rfl <| .old rfl rfl <| .old rfl rfl <| .old rfl rfl <| .old rfl rfl <| .new rfl <| .nil)
  replace h_s := h_s.mono hle4
  replace hc4 := hc4.mono hle4
  replace hU3 := hU3.mono hle4
  clear hst3 hfr3 hk4
  refine hK10 _ _ ?_; clear hK10
  refine cond_any hfr4 rfl rfl (fun hb20 => ?_) (fun hb20 => ?_)
  · try simp only [nq1, nq2, nq3, nq4, nq5, nq6, nq7, nq8, nq9, u8_eq] at hb20
    have ho9 : outU (rowsU a b ⟨U, n⟩) ⟨U, n⟩ = ((rowsU a b ⟨U, n⟩).1, ⟨U, n⟩) := by unfold outU; rw [if_pos hb20]
    refine seq_any fun _ hK11 => ?_
    refine ra0 (tch := [(3, 0, (fun _ => .blk _ _))]) hst4 hfr4 (.cons rfl (ob_loadS' rfl hc4 Tryz.isAgg29 Tryz.sizeOf29 rfl rfl) <| .cons rfl (ob_move rfl) <| .cons rfl (ob_move rfl) <| .consT rfl rfl (fun _ => rfl) rfl (ob_store' rfl rfl rfl Tryz.sizeOf29 rfl rfl rfl) <| .cons rfl (ob_assign rfl) <| .cons rfl (ob_assign rfl) <| .nil) ?_
    intro a5 w5 m5 hst5 hle5 hk5
    have hfr5 := hk5.fr (T' := [(8, _), (9, _), (10, _)]) (.old rfl rfl <| .new rfl <| .new rfl <| .nil)
    replace hst5 := hst5.fin (L' := [_, _]) (.cons rfl <| .nil)
    try simp only [List.take_succ_cons, List.take_zero, List.drop_succ_cons, List.drop_zero, List.cons_append, List.nil_append, List.append_nil, List.length_cons, List.length_nil, Nat.zero_add, Nat.reduceAdd] at hst5
    replace h_s := h_s.mono hle5
    clear hst4 hfr4 hk5
    refine hK11 _ _ ?_; clear hK11
    refine wp_ret ?_
    repeat (with_reducible first | refine then_ret ?_ | refine block_ret ?_)
    exact fn_ret hst5 hfr5 rfl (.cell rfl (load_blk (blk_heap (hst5.loc.at_ (k := 0) rfl)) Tryz.isAgg29 Tryz.sizeOf29) <| .tmp rfl <| .tmp rfl <| .nil) (⟨q0, by rw [ho9]; rfl, by rw [ho9]; exact h_s⟩)
  · try simp only [nq1, nq2, nq3, nq4, nq5, nq6, nq7, nq8, nq9, u8_eq] at hb20
    have ho9 : outU (rowsU a b ⟨U, n⟩) ⟨U, n⟩ = (0, (rowsU a b ⟨U, n⟩).2) := by unfold outU; rw [if_neg (by omega)]
    refine wp_skip ?_
    refine hK8 _ _ ?_; clear hK8
    refine seq_any fun _ hK13 => ?_
    refine region_any (tch := [(4, 0, (fun _ => .blk _ _))]) (fun _ => mixed) hst4 hfr4 (by kernel_rfl) (by kernel_rfl) (by kernel_rfl) (.cons rfl (ob_fieldAddrO (off := 0) rfl Tryz.underlying74 rfl rfl Tryz.sizeOf29 rfl) <| .cons rfl (ob_loadLS (j := 1) rfl rfl Tryz.isAgg29 Tryz.sizeOf29 rfl rfl) <| .cons rfl (ob_fieldAddrO (off := 2) rfl Tryz.underlying74 rfl rfl Tryz.sizeOf3 rfl) <| .cons rfl (ob_loadL (j := 1) rfl rfl Tryz.isAgg3 rfl) <| .consT rfl rfl (fun _ => rfl) rfl (ob_store' rfl rfl rfl Tryz.sizeOf29 rfl rfl rfl) <| .cons rfl (ob_assign rfl) <| .cons rfl (ob_assign rfl) <| .nil) ?_
    intro a5 w5 m5 hst5 hle5 hk5
    have hfr5 := hk5.fr (T' := [(8, _), (9, _), (10, _)]) (.old rfl rfl <| .new rfl <| .new rfl <| .nil)
    replace hst5 := hst5.fin (L' := [_, _]) (.cons rfl <| .nil)
    try simp only [List.take_succ_cons, List.take_zero, List.drop_succ_cons, List.drop_zero, List.cons_append, List.nil_append, List.append_nil, List.length_cons, List.length_nil, Nat.zero_add, Nat.reduceAdd] at hst5
    replace hU3 := hU3.mono hle5
    clear hst4 hfr4 hk5
    refine hK13 _ _ ?_; clear hK13
    refine wp_ret ?_
    repeat (with_reducible first | refine then_ret ?_ | refine block_ret ?_)
    exact fn_ret hst5 hfr5 rfl (.cell rfl (load_blk (blk_heap (hst5.loc.at_ (k := 0) rfl)) Tryz.isAgg29 Tryz.sizeOf29) <| .tmp rfl <| .tmp rfl <| .nil) (⟨q3, by rw [ho9]; rfl, by rw [ho9]; exact hU3⟩)

end Go.Proofs.YtlidonjpgigocaaGreat
