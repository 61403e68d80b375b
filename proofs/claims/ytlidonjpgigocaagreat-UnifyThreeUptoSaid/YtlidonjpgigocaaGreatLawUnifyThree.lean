/-
  'brocadelaw07': what the laws say, in plain words. Conditions: those of each theorem.
-/
import Derived.Test.YtlidonjpgigocaaGreatP8
namespace Go.Proofs.YtlidonjpgigocaaGreat
set_option linter.all false
set_option maxRecDepth 4000
open Go.RowKit
set_option maxHeartbeats 6400000 in
theorem unifyThree_c {w : World} {m : Mem} {a : Ty} {vs_a : List Value} {b : Ty} {vs_b : List Value} {c : Ty} {vs_c : List Value} (hA : Agree w m) (h_a : TyR m a vs_a) (h_b : TyR m b vs_b) (h_c : TyR m c vs_c) (hw_a : wdT a ≤ 10000000) (hc_a : cntT a ≤ 10000000) (hw_b : wdT b ≤ 10000000) (hc_b : cntT b ≤ 10000000) (hw_c : wdT c ≤ 10000000) (hc_c : cntT c ≤ 10000000) : FnV Tryz.prog 8 #[.agg vs_a.toArray, .agg vs_b.toArray, .agg vs_c.toArray] w m (fun _ _ v => v = .bool true) := by
  obtain ⟨o_a, c_a, oL_a, cL_a, rfl, hk_a, hs_a, hi_a, hj_a, hr_a⟩ := h_a.open_
  have hbg_a := hk_a.big; have hcp_a := hk_a.cap; have hbs_a := hs_a.big; have hcs_a := hs_a.cap
  have hrw_a : RwR _ ⟨a.labels, a.rv⟩ _ := ⟨_, _, rfl, hs_a, hr_a⟩
  obtain ⟨o_b, c_b, oL_b, cL_b, rfl, hk_b, hs_b, hi_b, hj_b, hr_b⟩ := h_b.open_
  have hbg_b := hk_b.big; have hcp_b := hk_b.cap; have hbs_b := hs_b.big; have hcs_b := hs_b.cap
  have hrw_b : RwR _ ⟨b.labels, b.rv⟩ _ := ⟨_, _, rfl, hs_b, hr_b⟩
  obtain ⟨o_c, c_c, oL_c, cL_c, rfl, hk_c, hs_c, hi_c, hj_c, hr_c⟩ := h_c.open_
  have hbg_c := hk_c.big; have hcp_c := hk_c.cap; have hbs_c := hs_c.big; have hcs_c := hs_c.cap
  have hrw_c : RwR _ ⟨c.labels, c.rv⟩ _ := ⟨_, _, rfl, hs_c, hr_c⟩
  refine fn_enter (vs := [_, _, _]) Tryz.func8 rfl rfl rfl fun a0 hfr0 => ?_
  have hst0 := st_enter hA (loc_nil [] _ w m)
  have hM : MLe m m := MLe.refl m
  refine seq_any fun _ hK1 => ?_
  refine rp0 hst0 hfr0 (.cons rfl (ob_box rfl rfl) <| .cons rfl (ob_box rfl rfl) <| .cons rfl (ob_box rfl rfl) <| .cons rfl (ob_assign rfl) <| .nil) ?_
  intro a1 w1 m1 hst1 hle1 hk1
  have hfr1 := hk1.fr (T' := []) (.nil)
  obtain ⟨g2, e2, hc3⟩ := hk1.ex 3 rfl
  replace hfr1 := hfr1.cons e2
  obtain ⟨g3, e3, hc4⟩ := hk1.ex 4 rfl
  replace hfr1 := hfr1.cons e3
  obtain ⟨g4, e4, hc5⟩ := hk1.ex 5 rfl
  replace hfr1 := hfr1.cons e4
  replace h_a := h_a.mono hle1
  replace h_b := h_b.mono hle1
  replace h_c := h_c.mono hle1
  clear hst0 hfr0 hk1
  refine hK1 _ _ ?_; clear hK1
  refine seq_any fun _ hK5 => ?_
  refine rp0 hst1 hfr1 (.cons rfl (ob_callE rfl (.nil) Tryz.call9 (fun w m hK => by have hle_ := KC.le hK; have hA := KC.agree hK; exact shown_c hA)) <| .cons rfl (ob_assign rfl) <| .nil) ?_
  intro a2 w2 m2 hst2 hle2 hk2
  have hfr2 := hk2.fr (T' := [(3, _), (4, _), (5, _), (7, _)]) (.old rfl rfl <| .old rfl rfl <| .old rfl rfl <| .new rfl <| .nil)
  replace h_a := h_a.mono hle2
  replace h_b := h_b.mono hle2
  replace h_c := h_c.mono hle2
  replace hc3 := hc3.mono hle2
  replace hc4 := hc4.mono hle2
  replace hc5 := hc5.mono hle2
  clear hst1 hfr1 hk2
  refine hK5 _ _ ?_; clear hK5
  refine seq_any fun _ hK6 => ?_
  refine seq_any fun _ hK7 => ?_
  refine rp0 hst2 hfr2 (.cons rfl (ob_loadS' rfl hc3 Tryz.isAgg45 Tryz.sizeOf45 rfl rfl) <| .cons rfl (ob_callE rfl (.cons rfl <| .nil) Tryz.call11 (fun w m hK => by have hle_ := KC.le hK; have hA := KC.agree hK; have h_a := h_a.mono hle_; exact small_c (t := a) hA h_a (by omega))) <| .cons rfl (ob_not rfl) <| .cons rfl (ob_move rfl) <| .cons rfl (ob_loadS' rfl hc4 Tryz.isAgg45 Tryz.sizeOf45 rfl rfl) <| .cons rfl (ob_callE rfl (.cons rfl <| .nil) Tryz.call11 (fun w m hK => by have hle_ := KC.le hK; have hA := KC.agree hK; have h_b := h_b.mono hle_; exact small_c (t := b) hA h_b (by omega))) <| .cons rfl (ob_not rfl) <| .cons rfl (ob_or rfl rfl rfl) <| .cons rfl (ob_move rfl) <| .cons rfl (ob_loadS' rfl hc5 Tryz.isAgg45 Tryz.sizeOf45 rfl rfl) <| .cons rfl (ob_callE rfl (.cons rfl <| .nil) Tryz.call11 (fun w m hK => by have hle_ := KC.le hK; have hA := KC.agree hK; have h_c := h_c.mono hle_; exact small_c (t := c) hA h_c (by omega))) <| .cons rfl (ob_not rfl) <| .cons rfl (ob_or rfl rfl rfl) <| .nil) ?_
  intro a3 w3 m3 hst3 hle3 hk3
  have hfr3 := hk3.fr (T' := [(3, _), (4, _), (5, _), (7, _), (30, _)]) (.old rfl rfl <| .old rfl rfl <| .old rfl rfl <| .old rfl rfl <| .new rfl <| .nil)
  replace h_a := h_a.mono hle3
  replace h_b := h_b.mono hle3
  replace h_c := h_c.mono hle3
  replace hc3 := hc3.mono hle3
  replace hc4 := hc4.mono hle3
  replace hc5 := hc5.mono hle3
  clear hst2 hfr2 hk3
  refine hK7 _ _ ?_; clear hK7
  refine cond_any hfr3 rfl rfl (fun hb30 => ?_) (fun hb30 => ?_)
  · try simp only [nq1, nq2, nq3, nq4, nq5, nq6, nq7, nq8, nq9, u8_eq] at hb30
    refine seq_any fun _ hK8 => ?_
    refine rp0 hst3 hfr3 (.cons rfl (ob_move rfl) <| .cons rfl (ob_assign rfl) <| .nil) ?_
    intro a4 w4 m4 hst4 hle4 hk4
    have hfr4 := hk4.fr (T' := [(6, _)]) (.new rfl <| .nil)
    clear hst3 hfr3 hk4
    refine hK8 _ _ ?_; clear hK8
    refine wp_ret ?_
    repeat (with_reducible first | refine then_ret ?_ | refine block_ret ?_)
    exact fn_ret hst4 hfr4 rfl (.tmp rfl <| .nil) (rfl)
  · try simp only [nq1, nq2, nq3, nq4, nq5, nq6, nq7, nq8, nq9, u8_eq] at hb30
    have ha : smallT a = true := by simp_all
    have hb : smallT b = true := by simp_all
    have hc : smallT c = true := by simp_all
    obtain ⟨hra, _, hwda, hcta⟩ := small_open ha
    obtain ⟨hrb, _, hwdb, hctb⟩ := small_open hb
    obtain ⟨hrc, _, hwdc, hctc⟩ := small_open hc
    obtain ⟨k1, R1, hR1, ⟨rv1, w1, hU1⟩, hn1⟩ := sm_run (smU_none (n := 9) (by omega) (by omega)) ha hb
    obtain ⟨O1, hO1⟩ : ∃ O, O = outU R1 ⟨noneS, 9⟩ := ⟨_, rfl⟩
    have hf1 : O1.1 = R1.1 := by rw [hO1, outU_fst]
    refine wp_skip ?_
    refine hK6 _ _ ?_; clear hK6
    refine seq_any fun _ hK10 => ?_
    replace hst3 := hst3.more (r := .free) trivial List.nodup_nil (by simp [Res.blocks])
    refine region_any (tch := [(8, 0, (fun v => .blk v _)), (9, 0, (fun v => .blkx v _ _))]) (fun _ => mixed) hst3 hfr3 (by kernel_rfl) (by kernel_rfl) (by kernel_rfl) (.cons rfl (ob_call (φ := MP.subQ noneS) rfl (.nil) Tryz.call10 (fun w m hK => by have hle_ := KC.le hK; have hA := KC.agree hK; exact FnG.mono (noneU_c hA) fun _ _ _ _ h => h)) <| .cons rfl (ob_loadS' rfl hc3 Tryz.isAgg45 Tryz.sizeOf45 rfl rfl) <| .cons rfl (ob_loadS' rfl hc4 Tryz.isAgg45 Tryz.sizeOf45 rfl rfl) <| .cons rfl (ob_imgE 33 rfl rfl rfl fun y33 => ob_call (φ := MP.un O1) rfl (.cons rfl <| .cons rfl <| .cons rfl <| .cons rfl <| .nil) Tryz.call14 (fun w m hK => by have hle_ := KC.le hK; have hA := KC.agree hK; have hr0_ := hK.2; have h_a := h_a.mono hle_; have h_b := h_b.mono hle_; exact FnG.mono ((by rw [hO1]; exact types7_c (n := 9) hA hr0_ h_a h_b hR1)) fun _ _ _ _ h => h)) <| .cons rfl (ob_imgV 36 rfl rfl rfl fun y36 => ob_move rfl) <| .cons rfl (ob_imgV 32 rfl rfl rfl fun y32 => ob_extract rfl rfl) <| .cons rfl (ob_imgE 32 rfl rfl rfl fun y32 => ob_extract rfl rfl) <| .cons rfl (ob_imgE 32 rfl rfl rfl fun y32 => ob_extract rfl rfl) <| .consT rfl rfl (fun _ => rfl) rfl (ob_allocL Tryz.zeroValue29 rfl) <| .consT rfl rfl (fun _ => rfl) rfl (ob_imgT 8 rfl rfl rfl fun y8 => ob_imgTX 37 rfl rfl rfl fun y37 => ob_storeF rfl rfl rfl rfl rfl Tryz.sizeOf29 rfl rfl rfl) <| .cons rfl (ob_assign rfl) <| .cons rfl (ob_assign rfl) <| .nil) ?_
    intro a4 w4 m4 hst4 hle4 hk4
    have hfr4 := hk4.fr (T' := [(3, _), (4, _), (5, _), (7, _), (9, _), (10, _)]) (.old rfl rfl <| .old rfl rfl <| .old rfl rfl <| .old rfl rfl <| .new rfl <| .new rfl <| .nil)
    obtain ⟨g11, e11, _⟩ := hk4.ex 8 rfl
    replace hfr4 := hfr4.cons e11
    replace hst4 := hst4.fin (L' := [_]) (.cons e11 <| .cons e11 <| .nil)
    try simp only [List.take_succ_cons, List.take_zero, List.drop_succ_cons, List.drop_zero, List.cons_append, List.nil_append, List.append_nil, List.length_cons, List.length_nil, Nat.zero_add, Nat.reduceAdd] at hst4
    obtain ⟨⟨q1, q2⟩, hS1, hst4⟩ := hst4.unx (k := 0) rfl (fun _ => rfl)
    replace h_a := h_a.mono hle4
    replace h_b := h_b.mono hle4
    replace h_c := h_c.mono hle4
    replace hc3 := hc3.mono hle4
    replace hc4 := hc4.mono hle4
    replace hc5 := hc5.mono hle4
    clear hst3 hfr3 hk4
    refine hK10 _ _ ?_; clear hK10
    refine seq_any fun _ hK13 => ?_
    refine seq_any fun _ hK14 => ?_
    refine rp0 hst4 hfr4 (.cons rfl (ob_move rfl) <| .cons rfl (ob_neq rfl rfl) <| .nil) ?_
    intro a5 w5 m5 hst5 hle5 hk5
    have hfr5 := hk5.fr (T' := [(3, _), (4, _), (5, _), (7, _), (9, _), (8, _), (41, _)]) (.old rfl rfl <| .old rfl rfl <| .old rfl rfl <| .old rfl rfl <| .old rfl rfl <| .old rfl rfl <| .new rfl <| .nil)
    replace h_a := h_a.mono hle5
    replace h_b := h_b.mono hle5
    replace h_c := h_c.mono hle5
    replace hc3 := hc3.mono hle5
    replace hc4 := hc4.mono hle5
    replace hc5 := hc5.mono hle5
    replace hS1 := hS1.mono hle5
    clear hst4 hfr4 hk5
    refine hK14 _ _ ?_; clear hK14
    refine cond_any hfr5 rfl rfl (fun hb41 => ?_) (fun hb41 => ?_)
    · try simp only [nq1, nq2, nq3, nq4, nq5, nq6, nq7, nq8, nq9, u8_eq] at hb41
      refine seq_any fun _ hK15 => ?_
      refine rp0 hst5 hfr5 (.cons rfl (ob_move rfl) <| .cons rfl (ob_assign rfl) <| .nil) ?_
      intro a6 w6 m6 hst6 hle6 hk6
      have hfr6 := hk6.fr (T' := [(6, _)]) (.new rfl <| .nil)
      clear hst5 hfr5 hk6
      refine hK15 _ _ ?_; clear hK15
      refine wp_ret ?_
      repeat (with_reducible first | refine then_ret ?_ | refine block_ret ?_)
      exact fn_ret hst6 hfr6 rfl (.tmp rfl <| .nil) (rfl)
    · try simp only [nq1, nq2, nq3, nq4, nq5, nq6, nq7, nq8, nq9, u8_eq] at hb41
      have hz1 : R1.1 = 0 := by omega
      rw [out_ok hz1] at hO1
      subst hO1
      obtain ⟨k2, R2, hR2, ⟨rv2, w2, hU2⟩, hn2⟩ := sm_run hU1 ha hc
      obtain ⟨O2, hO2⟩ : ∃ O, O = outU R2 R1.2 := ⟨_, rfl⟩
      have hf2 : O2.1 = R2.1 := by rw [hO2, outU_fst]
      refine wp_skip ?_
      refine hK13 _ _ ?_; clear hK13
      refine seq_any fun _ hK17 => ?_
      replace hst5 := hst5.more (r := .free) trivial List.nodup_nil (by simp [Res.blocks])
      refine ra0 (tch := [(9, 1, (fun v => .blk v _)), (10, 1, (fun v => .blkx v _ _))]) hst5 hfr5 (.cons rfl (ob_loadLA (j := 0) rfl rfl Tryz.isAgg29 Tryz.sizeOf29 rfl) <| .cons rfl (ob_loadS' rfl hc3 Tryz.isAgg45 Tryz.sizeOf45 rfl rfl) <| .cons rfl (ob_loadS' rfl hc5 Tryz.isAgg45 Tryz.sizeOf45 rfl rfl) <| .cons rfl (ob_move rfl) <| .cons rfl (ob_call (φ := MP.un O2) rfl (.cons rfl <| .cons rfl <| .cons rfl <| .cons rfl <| .nil) Tryz.call14 (fun w m hK => by have hle_ := KC.le hK; have hA := KC.agree hK; have h_a := h_a.mono hle_; have h_c := h_c.mono hle_; have hS1 := hS1.mono hle_; exact FnG.mono ((by rw [hO2]; exact types7_c (n := R1.2.nx) hA hS1 h_a h_c hR2)) fun _ _ _ _ h => h)) <| .cons rfl (ob_imgV 48 rfl rfl rfl fun y48 => ob_move rfl) <| .cons rfl (ob_imgV 43 rfl rfl rfl fun y43 => ob_extract rfl rfl) <| .cons rfl (ob_imgE 43 rfl rfl rfl fun y43 => ob_extract rfl rfl) <| .cons rfl (ob_imgE 43 rfl rfl rfl fun y43 => ob_extract rfl rfl) <| .consT rfl rfl (fun _ => rfl) rfl (ob_allocL Tryz.zeroValue29 rfl) <| .consT rfl rfl (fun _ => rfl) rfl (ob_imgT 11 rfl rfl rfl fun y11 => ob_imgTX 49 rfl rfl rfl fun y49 => ob_storeF rfl rfl rfl rfl rfl Tryz.sizeOf29 rfl rfl rfl) <| .cons rfl (ob_assign rfl) <| .cons rfl (ob_assign rfl) <| .nil) ?_
      intro a6 w6 m6 hst6 hle6 hk6
      have hfr6 := hk6.fr (T' := [(3, _), (4, _), (5, _), (7, _), (9, _), (8, _), (12, _), (13, _)]) (.old rfl rfl <| .old rfl rfl <| .old rfl rfl <| .old rfl rfl <| .old rfl rfl <| .old rfl rfl <| .new rfl <| .new rfl <| .nil)
      obtain ⟨g18, e18, _⟩ := hk6.ex 11 rfl
      replace hfr6 := hfr6.cons e18
      replace hst6 := hst6.fin (L' := [_, _]) (.cons e18 <| .cons e18 <| .nil)
      try simp only [List.take_succ_cons, List.take_zero, List.drop_succ_cons, List.drop_zero, List.cons_append, List.nil_append, List.append_nil, List.length_cons, List.length_nil, Nat.zero_add, Nat.reduceAdd] at hst6
      obtain ⟨⟨q3, q4⟩, hS2, hst6⟩ := hst6.unx (k := 1) rfl (fun _ => rfl)
      replace h_a := h_a.mono hle6
      replace h_b := h_b.mono hle6
      replace h_c := h_c.mono hle6
      replace hc3 := hc3.mono hle6
      replace hc4 := hc4.mono hle6
      replace hc5 := hc5.mono hle6
      replace hS1 := hS1.mono hle6
      clear hst5 hfr5 hk6
      refine hK17 _ _ ?_; clear hK17
      refine seq_any fun _ hK20 => ?_
      refine seq_any fun _ hK21 => ?_
      refine rp0 hst6 hfr6 (.cons rfl (ob_move rfl) <| .cons rfl (ob_neq rfl rfl) <| .nil) ?_
      intro a7 w7 m7 hst7 hle7 hk7
      have hfr7 := hk7.fr (T' := [(3, _), (4, _), (5, _), (7, _), (9, _), (8, _), (12, _), (13, _), (11, _), (53, _)]) (.old rfl rfl <| .old rfl rfl <| .old rfl rfl <| .old rfl rfl <| .old rfl rfl <| .old rfl rfl <| .old rfl rfl <| .old rfl rfl <| .old rfl rfl <| .new rfl <| .nil)
      replace h_a := h_a.mono hle7
      replace h_b := h_b.mono hle7
      replace h_c := h_c.mono hle7
      replace hc3 := hc3.mono hle7
      replace hc4 := hc4.mono hle7
      replace hc5 := hc5.mono hle7
      replace hS1 := hS1.mono hle7
      replace hS2 := hS2.mono hle7
      clear hst6 hfr6 hk7
      refine hK21 _ _ ?_; clear hK21
      refine cond_any hfr7 rfl rfl (fun hb53 => ?_) (fun hb53 => ?_)
      · try simp only [nq1, nq2, nq3, nq4, nq5, nq6, nq7, nq8, nq9, u8_eq] at hb53
        rw [out_err (by omega : R2.1 ≠ 0)] at hO2
        subst hO2
        refine seq_any fun _ hK22 => ?_
        refine region_plain (fun _ => mixed) hst7 hfr7 (by kernel_rfl) (by kernel_rfl) (.cons rfl (ob_move rfl) <| .cons rfl (ob_move rfl) <| .cons rfl (ob_move rfl) <| .cons rfl (ob_eql rfl rfl) <| .cons rfl (ob_move rfl) <| .cons rfl (ob_move rfl) <| .cons rfl (ob_eql rfl rfl) <| .cons rfl (ob_or rfl rfl rfl) <| .cons rfl (ob_and rfl rfl rfl) <| .cons rfl (ob_move rfl) <| .cons rfl (ob_move rfl) <| .cons rfl (ob_move rfl) <| .cons rfl (ob_eql rfl rfl) <| .cons rfl (ob_and rfl rfl rfl) <| .cons rfl (ob_move rfl) <| .cons rfl (ob_loadLA (j := 1) rfl rfl Tryz.isAgg29 Tryz.sizeOf29 rfl) <| .cons rfl (ob_loadS' rfl hc3 Tryz.isAgg45 Tryz.sizeOf45 rfl rfl) <| .cons rfl (ob_call (φ := MP.ty (applyT R1.2.s a)) rfl (.cons rfl <| .cons rfl <| .nil) Tryz.call17 (fun w m hK => by have hle_ := KC.le hK; have hA := KC.agree hK; have h_a := h_a.mono hle_; have hS2 := hS2.mono hle_; exact FnG.mono (applyU_c (a) hA hS2 h_a (hU1.w.up (by omega)) (by omega)) fun _ _ _ _ h => h)) <| .cons rfl (ob_loadLA (j := 0) rfl rfl Tryz.isAgg29 Tryz.sizeOf29 rfl) <| .cons rfl (ob_loadS' rfl hc3 Tryz.isAgg45 Tryz.sizeOf45 rfl rfl) <| .cons rfl (ob_call (φ := MP.ty (applyT R1.2.s a)) rfl (.cons rfl <| .cons rfl <| .nil) Tryz.call17 (fun w m hK => by have hle_ := KC.le hK; have hA := KC.agree hK; have h_a := h_a.mono hle_; have hS1 := hS1.mono hle_; exact FnG.mono (applyU_c (a) hA hS1 h_a (hU1.w.up (by omega)) (by omega)) fun _ _ _ _ h => h)) <| .cons rfl (ob_imgE 71 rfl rfl rfl fun y71 => ob_imgE 74 rfl rfl rfl fun y74 => ob_callE rfl (.cons rfl <| .cons rfl <| .nil) Tryz.call16 (fun w m hK => by have hle_ := KC.le hK; have hA := KC.agree hK; have hr0_ := hK.2; have hr1_ := hK.1.2; exact sameR_c (applyT R1.2.s a) (u := applyT R1.2.s a) hA hr1_ hr0_)) <| .cons rfl (ob_and rfl rfl rfl) <| .cons rfl (ob_assign rfl) <| .nil) ?_
        intro a8 w8 m8 hst8 hle8 hk8
        have hfr8 := hk8.fr (T' := [(6, _)]) (.new rfl <| .nil)
        clear hst7 hfr7 hk8
        refine hK22 _ _ ?_; clear hK22
        refine wp_ret ?_
        repeat (with_reducible first | refine then_ret ?_ | refine block_ret ?_)
        exact fn_ret hst8 hfr8 rfl (.tmp rfl <| .nil) (by refine congrArg Value.bool ?_; rcases hn2.e with h9 | h9 | h9 <;> simp_all [sameT_refl])
      · try simp only [nq1, nq2, nq3, nq4, nq5, nq6, nq7, nq8, nq9, u8_eq] at hb53
        have hz2 : R2.1 = 0 := by omega
        rw [out_ok hz2] at hO2
        subst hO2
        obtain ⟨k3, R3, hR3, _, _⟩ := sm_run hU2 hb hc
        have h3 := run_three (V := R2.2) hra hrb hn1 hn2 hz1 hz2
        have e3 := types_same hR3 h3.2
        subst e3
        refine wp_skip ?_
        refine hK20 _ _ ?_; clear hK20
        refine seq_any fun _ hK24 => ?_
        replace hst7 := hst7.more (r := .free) trivial List.nodup_nil (by simp [Res.blocks])
        refine ra0 (tch := [(9, 2, (fun v => .blk v _)), (10, 2, (fun v => .blkx v _ _))]) hst7 hfr7 (.cons rfl (ob_loadLA (j := 1) rfl rfl Tryz.isAgg29 Tryz.sizeOf29 rfl) <| .cons rfl (ob_loadS' rfl hc4 Tryz.isAgg45 Tryz.sizeOf45 rfl rfl) <| .cons rfl (ob_loadS' rfl hc5 Tryz.isAgg45 Tryz.sizeOf45 rfl rfl) <| .cons rfl (ob_move rfl) <| .cons rfl (ob_call (φ := MP.un (0, R2.2)) rfl (.cons rfl <| .cons rfl <| .cons rfl <| .cons rfl <| .nil) Tryz.call14 (fun w m hK => by have hle_ := KC.le hK; have hA := KC.agree hK; have h_b := h_b.mono hle_; have h_c := h_c.mono hle_; have hS2 := hS2.mono hle_; exact FnG.mono (types7_c (n := R2.2.nx) hA hS2 h_b h_c hR3) fun _ _ _ _ h => h)) <| .cons rfl (ob_imgV 82 rfl rfl rfl fun y82 => ob_move rfl) <| .cons rfl (ob_imgV 77 rfl rfl rfl fun y77 => ob_extract rfl rfl) <| .cons rfl (ob_imgE 77 rfl rfl rfl fun y77 => ob_extract rfl rfl) <| .cons rfl (ob_imgE 77 rfl rfl rfl fun y77 => ob_extract rfl rfl) <| .consT rfl rfl (fun _ => rfl) rfl (ob_allocL Tryz.zeroValue29 rfl) <| .consT rfl rfl (fun _ => rfl) rfl (ob_imgT 14 rfl rfl rfl fun y14 => ob_imgTX 83 rfl rfl rfl fun y83 => ob_storeF rfl rfl rfl rfl rfl Tryz.sizeOf29 rfl rfl rfl) <| .cons rfl (ob_assign rfl) <| .cons rfl (ob_assign rfl) <| .nil) ?_
        intro a8 w8 m8 hst8 hle8 hk8
        have hfr8 := hk8.fr (T' := [(3, _), (4, _), (5, _), (7, _), (12, _), (11, _), (15, _), (16, _)]) (.old rfl rfl <| .old rfl rfl <| .old rfl rfl <| .old rfl rfl <| .old rfl rfl <| .old rfl rfl <| .new rfl <| .new rfl <| .nil)
        obtain ⟨g25, e25, _⟩ := hk8.ex 14 rfl
        replace hst8 := hst8.fin (L' := [_, _, _]) (.cons e25 <| .cons e25 <| .nil)
        try simp only [List.take_succ_cons, List.take_zero, List.drop_succ_cons, List.drop_zero, List.cons_append, List.nil_append, List.append_nil, List.length_cons, List.length_nil, Nat.zero_add, Nat.reduceAdd] at hst8
        obtain ⟨⟨q5, q6⟩, hS3, hst8⟩ := hst8.unx (k := 2) rfl (fun _ => rfl)
        replace h_a := h_a.mono hle8
        replace h_b := h_b.mono hle8
        replace h_c := h_c.mono hle8
        replace hc3 := hc3.mono hle8
        replace hc4 := hc4.mono hle8
        replace hc5 := hc5.mono hle8
        replace hS2 := hS2.mono hle8
        clear hst7 hfr7 hk8
        refine hK24 _ _ ?_; clear hK24
        refine seq_any fun _ hK27 => ?_
        refine region_plain (fun _ => mixed) hst8 hfr8 (by kernel_rfl) (by kernel_rfl) (.cons rfl (ob_move rfl) <| .cons rfl (ob_move rfl) <| .cons rfl (ob_loadLA (j := 1) rfl rfl Tryz.isAgg29 Tryz.sizeOf29 rfl) <| .cons rfl (ob_loadS' rfl hc3 Tryz.isAgg45 Tryz.sizeOf45 rfl rfl) <| .cons rfl (ob_call (φ := MP.ty (applyT R2.2.s a)) rfl (.cons rfl <| .cons rfl <| .nil) Tryz.call17 (fun w m hK => by have hle_ := KC.le hK; have hA := KC.agree hK; have h_a := h_a.mono hle_; have hS2 := hS2.mono hle_; exact FnG.mono (applyU_c (a) hA hS2 h_a (hU2.w.up (by omega)) (by omega)) fun _ _ _ _ h => h)) <| .cons rfl (ob_loadLA (j := 1) rfl rfl Tryz.isAgg29 Tryz.sizeOf29 rfl) <| .cons rfl (ob_loadS' rfl hc4 Tryz.isAgg45 Tryz.sizeOf45 rfl rfl) <| .cons rfl (ob_call (φ := MP.ty (applyT R2.2.s b)) rfl (.cons rfl <| .cons rfl <| .nil) Tryz.call17 (fun w m hK => by have hle_ := KC.le hK; have hA := KC.agree hK; have h_b := h_b.mono hle_; have hS2 := hS2.mono hle_; exact FnG.mono (applyU_c (b) hA hS2 h_b (hU2.w.up (by omega)) (by omega)) fun _ _ _ _ h => h)) <| .cons rfl (ob_imgE 90 rfl rfl rfl fun y90 => ob_imgE 93 rfl rfl rfl fun y93 => ob_callE rfl (.cons rfl <| .cons rfl <| .nil) Tryz.call16 (fun w m hK => by have hle_ := KC.le hK; have hA := KC.agree hK; have hr0_ := hK.2; have hr1_ := hK.1.2; exact sameR_c (applyT R2.2.s a) (u := applyT R2.2.s b) hA hr1_ hr0_)) <| .cons rfl (ob_and rfl rfl rfl) <| .cons rfl (ob_move rfl) <| .cons rfl (ob_loadLA (j := 1) rfl rfl Tryz.isAgg29 Tryz.sizeOf29 rfl) <| .cons rfl (ob_loadS' rfl hc4 Tryz.isAgg45 Tryz.sizeOf45 rfl rfl) <| .cons rfl (ob_call (φ := MP.ty (applyT R2.2.s b)) rfl (.cons rfl <| .cons rfl <| .nil) Tryz.call17 (fun w m hK => by have hle_ := KC.le hK; have hA := KC.agree hK; have h_b := h_b.mono hle_; have hS2 := hS2.mono hle_; exact FnG.mono (applyU_c (b) hA hS2 h_b (hU2.w.up (by omega)) (by omega)) fun _ _ _ _ h => h)) <| .cons rfl (ob_loadLA (j := 1) rfl rfl Tryz.isAgg29 Tryz.sizeOf29 rfl) <| .cons rfl (ob_loadS' rfl hc5 Tryz.isAgg45 Tryz.sizeOf45 rfl rfl) <| .cons rfl (ob_call (φ := MP.ty (applyT R2.2.s c)) rfl (.cons rfl <| .cons rfl <| .nil) Tryz.call17 (fun w m hK => by have hle_ := KC.le hK; have hA := KC.agree hK; have h_c := h_c.mono hle_; have hS2 := hS2.mono hle_; exact FnG.mono (applyU_c (c) hA hS2 h_c (hU2.w.up (by omega)) (by omega)) fun _ _ _ _ h => h)) <| .cons rfl (ob_imgE 99 rfl rfl rfl fun y99 => ob_imgE 102 rfl rfl rfl fun y102 => ob_callE rfl (.cons rfl <| .cons rfl <| .nil) Tryz.call16 (fun w m hK => by have hle_ := KC.le hK; have hA := KC.agree hK; have hr0_ := hK.2; have hr1_ := hK.1.2; exact sameR_c (applyT R2.2.s b) (u := applyT R2.2.s c) hA hr1_ hr0_)) <| .cons rfl (ob_and rfl rfl rfl) <| .cons rfl (ob_move rfl) <| .cons rfl (ob_move rfl) <| .cons rfl (ob_eql rfl rfl) <| .cons rfl (ob_and rfl rfl rfl) <| .cons rfl (ob_move rfl) <| .cons rfl (ob_move rfl) <| .cons rfl (ob_move rfl) <| .cons rfl (ob_eql rfl rfl) <| .cons rfl (ob_and rfl rfl rfl) <| .cons rfl (ob_assign rfl) <| .nil) ?_
        intro a9 w9 m9 hst9 hle9 hk9
        have hfr9 := hk9.fr (T' := [(6, _)]) (.new rfl <| .nil)
        clear hst8 hfr8 hk9
        refine hK27 _ _ ?_; clear hK27
        refine wp_ret ?_
        repeat (with_reducible first | refine then_ret ?_ | refine block_ret ?_)
        exact fn_ret hst9 hfr9 rfl (.tmp rfl <| .nil) (by refine congrArg Value.bool ?_; simp [sameT_refl, ← h3.2, h3.1])

end Go.Proofs.YtlidonjpgigocaaGreat
