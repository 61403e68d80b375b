/-
  'brocadelaw07': what the laws say, in plain words. Conditions: those of each theorem.
-/
import Derived.Test.YtlidonjpgigocaaGreatP8
namespace Go.Proofs.YtlidonjpgigocaaGreat
set_option linter.all false
set_option maxRecDepth 4000
open Go.RowKit
set_option maxHeartbeats 6400000 in
theorem unifySame_c {w : World} {m : Mem} {a : Ty} {vs_a : List Value} {b : Ty} {vs_b : List Value} (hA : Agree w m) (h_a : TyR m a vs_a) (h_b : TyR m b vs_b) (hw_a : wdT a ≤ 10000000) (hc_a : cntT a ≤ 10000000) (hw_b : wdT b ≤ 10000000) (hc_b : cntT b ≤ 10000000) : FnV Tryz.prog 4 #[.agg vs_a.toArray, .agg vs_b.toArray] w m (fun _ _ v => v = .bool true) := by
  obtain ⟨o_a, c_a, oL_a, cL_a, rfl, hk_a, hs_a, hi_a, hj_a, hr_a⟩ := h_a.open_
  have hbg_a := hk_a.big; have hcp_a := hk_a.cap; have hbs_a := hs_a.big; have hcs_a := hs_a.cap
  have hrw_a : RwR _ ⟨a.labels, a.rv⟩ _ := ⟨_, _, rfl, hs_a, hr_a⟩
  obtain ⟨o_b, c_b, oL_b, cL_b, rfl, hk_b, hs_b, hi_b, hj_b, hr_b⟩ := h_b.open_
  have hbg_b := hk_b.big; have hcp_b := hk_b.cap; have hbs_b := hs_b.big; have hcs_b := hs_b.cap
  have hrw_b : RwR _ ⟨b.labels, b.rv⟩ _ := ⟨_, _, rfl, hs_b, hr_b⟩
  refine fn_enter (vs := [_, _]) Tryz.func4 rfl rfl rfl fun a0 hfr0 => ?_
  have hst0 := st_enter hA (loc_nil [] _ w m)
  have hM : MLe m m := MLe.refl m
  refine seq_any fun _ hK1 => ?_
  refine rp0 hst0 hfr0 (.cons rfl (ob_box rfl rfl) <| .cons rfl (ob_box rfl rfl) <| .cons rfl (ob_assign rfl) <| .nil) ?_
  intro a1 w1 m1 hst1 hle1 hk1
  have hfr1 := hk1.fr (T' := []) (.nil)
  obtain ⟨g2, e2, hc2⟩ := hk1.ex 2 rfl
  replace hfr1 := hfr1.cons e2
  obtain ⟨g3, e3, hc3⟩ := hk1.ex 3 rfl
  replace hfr1 := hfr1.cons e3
  replace h_a := h_a.mono hle1
  replace h_b := h_b.mono hle1
  clear hst0 hfr0 hk1
  refine hK1 _ _ ?_; clear hK1
  refine seq_any fun _ hK4 => ?_
  refine rp0 hst1 hfr1 (.cons rfl (ob_callE rfl (.nil) Tryz.call9 (fun w m hK => by have hle_ := KC.le hK; have hA := KC.agree hK; exact shown_c hA)) <| .cons rfl (ob_assign rfl) <| .nil) ?_
  intro a2 w2 m2 hst2 hle2 hk2
  have hfr2 := hk2.fr (T' := [(2, _), (3, _), (5, _)]) (.old rfl rfl <| .old rfl rfl <| .new rfl <| .nil)
  replace h_a := h_a.mono hle2
  replace h_b := h_b.mono hle2
  replace hc2 := hc2.mono hle2
  replace hc3 := hc3.mono hle2
  clear hst1 hfr1 hk2
  refine hK4 _ _ ?_; clear hK4
  refine seq_any fun _ hK5 => ?_
  refine seq_any fun _ hK6 => ?_
  refine rp0 hst2 hfr2 (.cons rfl (ob_loadS' rfl hc2 Tryz.isAgg45 Tryz.sizeOf45 rfl rfl) <| .cons rfl (ob_callE rfl (.cons rfl <| .nil) Tryz.call11 (fun w m hK => by have hle_ := KC.le hK; have hA := KC.agree hK; have h_a := h_a.mono hle_; exact small_c (t := a) hA h_a (by omega))) <| .cons rfl (ob_not rfl) <| .cons rfl (ob_move rfl) <| .cons rfl (ob_loadS' rfl hc3 Tryz.isAgg45 Tryz.sizeOf45 rfl rfl) <| .cons rfl (ob_callE rfl (.cons rfl <| .nil) Tryz.call11 (fun w m hK => by have hle_ := KC.le hK; have hA := KC.agree hK; have h_b := h_b.mono hle_; exact small_c (t := b) hA h_b (by omega))) <| .cons rfl (ob_not rfl) <| .cons rfl (ob_or rfl rfl rfl) <| .nil) ?_
  intro a3 w3 m3 hst3 hle3 hk3
  have hfr3 := hk3.fr (T' := [(2, _), (3, _), (5, _), (25, _)]) (.old rfl rfl <| .old rfl rfl <| .old rfl rfl <| .new rfl <| .nil)
  replace h_a := h_a.mono hle3
  replace h_b := h_b.mono hle3
  replace hc2 := hc2.mono hle3
  replace hc3 := hc3.mono hle3
  clear hst2 hfr2 hk3
  refine hK6 _ _ ?_; clear hK6
  refine cond_any hfr3 rfl rfl (fun hb25 => ?_) (fun hb25 => ?_)
  · try simp only [nq1, nq2, nq3, nq4, nq5, nq6, nq7, nq8, nq9, u8_eq] at hb25
    refine seq_any fun _ hK7 => ?_
    refine rp0 hst3 hfr3 (.cons rfl (ob_move rfl) <| .cons rfl (ob_assign rfl) <| .nil) ?_
    intro a4 w4 m4 hst4 hle4 hk4
    have hfr4 := hk4.fr (T' := [(4, _)]) (.new rfl <| .nil)
    clear hst3 hfr3 hk4
    refine hK7 _ _ ?_; clear hK7
    refine wp_ret ?_
    repeat (with_reducible first | refine then_ret ?_ | refine block_ret ?_)
    exact fn_ret hst4 hfr4 rfl (.tmp rfl <| .nil) (rfl)
  · try simp only [nq1, nq2, nq3, nq4, nq5, nq6, nq7, nq8, nq9, u8_eq] at hb25
    have ha : smallT a = true := by simp_all
    have hb : smallT b = true := by simp_all
    obtain ⟨hra, _, hwda, hcta⟩ := small_open ha
    obtain ⟨hrb, _, hwdb, hctb⟩ := small_open hb
    have h0 := smU_none (n := 9) (by omega) (by omega)
    obtain ⟨k1, R1, hR1, ⟨rv1, w1, hU1⟩, hn1⟩ := sm_run h0 ha hb
    obtain ⟨O1, hO1⟩ : ∃ O, O = outU R1 ⟨noneS, 9⟩ := ⟨_, rfl⟩
    have hf1 : O1.1 = R1.1 := by rw [hO1, outU_fst]
    obtain ⟨k2, R2, hR2, ⟨rv2, w2, hU2⟩, hn2⟩ := sm_run h0 hb ha
    obtain ⟨O2, hO2⟩ : ∃ O, O = outU R2 ⟨noneS, 9⟩ := ⟨_, rfl⟩
    have hf2 : O2.1 = R2.1 := by rw [hO2, outU_fst]
    obtain ⟨k3, R3, hR3, _, _⟩ := sm_run h0 ha ha
    have e3 := types_same hR3 rfl
    subst e3
    refine wp_skip ?_
    refine hK5 _ _ ?_; clear hK5
    refine seq_any fun _ hK9 => ?_
    replace hst3 := hst3.more (r := .free) trivial List.nodup_nil (by simp [Res.blocks])
    refine region_any (tch := [(8, 0, (fun v => .blk v _)), (9, 0, (fun v => .blkx v _ _))]) (fun _ => mixed) hst3 hfr3 (by kernel_rfl) (by kernel_rfl) (by kernel_rfl) (.cons rfl (ob_call (φ := MP.subQ noneS) rfl (.nil) Tryz.call10 (fun w m hK => by have hle_ := KC.le hK; have hA := KC.agree hK; exact FnG.mono (noneU_c hA) fun _ _ _ _ h => h)) <| .cons rfl (ob_loadS' rfl hc2 Tryz.isAgg45 Tryz.sizeOf45 rfl rfl) <| .cons rfl (ob_loadS' rfl hc3 Tryz.isAgg45 Tryz.sizeOf45 rfl rfl) <| .cons rfl (ob_imgE 28 rfl rfl rfl fun y28 => ob_call (φ := MP.un O1) rfl (.cons rfl <| .cons rfl <| .cons rfl <| .cons rfl <| .nil) Tryz.call14 (fun w m hK => by have hle_ := KC.le hK; have hA := KC.agree hK; have hr0_ := hK.2; have h_a := h_a.mono hle_; have h_b := h_b.mono hle_; exact FnG.mono ((by rw [hO1]; exact types7_c (n := 9) hA hr0_ h_a h_b hR1)) fun _ _ _ _ h => h)) <| .cons rfl (ob_imgV 31 rfl rfl rfl fun y31 => ob_move rfl) <| .cons rfl (ob_imgV 27 rfl rfl rfl fun y27 => ob_extract rfl rfl) <| .cons rfl (ob_imgE 27 rfl rfl rfl fun y27 => ob_extract rfl rfl) <| .cons rfl (ob_imgE 27 rfl rfl rfl fun y27 => ob_extract rfl rfl) <| .consT rfl rfl (fun _ => rfl) rfl (ob_allocL Tryz.zeroValue29 rfl) <| .consT rfl rfl (fun _ => rfl) rfl (ob_imgT 6 rfl rfl rfl fun y6 => ob_imgTX 32 rfl rfl rfl fun y32 => ob_storeF rfl rfl rfl rfl rfl Tryz.sizeOf29 rfl rfl rfl) <| .cons rfl (ob_assign rfl) <| .cons rfl (ob_assign rfl) <| .nil) ?_
    intro a4 w4 m4 hst4 hle4 hk4
    have hfr4 := hk4.fr (T' := [(2, _), (3, _), (5, _), (8, _)]) (.old rfl rfl <| .old rfl rfl <| .old rfl rfl <| .new rfl <| .nil)
    obtain ⟨g10, e10, _⟩ := hk4.ex 6 rfl
    replace hfr4 := hfr4.cons e10
    replace hst4 := hst4.fin (L' := [_]) (.cons e10 <| .cons e10 <| .nil)
    try simp only [List.take_succ_cons, List.take_zero, List.drop_succ_cons, List.drop_zero, List.cons_append, List.nil_append, List.append_nil, List.length_cons, List.length_nil, Nat.zero_add, Nat.reduceAdd] at hst4
    obtain ⟨⟨q1, q2⟩, hS1, hst4⟩ := hst4.unx (k := 0) rfl (fun _ => rfl)
    replace h_a := h_a.mono hle4
    replace h_b := h_b.mono hle4
    replace hc2 := hc2.mono hle4
    replace hc3 := hc3.mono hle4
    clear hst3 hfr3 hk4
    refine hK9 _ _ ?_; clear hK9
    refine seq_any fun _ hK12 => ?_
    replace hst4 := hst4.more (r := .free) trivial List.nodup_nil (by simp [Res.blocks])
    refine region_any (tch := [(8, 1, (fun v => .blk v _)), (9, 1, (fun v => .blkx v _ _))]) (fun _ => mixed) hst4 hfr4 (by kernel_rfl) (by kernel_rfl) (by kernel_rfl) (.cons rfl (ob_call (φ := MP.subQ noneS) rfl (.nil) Tryz.call10 (fun w m hK => by have hle_ := KC.le hK; have hA := KC.agree hK; exact FnG.mono (noneU_c hA) fun _ _ _ _ h => h)) <| .cons rfl (ob_loadS' rfl hc3 Tryz.isAgg45 Tryz.sizeOf45 rfl rfl) <| .cons rfl (ob_loadS' rfl hc2 Tryz.isAgg45 Tryz.sizeOf45 rfl rfl) <| .cons rfl (ob_imgE 36 rfl rfl rfl fun y36 => ob_call (φ := MP.un O2) rfl (.cons rfl <| .cons rfl <| .cons rfl <| .cons rfl <| .nil) Tryz.call14 (fun w m hK => by have hle_ := KC.le hK; have hA := KC.agree hK; have hr0_ := hK.2; have h_a := h_a.mono hle_; have h_b := h_b.mono hle_; exact FnG.mono ((by rw [hO2]; exact types7_c (n := 9) hA hr0_ h_b h_a hR2)) fun _ _ _ _ h => h)) <| .cons rfl (ob_imgV 39 rfl rfl rfl fun y39 => ob_move rfl) <| .cons rfl (ob_imgV 35 rfl rfl rfl fun y35 => ob_extract rfl rfl) <| .cons rfl (ob_imgE 35 rfl rfl rfl fun y35 => ob_extract rfl rfl) <| .cons rfl (ob_imgE 35 rfl rfl rfl fun y35 => ob_extract rfl rfl) <| .consT rfl rfl (fun _ => rfl) rfl (ob_allocL Tryz.zeroValue29 rfl) <| .consT rfl rfl (fun _ => rfl) rfl (ob_imgT 9 rfl rfl rfl fun y9 => ob_imgTX 40 rfl rfl rfl fun y40 => ob_storeF rfl rfl rfl rfl rfl Tryz.sizeOf29 rfl rfl rfl) <| .cons rfl (ob_assign rfl) <| .cons rfl (ob_assign rfl) <| .nil) ?_
    intro a5 w5 m5 hst5 hle5 hk5
    have hfr5 := hk5.fr (T' := [(2, _), (3, _), (5, _), (8, _), (6, _), (11, _)]) (.old rfl rfl <| .old rfl rfl <| .old rfl rfl <| .old rfl rfl <| .old rfl rfl <| .new rfl <| .nil)
    obtain ⟨g13, e13, _⟩ := hk5.ex 9 rfl
    replace hfr5 := hfr5.cons e13
    replace hst5 := hst5.fin (L' := [_, _]) (.cons e13 <| .cons e13 <| .nil)
    try simp only [List.take_succ_cons, List.take_zero, List.drop_succ_cons, List.drop_zero, List.cons_append, List.nil_append, List.append_nil, List.length_cons, List.length_nil, Nat.zero_add, Nat.reduceAdd] at hst5
    obtain ⟨⟨q3, q4⟩, hS2, hst5⟩ := hst5.unx (k := 1) rfl (fun _ => rfl)
    replace h_a := h_a.mono hle5
    replace h_b := h_b.mono hle5
    replace hc2 := hc2.mono hle5
    replace hc3 := hc3.mono hle5
    replace hS1 := hS1.mono hle5
    clear hst4 hfr4 hk5
    refine hK12 _ _ ?_; clear hK12
    refine seq_any fun _ hK15 => ?_
    replace hst5 := hst5.more (r := .free) trivial List.nodup_nil (by simp [Res.blocks])
    refine region_any (tch := [(8, 2, (fun v => .blk v _)), (9, 2, (fun v => .blkx v _ _))]) (fun _ => mixed) hst5 hfr5 (by kernel_rfl) (by kernel_rfl) (by kernel_rfl) (.cons rfl (ob_call (φ := MP.subQ noneS) rfl (.nil) Tryz.call10 (fun w m hK => by have hle_ := KC.le hK; have hA := KC.agree hK; exact FnG.mono (noneU_c hA) fun _ _ _ _ h => h)) <| .cons rfl (ob_loadS' rfl hc2 Tryz.isAgg45 Tryz.sizeOf45 rfl rfl) <| .cons rfl (ob_loadS' rfl hc2 Tryz.isAgg45 Tryz.sizeOf45 rfl rfl) <| .cons rfl (ob_imgE 44 rfl rfl rfl fun y44 => ob_call (φ := MP.un (0, ⟨noneS, 9⟩)) rfl (.cons rfl <| .cons rfl <| .cons rfl <| .cons rfl <| .nil) Tryz.call14 (fun w m hK => by have hle_ := KC.le hK; have hA := KC.agree hK; have hr0_ := hK.2; have h_a := h_a.mono hle_; exact FnG.mono (types7_c (n := 9) hA hr0_ h_a h_a hR3) fun _ _ _ _ h => h)) <| .cons rfl (ob_imgV 47 rfl rfl rfl fun y47 => ob_move rfl) <| .cons rfl (ob_imgV 43 rfl rfl rfl fun y43 => ob_extract rfl rfl) <| .cons rfl (ob_imgE 43 rfl rfl rfl fun y43 => ob_extract rfl rfl) <| .cons rfl (ob_imgE 43 rfl rfl rfl fun y43 => ob_extract rfl rfl) <| .consT rfl rfl (fun _ => rfl) rfl (ob_allocL Tryz.zeroValue29 rfl) <| .consT rfl rfl (fun _ => rfl) rfl (ob_imgT 12 rfl rfl rfl fun y12 => ob_imgTX 48 rfl rfl rfl fun y48 => ob_storeF rfl rfl rfl rfl rfl Tryz.sizeOf29 rfl rfl rfl) <| .cons rfl (ob_assign rfl) <| .cons rfl (ob_assign rfl) <| .nil) ?_
    intro a6 w6 m6 hst6 hle6 hk6
    have hfr6 := hk6.fr (T' := [(2, _), (3, _), (5, _), (8, _), (6, _), (11, _), (9, _), (13, _), (14, _)]) (.old rfl rfl <| .old rfl rfl <| .old rfl rfl <| .old rfl rfl <| .old rfl rfl <| .old rfl rfl <| .old rfl rfl <| .new rfl <| .new rfl <| .nil)
    obtain ⟨g16, e16, _⟩ := hk6.ex 12 rfl
    replace hst6 := hst6.fin (L' := [_, _, _]) (.cons e16 <| .cons e16 <| .nil)
    try simp only [List.take_succ_cons, List.take_zero, List.drop_succ_cons, List.drop_zero, List.cons_append, List.nil_append, List.append_nil, List.length_cons, List.length_nil, Nat.zero_add, Nat.reduceAdd] at hst6
    obtain ⟨⟨q5, q6⟩, hS3, hst6⟩ := hst6.unx (k := 2) rfl (fun _ => rfl)
    replace h_a := h_a.mono hle6
    replace h_b := h_b.mono hle6
    replace hc2 := hc2.mono hle6
    replace hc3 := hc3.mono hle6
    replace hS1 := hS1.mono hle6
    replace hS2 := hS2.mono hle6
    clear hst5 hfr5 hk6
    refine hK15 _ _ ?_; clear hK15
    refine seq_any fun _ hK18 => ?_
    refine seq_any fun _ hK19 => ?_
    refine rp0 hst6 hfr6 (.cons rfl (ob_move rfl) <| .cons rfl (ob_eql rfl rfl) <| .cons rfl (ob_move rfl) <| .cons rfl (ob_move rfl) <| .cons rfl (ob_eql rfl rfl) <| .cons rfl (ob_or rfl rfl rfl) <| .nil) ?_
    intro a7 w7 m7 hst7 hle7 hk7
    have hfr7 := hk7.fr (T' := [(2, _), (3, _), (5, _), (8, _), (6, _), (11, _), (9, _), (13, _), (14, _), (56, _)]) (.old rfl rfl <| .old rfl rfl <| .old rfl rfl <| .old rfl rfl <| .old rfl rfl <| .old rfl rfl <| .old rfl rfl <| .old rfl rfl <| .old rfl rfl <| .new rfl <| .nil)
    replace h_a := h_a.mono hle7
    replace h_b := h_b.mono hle7
    replace hc2 := hc2.mono hle7
    replace hc3 := hc3.mono hle7
    replace hS1 := hS1.mono hle7
    replace hS2 := hS2.mono hle7
    clear hst6 hfr6 hk7
    refine hK19 _ _ ?_; clear hK19
    refine cond_any hfr7 rfl rfl (fun hb56 => ?_) (fun hb56 => ?_)
    · try simp only [nq1, nq2, nq3, nq4, nq5, nq6, nq7, nq8, nq9, u8_eq] at hb56
      refine seq_any fun _ hK20 => ?_
      refine rp0 hst7 hfr7 (.cons rfl (ob_move rfl) <| .cons rfl (ob_move rfl) <| .cons rfl (ob_move rfl) <| .cons rfl (ob_eql rfl rfl) <| .cons rfl (ob_and rfl rfl rfl) <| .cons rfl (ob_move rfl) <| .cons rfl (ob_move rfl) <| .cons rfl (ob_eql rfl rfl) <| .cons rfl (ob_and rfl rfl rfl) <| .cons rfl (ob_assign rfl) <| .nil) ?_
      intro a8 w8 m8 hst8 hle8 hk8
      have hfr8 := hk8.fr (T' := [(4, _)]) (.new rfl <| .nil)
      clear hst7 hfr7 hk8
      refine hK20 _ _ ?_; clear hK20
      refine wp_ret ?_
      repeat (with_reducible first | refine then_ret ?_ | refine block_ret ?_)
      exact fn_ret hst8 hfr8 rfl (.tmp rfl <| .nil) (rfl)
    · try simp only [nq1, nq2, nq3, nq4, nq5, nq6, nq7, nq8, nq9, u8_eq] at hb56
      have hq6 : R1.1 ≠ 6 ∧ R2.1 ≠ 6 := by omega
      have htr := turn_round hn1 hn2 hU1.inv.ok hU2.inv.ok hq6.1 hq6.2
      refine wp_skip ?_
      refine hK18 _ _ ?_; clear hK18
      refine seq_any fun _ hK22 => ?_
      refine seq_any fun _ hK23 => ?_
      refine rp0 hst7 hfr7 (.cons rfl (ob_move rfl) <| .cons rfl (ob_move rfl) <| .cons rfl (ob_neq rfl rfl) <| .cons rfl (ob_move rfl) <| .cons rfl (ob_move rfl) <| .cons rfl (ob_neq rfl rfl) <| .cons rfl (ob_or rfl rfl rfl) <| .cons rfl (ob_move rfl) <| .cons rfl (ob_move rfl) <| .cons rfl (ob_neq rfl rfl) <| .cons rfl (ob_or rfl rfl rfl) <| .nil) ?_
      intro a8 w8 m8 hst8 hle8 hk8
      have hfr8 := hk8.fr (T' := [(2, _), (3, _), (5, _), (8, _), (6, _), (9, _), (76, _)]) (.old rfl rfl <| .old rfl rfl <| .old rfl rfl <| .old rfl rfl <| .old rfl rfl <| .old rfl rfl <| .new rfl <| .nil)
      replace h_a := h_a.mono hle8
      replace h_b := h_b.mono hle8
      replace hc2 := hc2.mono hle8
      replace hc3 := hc3.mono hle8
      replace hS1 := hS1.mono hle8
      replace hS2 := hS2.mono hle8
      clear hst7 hfr7 hk8
      refine hK23 _ _ ?_; clear hK23
      refine cond_any hfr8 rfl rfl (fun hb76 => ?_) (fun hb76 => ?_)
      · try simp only [nq1, nq2, nq3, nq4, nq5, nq6, nq7, nq8, nq9, u8_eq] at hb76
        have hno : False := by rcases hb76 with (h9 | h9) | h9 <;> first | omega | exact h9 trivial
        refine seq_any fun _ hK24 => ?_
        refine rp0 hst8 hfr8 (.cons rfl (ob_assign rfl) <| .nil) ?_
        intro a9 w9 m9 hst9 hle9 hk9
        have hfr9 := hk9.fr (T' := [(4, _)]) (.new rfl <| .nil)
        clear hst8 hfr8 hk9
        refine hK24 _ _ ?_; clear hK24
        refine wp_ret ?_
        repeat (with_reducible first | refine then_ret ?_ | refine block_ret ?_)
        exact fn_ret hst9 hfr9 rfl (.tmp rfl <| .nil) (hno.elim)
      · try simp only [nq1, nq2, nq3, nq4, nq5, nq6, nq7, nq8, nq9, u8_eq] at hb76
        refine wp_skip ?_
        refine hK22 _ _ ?_; clear hK22
        refine seq_any fun _ hK26 => ?_
        refine seq_any fun _ hK27 => ?_
        refine rp0 hst8 hfr8 (.cons rfl (ob_move rfl) <| .cons rfl (ob_neq rfl rfl) <| .nil) ?_
        intro a9 w9 m9 hst9 hle9 hk9
        have hfr9 := hk9.fr (T' := [(2, _), (3, _), (5, _), (8, _), (6, _), (9, _), (78, _)]) (.old rfl rfl <| .old rfl rfl <| .old rfl rfl <| .old rfl rfl <| .old rfl rfl <| .old rfl rfl <| .new rfl <| .nil)
        replace h_a := h_a.mono hle9
        replace h_b := h_b.mono hle9
        replace hc2 := hc2.mono hle9
        replace hc3 := hc3.mono hle9
        replace hS1 := hS1.mono hle9
        replace hS2 := hS2.mono hle9
        clear hst8 hfr8 hk9
        refine hK27 _ _ ?_; clear hK27
        refine cond_any hfr9 rfl rfl (fun hb78 => ?_) (fun hb78 => ?_)
        · try simp only [nq1, nq2, nq3, nq4, nq5, nq6, nq7, nq8, nq9, u8_eq] at hb78
          refine seq_any fun _ hK28 => ?_
          refine rp0 hst9 hfr9 (.cons rfl (ob_move rfl) <| .cons rfl (ob_move rfl) <| .cons rfl (ob_move rfl) <| .cons rfl (ob_eql rfl rfl) <| .cons rfl (ob_and rfl rfl rfl) <| .cons rfl (ob_assign rfl) <| .nil) ?_
          intro a10 w10 m10 hst10 hle10 hk10
          have hfr10 := hk10.fr (T' := [(4, _)]) (.new rfl <| .nil)
          clear hst9 hfr9 hk10
          refine hK28 _ _ ?_; clear hK28
          refine wp_ret ?_
          repeat (with_reducible first | refine then_ret ?_ | refine block_ret ?_)
          exact fn_ret hst10 hfr10 rfl (.tmp rfl <| .nil) (by refine congrArg Value.bool ?_; rcases hn1.e with h9 | h9 | h9 <;> simp_all)
        · try simp only [nq1, nq2, nq3, nq4, nq5, nq6, nq7, nq8, nq9, u8_eq] at hb78
          have hz1 : R1.1 = 0 := by omega
          rw [out_ok hz1] at hO1
          subst hO1
          have hz2 : R2.1 = 0 := by omega
          rw [out_ok hz2] at hO2
          subst hO2
          refine wp_skip ?_
          refine hK26 _ _ ?_; clear hK26
          refine seq_any fun _ hK30 => ?_
          replace hst9 := hst9.more (r := .free) trivial List.nodup_nil (by simp [Res.blocks])
          refine ra0 (tch := [(3, 3, (fun v => .blk v _)), (4, 3, (fun v => .blkx v _ _))]) hst9 hfr9 (.cons rfl (ob_loadLA (j := 0) rfl rfl Tryz.isAgg29 Tryz.sizeOf29 rfl) <| .cons rfl (ob_loadS' rfl hc2 Tryz.isAgg45 Tryz.sizeOf45 rfl rfl) <| .cons rfl (ob_call (φ := MP.ty (applyT R1.2.s a)) rfl (.cons rfl <| .cons rfl <| .nil) Tryz.call17 (fun w m hK => by have hle_ := KC.le hK; have hA := KC.agree hK; have h_a := h_a.mono hle_; have hS1 := hS1.mono hle_; exact FnG.mono (applyU_c (a) hA hS1 h_a (hU1.w.up (by omega)) (by omega)) fun _ _ _ _ h => h)) <| .consT rfl rfl (fun _ => rfl) rfl (ob_allocL Tryz.zeroValue45 rfl) <| .consT rfl rfl (fun _ => rfl) rfl (ob_imgT 15 rfl rfl rfl fun y15 => ob_imgTX 86 rfl rfl rfl fun y86 => ob_storeF rfl rfl rfl rfl rfl Tryz.sizeOf45 rfl rfl rfl) <| .nil) ?_
          intro a10 w10 m10 hst10 hle10 hk10
          have hfr10 := hk10.fr (T' := [(2, _), (3, _), (5, _), (6, _), (9, _)]) (.old rfl rfl <| .old rfl rfl <| .old rfl rfl <| .old rfl rfl <| .old rfl rfl <| .nil)
          obtain ⟨g31, e31, _⟩ := hk10.ex 15 rfl
          replace hfr10 := hfr10.cons e31
          replace hst10 := hst10.fin (L' := [_, _, _, _]) (.cons e31 <| .cons e31 <| .nil)
          try simp only [List.take_succ_cons, List.take_zero, List.drop_succ_cons, List.drop_zero, List.cons_append, List.nil_append, List.append_nil, List.length_cons, List.length_nil, Nat.zero_add, Nat.reduceAdd] at hst10
          obtain ⟨⟨⟨oa1, ca1⟩, oa2, ca2⟩, hT1, hst10⟩ := hst10.unx (k := 3) rfl (fun _ => rfl)
          replace h_a := h_a.mono hle10
          replace h_b := h_b.mono hle10
          replace hc2 := hc2.mono hle10
          replace hc3 := hc3.mono hle10
          replace hS1 := hS1.mono hle10
          replace hS2 := hS2.mono hle10
          clear hst9 hfr9 hk10
          refine hK30 _ _ ?_; clear hK30
          refine seq_any fun _ hK33 => ?_
          replace hst10 := hst10.more (r := .free) trivial List.nodup_nil (by simp [Res.blocks])
          refine ra0 (tch := [(3, 4, (fun v => .blk v _)), (4, 4, (fun v => .blkx v _ _))]) hst10 hfr10 (.cons rfl (ob_loadLA (j := 1) rfl rfl Tryz.isAgg29 Tryz.sizeOf29 rfl) <| .cons rfl (ob_loadS' rfl hc2 Tryz.isAgg45 Tryz.sizeOf45 rfl rfl) <| .cons rfl (ob_call (φ := MP.ty (applyT R2.2.s a)) rfl (.cons rfl <| .cons rfl <| .nil) Tryz.call17 (fun w m hK => by have hle_ := KC.le hK; have hA := KC.agree hK; have h_a := h_a.mono hle_; have hS2 := hS2.mono hle_; exact FnG.mono (applyU_c (a) hA hS2 h_a (hU2.w.up (by omega)) (by omega)) fun _ _ _ _ h => h)) <| .consT rfl rfl (fun _ => rfl) rfl (ob_allocL Tryz.zeroValue45 rfl) <| .consT rfl rfl (fun _ => rfl) rfl (ob_imgT 16 rfl rfl rfl fun y16 => ob_imgTX 89 rfl rfl rfl fun y89 => ob_storeF rfl rfl rfl rfl rfl Tryz.sizeOf45 rfl rfl rfl) <| .nil) ?_
          intro a11 w11 m11 hst11 hle11 hk11
          have hfr11 := hk11.fr (T' := [(3, _), (5, _), (6, _), (9, _), (15, _)]) (.old rfl rfl <| .old rfl rfl <| .old rfl rfl <| .old rfl rfl <| .old rfl rfl <| .nil)
          obtain ⟨g34, e34, _⟩ := hk11.ex 16 rfl
          replace hfr11 := hfr11.cons e34
          replace hst11 := hst11.fin (L' := [_, _, _, _, _]) (.cons e34 <| .cons e34 <| .nil)
          try simp only [List.take_succ_cons, List.take_zero, List.drop_succ_cons, List.drop_zero, List.cons_append, List.nil_append, List.append_nil, List.length_cons, List.length_nil, Nat.zero_add, Nat.reduceAdd] at hst11
          obtain ⟨⟨⟨ob1, cb1⟩, ob2, cb2⟩, hT2, hst11⟩ := hst11.unx (k := 4) rfl (fun _ => rfl)
          replace h_b := h_b.mono hle11
          replace hc3 := hc3.mono hle11
          replace hS1 := hS1.mono hle11
          replace hS2 := hS2.mono hle11
          replace hT1 := hT1.mono hle11
          clear hst10 hfr10 hk11
          have hy1 := run_self hU1 hra
          have hd1 := applyT_wd hU1.w a
          refine hK33 _ _ ?_; clear hK33
          refine seq_any fun _ hK36 => ?_
          refine region_plain (fun _ => mixed) hst11 hfr11 (by kernel_rfl) (by kernel_rfl) (.cons rfl (ob_move rfl) <| .cons rfl (ob_move rfl) <| .cons rfl (ob_loadLA (j := 3) rfl rfl Tryz.isAgg45 Tryz.sizeOf45 rfl) <| .cons rfl (ob_loadLA (j := 0) rfl rfl Tryz.isAgg29 Tryz.sizeOf29 rfl) <| .cons rfl (ob_loadS' rfl hc3 Tryz.isAgg45 Tryz.sizeOf45 rfl rfl) <| .cons rfl (ob_call (φ := MP.ty (applyT R1.2.s b)) rfl (.cons rfl <| .cons rfl <| .nil) Tryz.call17 (fun w m hK => by have hle_ := KC.le hK; have hA := KC.agree hK; have h_b := h_b.mono hle_; have hS1 := hS1.mono hle_; exact FnG.mono (applyU_c (b) hA hS1 h_b (hU1.w.up (by omega)) (by omega)) fun _ _ _ _ h => h)) <| .cons rfl (ob_imgE 95 rfl rfl rfl fun y95 => ob_callE rfl (.cons rfl <| .cons rfl <| .nil) Tryz.call16 (fun w m hK => by have hle_ := KC.le hK; have hA := KC.agree hK; have hr0_ := hK.2; have hT1 := hT1.mono hle_; exact sameR_c (applyT R1.2.s a) (u := applyT R1.2.s b) hA hT1 hr0_)) <| .cons rfl (ob_and rfl rfl rfl) <| .cons rfl (ob_move rfl) <| .cons rfl (ob_loadLA (j := 4) rfl rfl Tryz.isAgg45 Tryz.sizeOf45 rfl) <| .cons rfl (ob_loadLA (j := 1) rfl rfl Tryz.isAgg29 Tryz.sizeOf29 rfl) <| .cons rfl (ob_loadS' rfl hc3 Tryz.isAgg45 Tryz.sizeOf45 rfl rfl) <| .cons rfl (ob_call (φ := MP.ty (applyT R2.2.s b)) rfl (.cons rfl <| .cons rfl <| .nil) Tryz.call17 (fun w m hK => by have hle_ := KC.le hK; have hA := KC.agree hK; have h_b := h_b.mono hle_; have hS2 := hS2.mono hle_; exact FnG.mono (applyU_c (b) hA hS2 h_b (hU2.w.up (by omega)) (by omega)) fun _ _ _ _ h => h)) <| .cons rfl (ob_imgE 102 rfl rfl rfl fun y102 => ob_callE rfl (.cons rfl <| .cons rfl <| .nil) Tryz.call16 (fun w m hK => by have hle_ := KC.le hK; have hA := KC.agree hK; have hr0_ := hK.2; have hT2 := hT2.mono hle_; exact sameR_c (applyT R2.2.s a) (u := applyT R2.2.s b) hA hT2 hr0_)) <| .cons rfl (ob_and rfl rfl rfl) <| .cons rfl (ob_move rfl) <| .cons rfl (ob_loadLA (j := 0) rfl rfl Tryz.isAgg29 Tryz.sizeOf29 rfl) <| .cons rfl (ob_loadLA (j := 3) rfl rfl Tryz.isAgg45 Tryz.sizeOf45 rfl) <| .cons rfl (ob_call (φ := MP.ty (applyT R1.2.s (applyT R1.2.s a))) rfl (.cons rfl <| .cons rfl <| .nil) Tryz.call17 (fun w m hK => by have hle_ := KC.le hK; have hA := KC.agree hK; have hS1 := hS1.mono hle_; have hT1 := hT1.mono hle_; exact FnG.mono (applyU_c ((applyT R1.2.s a)) hA hS1 hT1 (hU1.w.up (by omega)) (by omega)) fun _ _ _ _ h => h)) <| .cons rfl (ob_loadLA (j := 3) rfl rfl Tryz.isAgg45 Tryz.sizeOf45 rfl) <| .cons rfl (ob_imgE 108 rfl rfl rfl fun y108 => ob_callE rfl (.cons rfl <| .cons rfl <| .nil) Tryz.call16 (fun w m hK => by have hle_ := KC.le hK; have hA := KC.agree hK; have hr0_ := hK.2; have hT1 := hT1.mono hle_; exact sameR_c (applyT R1.2.s (applyT R1.2.s a)) (u := applyT R1.2.s a) hA hr0_ hT1)) <| .cons rfl (ob_and rfl rfl rfl) <| .cons rfl (ob_assign rfl) <| .nil) ?_
          intro a12 w12 m12 hst12 hle12 hk12
          have hfr12 := hk12.fr (T' := [(4, _)]) (.new rfl <| .nil)
          clear hst11 hfr11 hk12
          refine hK36 _ _ ?_; clear hK36
          refine wp_ret ?_
          repeat (with_reducible first | refine then_ret ?_ | refine block_ret ?_)
          exact fn_ret hst12 hfr12 rfl (.tmp rfl <| .nil) (by refine congrArg Value.bool ?_; rw [← hn1.eq hz1, ← hn2.eq hz2, hy1]; simp [sameT_refl])

end Go.Proofs.YtlidonjpgigocaaGreat
