/-
  'brocadelaw07': what the laws say, in plain words. Conditions: those of each theorem.
-/
import Derived.Test.YtlidonjpgigocaaGreatP8
namespace Go.Proofs.YtlidonjpgigocaaGreat
set_option linter.all false
set_option maxRecDepth 4000
open Go.RowKit
set_option maxHeartbeats 6400000 in
theorem unifyGround_c {w : World} {m : Mem} {a : Ty} {vs_a : List Value} {b : Ty} {vs_b : List Value} (hA : Agree w m) (h_a : TyR m a vs_a) (h_b : TyR m b vs_b) (hw_a : wdT a ≤ 10000000) (hc_a : cntT a ≤ 10000000) (hw_b : wdT b ≤ 10000000) (hc_b : cntT b ≤ 10000000) : FnV Tryz.prog 7 #[.agg vs_a.toArray, .agg vs_b.toArray] w m (fun _ _ v => v = .bool true) := by
  obtain ⟨o_a, c_a, oL_a, cL_a, rfl, hk_a, hs_a, hi_a, hj_a, hr_a⟩ := h_a.open_
  have hbg_a := hk_a.big; have hcp_a := hk_a.cap; have hbs_a := hs_a.big; have hcs_a := hs_a.cap
  have hrw_a : RwR _ ⟨a.labels, a.rv⟩ _ := ⟨_, _, rfl, hs_a, hr_a⟩
  obtain ⟨o_b, c_b, oL_b, cL_b, rfl, hk_b, hs_b, hi_b, hj_b, hr_b⟩ := h_b.open_
  have hbg_b := hk_b.big; have hcp_b := hk_b.cap; have hbs_b := hs_b.big; have hcs_b := hs_b.cap
  have hrw_b : RwR _ ⟨b.labels, b.rv⟩ _ := ⟨_, _, rfl, hs_b, hr_b⟩
  refine fn_enter (vs := [_, _]) Tryz.func7 rfl rfl rfl fun a0 hfr0 => ?_
  have hst0 := st_enter hA (loc_nil [] _ w m)
  have hM : MLe m m := MLe.refl m
  refine seq_any fun _ hK1 => ?_
  refine rp0 hst0 hfr0 (.cons rfl (ob_box rfl rfl) <| .cons rfl (ob_box rfl rfl) <| .cons rfl (ob_assign rfl) <| .nil) ?_
  intro a1 w1 m1 hst1 hle1 hk1
  have hfr1 := hk1.fr (T' := []) (.nil)
  obtain ⟨g2, e2, hc2⟩ := hk1.ex 2 rfl
  replace hfr1 := hfr1.cons e2
  obtain ⟨g3, e3, hc3⟩ := hk1.ex 3 rfl
  replace hfr1 := hfr1.cons e3
  replace h_a := h_a.mono hle1
  replace h_b := h_b.mono hle1
  clear hst0 hfr0 hk1
  refine hK1 _ _ ?_; clear hK1
  refine seq_any fun _ hK4 => ?_
  refine rp0 hst1 hfr1 (.cons rfl (ob_callE rfl (.nil) Tryz.call9 (fun w m hK => by have hle_ := KC.le hK; have hA := KC.agree hK; exact shown_c hA)) <| .cons rfl (ob_assign rfl) <| .nil) ?_
  intro a2 w2 m2 hst2 hle2 hk2
  have hfr2 := hk2.fr (T' := [(2, _), (3, _), (5, _)]) (.old rfl rfl <| .old rfl rfl <| .new rfl <| .nil)
  replace h_a := h_a.mono hle2
  replace h_b := h_b.mono hle2
  replace hc2 := hc2.mono hle2
  replace hc3 := hc3.mono hle2
  clear hst1 hfr1 hk2
  refine hK4 _ _ ?_; clear hK4
  refine seq_any fun _ hK5 => ?_
  refine seq_any fun _ hK6 => ?_
  refine rp0 hst2 hfr2 (.cons rfl (ob_loadS' rfl hc2 Tryz.isAgg45 Tryz.sizeOf45 rfl rfl) <| .cons rfl (ob_callE rfl (.cons rfl <| .nil) Tryz.call25 (fun w m hK => by have hle_ := KC.le hK; have hA := KC.agree hK; have h_a := h_a.mono hle_; exact count_c a hA h_a (by omega))) <| .cons rfl (ob_gtr rfl rfl) <| .cons rfl (ob_move rfl) <| .cons rfl (ob_loadS' rfl hc3 Tryz.isAgg45 Tryz.sizeOf45 rfl rfl) <| .cons rfl (ob_callE rfl (.cons rfl <| .nil) Tryz.call25 (fun w m hK => by have hle_ := KC.le hK; have hA := KC.agree hK; have h_b := h_b.mono hle_; exact count_c b hA h_b (by omega))) <| .cons rfl (ob_gtr rfl rfl) <| .cons rfl (ob_or rfl rfl rfl) <| .cons rfl (ob_move rfl) <| .cons rfl (ob_loadS' rfl hc2 Tryz.isAgg45 Tryz.sizeOf45 rfl rfl) <| .cons rfl (ob_callE rfl (.cons rfl <| .nil) Tryz.call29 (fun w m hK => by have hle_ := KC.le hK; have hA := KC.agree hK; have h_a := h_a.mono hle_; exact right0R_c (t := a) hA h_a)) <| .cons rfl (ob_not rfl) <| .cons rfl (ob_or rfl rfl rfl) <| .cons rfl (ob_move rfl) <| .cons rfl (ob_loadS' rfl hc3 Tryz.isAgg45 Tryz.sizeOf45 rfl rfl) <| .cons rfl (ob_callE rfl (.cons rfl <| .nil) Tryz.call29 (fun w m hK => by have hle_ := KC.le hK; have hA := KC.agree hK; have h_b := h_b.mono hle_; exact right0R_c (t := b) hA h_b)) <| .cons rfl (ob_not rfl) <| .cons rfl (ob_or rfl rfl rfl) <| .cons rfl (ob_move rfl) <| .cons rfl (ob_loadS' rfl hc2 Tryz.isAgg45 Tryz.sizeOf45 rfl rfl) <| .cons rfl (ob_callE rfl (.cons rfl <| .nil) Tryz.call30 (fun w m hK => by have hle_ := KC.le hK; have hA := KC.agree hK; have h_a := h_a.mono hle_; exact ground_c (t := a) hA h_a (by omega))) <| .cons rfl (ob_not rfl) <| .cons rfl (ob_or rfl rfl rfl) <| .cons rfl (ob_move rfl) <| .cons rfl (ob_loadS' rfl hc3 Tryz.isAgg45 Tryz.sizeOf45 rfl rfl) <| .cons rfl (ob_callE rfl (.cons rfl <| .nil) Tryz.call30 (fun w m hK => by have hle_ := KC.le hK; have hA := KC.agree hK; have h_b := h_b.mono hle_; exact ground_c (t := b) hA h_b (by omega))) <| .cons rfl (ob_not rfl) <| .cons rfl (ob_or rfl rfl rfl) <| .nil) ?_
  intro a3 w3 m3 hst3 hle3 hk3
  have hfr3 := hk3.fr (T' := [(2, _), (3, _), (5, _), (43, _)]) (.old rfl rfl <| .old rfl rfl <| .old rfl rfl <| .new rfl <| .nil)
  replace h_a := h_a.mono hle3
  replace h_b := h_b.mono hle3
  replace hc2 := hc2.mono hle3
  replace hc3 := hc3.mono hle3
  clear hst2 hfr2 hk3
  refine hK6 _ _ ?_; clear hK6
  refine cond_any hfr3 rfl rfl (fun hb43 => ?_) (fun hb43 => ?_)
  · try simp only [nq1, nq2, nq3, nq4, nq5, nq6, nq7, nq8, nq9, u8_eq] at hb43
    refine seq_any fun _ hK7 => ?_
    refine rp0 hst3 hfr3 (.cons rfl (ob_move rfl) <| .cons rfl (ob_assign rfl) <| .nil) ?_
    intro a4 w4 m4 hst4 hle4 hk4
    have hfr4 := hk4.fr (T' := [(4, _)]) (.new rfl <| .nil)
    clear hst3 hfr3 hk4
    refine hK7 _ _ ?_; clear hK7
    refine wp_ret ?_
    repeat (with_reducible first | refine then_ret ?_ | refine block_ret ?_)
    exact fn_ret hst4 hfr4 rfl (.tmp rfl <| .nil) (rfl)
  · try simp only [nq1, nq2, nq3, nq4, nq5, nq6, nq7, nq8, nq9, u8_eq] at hb43
    have hra : rightT a = true := by simp_all
    have hrb : rightT b = true := by simp_all
    have hga : groundT a = true := by simp_all
    have hgb : groundT b = true := by simp_all
    have hca3 : cntT a ≤ 30 := by simp_all; omega
    have hcb3 : cntT b ≤ 30 := by simp_all; omega
    have hda3 : deepT a ≤ 200 := by simp_all
    have hdb3 : deepT b ≤ 200 := by simp_all
    obtain ⟨k1, R1, hR1, ho1, hn1⟩ := ground_run hra hrb hga hgb hca3 hcb3 hw_a hw_b
    have hg1 := (ground_var1 (n := 1) ⟨by omega, by omega⟩ hra hga (by omega) (by omega) (by omega) (by omega)).1
    have hg2 := (ground_var1 (n := 2) ⟨by omega, by omega⟩ hrb hgb (by omega) (by omega) (by omega) (by omega)).2
    have w1 : SubW 400000000 (oneT 1 a) := oneT_w (by omega)
    have w2 : SubW 400000000 (oneT 2 b) := oneT_w (by omega)
    have w0 : SubW 400000000 noneS := (noneU_ok (n := 9) ⟨by omega, by omega⟩).w.up (by omega)
    have wv : ∀ n, wdT (varT n) ≤ 400000000 := fun n => by simp [varT, wdT, wdTs]
    refine wp_skip ?_
    refine hK5 _ _ ?_; clear hK5
    refine seq_any fun _ hK9 => ?_
    replace hst3 := hst3.more (r := .free) trivial List.nodup_nil (by simp [Res.blocks])
    refine region_any (tch := [(8, 0, (fun v => .blk v _)), (9, 0, (fun v => .blkx v _ _))]) (fun _ => mixed) hst3 hfr3 (by kernel_rfl) (by kernel_rfl) (by kernel_rfl) (.cons rfl (ob_call (φ := MP.subQ noneS) rfl (.nil) Tryz.call10 (fun w m hK => by have hle_ := KC.le hK; have hA := KC.agree hK; exact FnG.mono (noneU_c hA) fun _ _ _ _ h => h)) <| .cons rfl (ob_loadS' rfl hc2 Tryz.isAgg45 Tryz.sizeOf45 rfl rfl) <| .cons rfl (ob_loadS' rfl hc3 Tryz.isAgg45 Tryz.sizeOf45 rfl rfl) <| .cons rfl (ob_imgE 46 rfl rfl rfl fun y46 => ob_call (φ := MP.un (R1.1, ⟨noneS, 9⟩)) rfl (.cons rfl <| .cons rfl <| .cons rfl <| .cons rfl <| .nil) Tryz.call14 (fun w m hK => by have hle_ := KC.le hK; have hA := KC.agree hK; have hr0_ := hK.2; have h_a := h_a.mono hle_; have h_b := h_b.mono hle_; exact FnG.mono ((by have h9 := types7_c (n := 9) hA hr0_ h_a h_b hR1; rw [ho1] at h9; exact h9)) fun _ _ _ _ h => h)) <| .cons rfl (ob_imgV 49 rfl rfl rfl fun y49 => ob_move rfl) <| .cons rfl (ob_imgV 45 rfl rfl rfl fun y45 => ob_extract rfl rfl) <| .cons rfl (ob_imgE 45 rfl rfl rfl fun y45 => ob_extract rfl rfl) <| .cons rfl (ob_imgE 45 rfl rfl rfl fun y45 => ob_extract rfl rfl) <| .consT rfl rfl (fun _ => rfl) rfl (ob_allocL Tryz.zeroValue29 rfl) <| .consT rfl rfl (fun _ => rfl) rfl (ob_imgT 6 rfl rfl rfl fun y6 => ob_imgTX 50 rfl rfl rfl fun y50 => ob_storeF rfl rfl rfl rfl rfl Tryz.sizeOf29 rfl rfl rfl) <| .cons rfl (ob_assign rfl) <| .cons rfl (ob_assign rfl) <| .nil) ?_
    intro a4 w4 m4 hst4 hle4 hk4
    have hfr4 := hk4.fr (T' := [(2, _), (3, _), (5, _), (7, _), (8, _)]) (.old rfl rfl <| .old rfl rfl <| .old rfl rfl <| .new rfl <| .new rfl <| .nil)
    obtain ⟨g10, e10, _⟩ := hk4.ex 6 rfl
    replace hfr4 := hfr4.cons e10
    replace hst4 := hst4.fin (L' := [_]) (.cons e10 <| .cons e10 <| .nil)
    try simp only [List.take_succ_cons, List.take_zero, List.drop_succ_cons, List.drop_zero, List.cons_append, List.nil_append, List.append_nil, List.length_cons, List.length_nil, Nat.zero_add, Nat.reduceAdd] at hst4
    obtain ⟨⟨q1, q2⟩, hS1, hst4⟩ := hst4.unx (k := 0) rfl (fun _ => rfl)
    replace h_a := h_a.mono hle4
    replace h_b := h_b.mono hle4
    replace hc2 := hc2.mono hle4
    replace hc3 := hc3.mono hle4
    clear hst3 hfr3 hk4
    refine hK9 _ _ ?_; clear hK9
    refine seq_any fun _ hK12 => ?_
    replace hst4 := hst4.more (r := .free) trivial List.nodup_nil (by simp [Res.blocks])
    refine region_any (tch := [(8, 1, (fun v => .blk v _)), (9, 1, (fun v => .blkx v _ _))]) (fun _ => mixed) hst4 hfr4 (by kernel_rfl) (by kernel_rfl) (by kernel_rfl) (.cons rfl (ob_call (φ := MP.subQ noneS) rfl (.nil) Tryz.call10 (fun w m hK => by have hle_ := KC.le hK; have hA := KC.agree hK; exact FnG.mono (noneU_c hA) fun _ _ _ _ h => h)) <| .cons rfl (ob_call (φ := MP.ty (varT 1)) rfl (.cons rfl <| .nil) Tryz.call18 (fun w m hK => by have hle_ := KC.le hK; have hA := KC.agree hK; exact FnG.mono (tvar_c (n := 1) hA ⟨by omega, by omega⟩) fun _ _ _ _ h => h)) <| .cons rfl (ob_loadS' rfl hc2 Tryz.isAgg45 Tryz.sizeOf45 rfl rfl) <| .cons rfl (ob_imgE 54 rfl rfl rfl fun y54 => ob_imgE 55 rfl rfl rfl fun y55 => ob_call (φ := MP.un (0, ⟨oneT 1 a, 9⟩)) rfl (.cons rfl <| .cons rfl <| .cons rfl <| .cons rfl <| .nil) Tryz.call14 (fun w m hK => by have hle_ := KC.le hK; have hA := KC.agree hK; have hr0_ := hK.2; have hr1_ := hK.1.2; have h_a := h_a.mono hle_; exact FnG.mono (types7_c (n := 9) (a := varT 1) hA hr1_ hr0_ h_a hg1) fun _ _ _ _ h => h)) <| .cons rfl (ob_imgV 57 rfl rfl rfl fun y57 => ob_move rfl) <| .cons rfl (ob_imgV 53 rfl rfl rfl fun y53 => ob_extract rfl rfl) <| .cons rfl (ob_imgE 53 rfl rfl rfl fun y53 => ob_extract rfl rfl) <| .cons rfl (ob_imgE 53 rfl rfl rfl fun y53 => ob_extract rfl rfl) <| .consT rfl rfl (fun _ => rfl) rfl (ob_allocL Tryz.zeroValue29 rfl) <| .consT rfl rfl (fun _ => rfl) rfl (ob_imgT 9 rfl rfl rfl fun y9 => ob_imgTX 58 rfl rfl rfl fun y58 => ob_storeF rfl rfl rfl rfl rfl Tryz.sizeOf29 rfl rfl rfl) <| .cons rfl (ob_assign rfl) <| .cons rfl (ob_assign rfl) <| .nil) ?_
    intro a5 w5 m5 hst5 hle5 hk5
    have hfr5 := hk5.fr (T' := [(2, _), (3, _), (5, _), (7, _), (8, _), (6, _), (10, _), (11, _)]) (.old rfl rfl <| .old rfl rfl <| .old rfl rfl <| .old rfl rfl <| .old rfl rfl <| .old rfl rfl <| .new rfl <| .new rfl <| .nil)
    obtain ⟨g13, e13, _⟩ := hk5.ex 9 rfl
    replace hfr5 := hfr5.cons e13
    replace hst5 := hst5.fin (L' := [_, _]) (.cons e13 <| .cons e13 <| .nil)
    try simp only [List.take_succ_cons, List.take_zero, List.drop_succ_cons, List.drop_zero, List.cons_append, List.nil_append, List.append_nil, List.length_cons, List.length_nil, Nat.zero_add, Nat.reduceAdd] at hst5
    obtain ⟨⟨q3, q4⟩, hS2, hst5⟩ := hst5.unx (k := 1) rfl (fun _ => rfl)
    replace h_a := h_a.mono hle5
    replace h_b := h_b.mono hle5
    replace hc2 := hc2.mono hle5
    replace hc3 := hc3.mono hle5
    replace hS1 := hS1.mono hle5
    clear hst4 hfr4 hk5
    refine hK12 _ _ ?_; clear hK12
    refine seq_any fun _ hK15 => ?_
    replace hst5 := hst5.more (r := .free) trivial List.nodup_nil (by simp [Res.blocks])
    refine region_any (tch := [(8, 2, (fun v => .blk v _)), (9, 2, (fun v => .blkx v _ _))]) (fun _ => mixed) hst5 hfr5 (by kernel_rfl) (by kernel_rfl) (by kernel_rfl) (.cons rfl (ob_call (φ := MP.subQ noneS) rfl (.nil) Tryz.call10 (fun w m hK => by have hle_ := KC.le hK; have hA := KC.agree hK; exact FnG.mono (noneU_c hA) fun _ _ _ _ h => h)) <| .cons rfl (ob_loadS' rfl hc3 Tryz.isAgg45 Tryz.sizeOf45 rfl rfl) <| .cons rfl (ob_call (φ := MP.ty (varT 2)) rfl (.cons rfl <| .nil) Tryz.call18 (fun w m hK => by have hle_ := KC.le hK; have hA := KC.agree hK; exact FnG.mono (tvar_c (n := 2) hA ⟨by omega, by omega⟩) fun _ _ _ _ h => h)) <| .cons rfl (ob_imgE 62 rfl rfl rfl fun y62 => ob_imgE 64 rfl rfl rfl fun y64 => ob_call (φ := MP.un (0, ⟨oneT 2 b, 9⟩)) rfl (.cons rfl <| .cons rfl <| .cons rfl <| .cons rfl <| .nil) Tryz.call14 (fun w m hK => by have hle_ := KC.le hK; have hA := KC.agree hK; have hr0_ := hK.2; have hr1_ := hK.1.2; have h_b := h_b.mono hle_; exact FnG.mono (types7_c (n := 9) (b := varT 2) hA hr1_ h_b hr0_ hg2) fun _ _ _ _ h => h)) <| .cons rfl (ob_imgV 65 rfl rfl rfl fun y65 => ob_move rfl) <| .cons rfl (ob_imgV 61 rfl rfl rfl fun y61 => ob_extract rfl rfl) <| .cons rfl (ob_imgE 61 rfl rfl rfl fun y61 => ob_extract rfl rfl) <| .cons rfl (ob_imgE 61 rfl rfl rfl fun y61 => ob_extract rfl rfl) <| .consT rfl rfl (fun _ => rfl) rfl (ob_allocL Tryz.zeroValue29 rfl) <| .consT rfl rfl (fun _ => rfl) rfl (ob_imgT 12 rfl rfl rfl fun y12 => ob_imgTX 66 rfl rfl rfl fun y66 => ob_storeF rfl rfl rfl rfl rfl Tryz.sizeOf29 rfl rfl rfl) <| .cons rfl (ob_assign rfl) <| .cons rfl (ob_assign rfl) <| .nil) ?_
    intro a6 w6 m6 hst6 hle6 hk6
    have hfr6 := hk6.fr (T' := [(2, _), (3, _), (5, _), (7, _), (8, _), (6, _), (10, _), (11, _), (9, _), (13, _), (14, _)]) (.old rfl rfl <| .old rfl rfl <| .old rfl rfl <| .old rfl rfl <| .old rfl rfl <| .old rfl rfl <| .old rfl rfl <| .old rfl rfl <| .old rfl rfl <| .new rfl <| .new rfl <| .nil)
    obtain ⟨g16, e16, _⟩ := hk6.ex 12 rfl
    replace hfr6 := hfr6.cons e16
    replace hst6 := hst6.fin (L' := [_, _, _]) (.cons e16 <| .cons e16 <| .nil)
    try simp only [List.take_succ_cons, List.take_zero, List.drop_succ_cons, List.drop_zero, List.cons_append, List.nil_append, List.append_nil, List.length_cons, List.length_nil, Nat.zero_add, Nat.reduceAdd] at hst6
    obtain ⟨⟨q5, q6⟩, hS3, hst6⟩ := hst6.unx (k := 2) rfl (fun _ => rfl)
    replace h_a := h_a.mono hle6
    replace h_b := h_b.mono hle6
    replace hc2 := hc2.mono hle6
    replace hc3 := hc3.mono hle6
    replace hS1 := hS1.mono hle6
    replace hS2 := hS2.mono hle6
    clear hst5 hfr5 hk6
    refine hK15 _ _ ?_; clear hK15
    refine seq_any fun _ hK18 => ?_
    refine region_plain (fun _ => mixed) hst6 hfr6 (by kernel_rfl) (by kernel_rfl) (.cons rfl (ob_move rfl) <| .cons rfl (ob_move rfl) <| .cons rfl (ob_move rfl) <| .cons rfl (ob_eql rfl rfl) <| .cons rfl (ob_loadS' rfl hc2 Tryz.isAgg45 Tryz.sizeOf45 rfl rfl) <| .cons rfl (ob_loadS' rfl hc3 Tryz.isAgg45 Tryz.sizeOf45 rfl rfl) <| .cons rfl (ob_callE rfl (.cons rfl <| .cons rfl <| .nil) Tryz.call16 (fun w m hK => by have hle_ := KC.le hK; have hA := KC.agree hK; have h_a := h_a.mono hle_; have h_b := h_b.mono hle_; exact sameR_c a (u := b) hA h_a h_b)) <| .cons rfl (ob_beql rfl rfl Tryz.underlying4) <| .cons rfl (ob_and rfl rfl rfl) <| .cons rfl (ob_move rfl) <| .cons rfl (ob_move rfl) <| .cons rfl (ob_eql rfl rfl) <| .cons rfl (ob_and rfl rfl rfl) <| .cons rfl (ob_move rfl) <| .cons rfl (ob_move rfl) <| .cons rfl (ob_eql rfl rfl) <| .cons rfl (ob_and rfl rfl rfl) <| .cons rfl (ob_move rfl) <| .cons rfl (ob_move rfl) <| .cons rfl (ob_eql rfl rfl) <| .cons rfl (ob_and rfl rfl rfl) <| .cons rfl (ob_move rfl) <| .cons rfl (ob_move rfl) <| .cons rfl (ob_eql rfl rfl) <| .cons rfl (ob_and rfl rfl rfl) <| .cons rfl (ob_move rfl) <| .cons rfl (ob_move rfl) <| .cons rfl (ob_eql rfl rfl) <| .cons rfl (ob_and rfl rfl rfl) <| .cons rfl (ob_move rfl) <| .cons rfl (ob_loadLA (j := 0) rfl rfl Tryz.isAgg29 Tryz.sizeOf29 rfl) <| .cons rfl (ob_call (φ := MP.ty (varT 1)) rfl (.cons rfl <| .nil) Tryz.call18 (fun w m hK => by have hle_ := KC.le hK; have hA := KC.agree hK; exact FnG.mono (tvar_c (n := 1) hA ⟨by omega, by omega⟩) fun _ _ _ _ h => h)) <| .cons rfl (ob_imgE 100 rfl rfl rfl fun y100 => ob_call (φ := MP.ty (varT 1)) rfl (.cons rfl <| .cons rfl <| .nil) Tryz.call17 (fun w m hK => by have hle_ := KC.le hK; have hA := KC.agree hK; have hr0_ := hK.2; have hS1 := hS1.mono hle_; exact FnG.mono ((by have h9 := applyU_c (varT 1) hA hS1 hr0_ w0 (wv 1); rw [show applyT noneS (varT 1) = varT 1 from by rw [applyT_var rfl]; rfl] at h9; exact h9)) fun _ _ _ _ h => h)) <| .cons rfl (ob_call (φ := MP.ty (varT 1)) rfl (.cons rfl <| .nil) Tryz.call18 (fun w m hK => by have hle_ := KC.le hK; have hA := KC.agree hK; exact FnG.mono (tvar_c (n := 1) hA ⟨by omega, by omega⟩) fun _ _ _ _ h => h)) <| .cons rfl (ob_imgE 101 rfl rfl rfl fun y101 => ob_imgE 102 rfl rfl rfl fun y102 => ob_callE rfl (.cons rfl <| .cons rfl <| .nil) Tryz.call16 (fun w m hK => by have hle_ := KC.le hK; have hA := KC.agree hK; have hr0_ := hK.2; have hr1_ := hK.1.2; exact sameR_c (varT 1) (u := varT 1) hA hr1_ hr0_)) <| .cons rfl (ob_and rfl rfl rfl) <| .cons rfl (ob_move rfl) <| .cons rfl (ob_loadLA (j := 1) rfl rfl Tryz.isAgg29 Tryz.sizeOf29 rfl) <| .cons rfl (ob_call (φ := MP.ty (varT 1)) rfl (.cons rfl <| .nil) Tryz.call18 (fun w m hK => by have hle_ := KC.le hK; have hA := KC.agree hK; exact FnG.mono (tvar_c (n := 1) hA ⟨by omega, by omega⟩) fun _ _ _ _ h => h)) <| .cons rfl (ob_imgE 107 rfl rfl rfl fun y107 => ob_call (φ := MP.ty a) rfl (.cons rfl <| .cons rfl <| .nil) Tryz.call17 (fun w m hK => by have hle_ := KC.le hK; have hA := KC.agree hK; have hr0_ := hK.2; have hS2 := hS2.mono hle_; exact FnG.mono ((by have h9 := applyU_c (varT 1) hA hS2 hr0_ w1 (wv 1); rw [oneT_self] at h9; exact h9)) fun _ _ _ _ h => h)) <| .cons rfl (ob_loadS' rfl hc2 Tryz.isAgg45 Tryz.sizeOf45 rfl rfl) <| .cons rfl (ob_imgE 108 rfl rfl rfl fun y108 => ob_callE rfl (.cons rfl <| .cons rfl <| .nil) Tryz.call16 (fun w m hK => by have hle_ := KC.le hK; have hA := KC.agree hK; have hr0_ := hK.2; have h_a := h_a.mono hle_; exact sameR_c a (u := a) hA hr0_ h_a)) <| .cons rfl (ob_and rfl rfl rfl) <| .cons rfl (ob_move rfl) <| .cons rfl (ob_loadLA (j := 2) rfl rfl Tryz.isAgg29 Tryz.sizeOf29 rfl) <| .cons rfl (ob_call (φ := MP.ty (varT 2)) rfl (.cons rfl <| .nil) Tryz.call18 (fun w m hK => by have hle_ := KC.le hK; have hA := KC.agree hK; exact FnG.mono (tvar_c (n := 2) hA ⟨by omega, by omega⟩) fun _ _ _ _ h => h)) <| .cons rfl (ob_imgE 114 rfl rfl rfl fun y114 => ob_call (φ := MP.ty b) rfl (.cons rfl <| .cons rfl <| .nil) Tryz.call17 (fun w m hK => by have hle_ := KC.le hK; have hA := KC.agree hK; have hr0_ := hK.2; have hS3 := hS3.mono hle_; exact FnG.mono ((by have h9 := applyU_c (varT 2) hA hS3 hr0_ w2 (wv 2); rw [oneT_self] at h9; exact h9)) fun _ _ _ _ h => h)) <| .cons rfl (ob_loadS' rfl hc3 Tryz.isAgg45 Tryz.sizeOf45 rfl rfl) <| .cons rfl (ob_imgE 115 rfl rfl rfl fun y115 => ob_callE rfl (.cons rfl <| .cons rfl <| .nil) Tryz.call16 (fun w m hK => by have hle_ := KC.le hK; have hA := KC.agree hK; have hr0_ := hK.2; have h_b := h_b.mono hle_; exact sameR_c b (u := b) hA hr0_ h_b)) <| .cons rfl (ob_and rfl rfl rfl) <| .cons rfl (ob_assign rfl) <| .nil) ?_
    intro a7 w7 m7 hst7 hle7 hk7
    have hfr7 := hk7.fr (T' := [(4, _)]) (.new rfl <| .nil)
    clear hst6 hfr6 hk7
    refine hK18 _ _ ?_; clear hK18
    refine wp_ret ?_
    repeat (with_reducible first | refine then_ret ?_ | refine block_ret ?_)
    exact fn_ret hst7 hfr7 rfl (.tmp rfl <| .nil) (by refine congrArg Value.bool ?_; rw [show decide (R1.1 = 0) = sameT a b from by rw [Bool.eq_iff_iff, decide_eq_true_iff, sameT_iff]; exact hn1]; simp [sameT_refl])

end Go.Proofs.YtlidonjpgigocaaGreat
