/-
  'brocadelaw05': the walk of the law. Conditions: those of each theorem.
-/
import Derived.Test.YtfphefkfbhjfdaaGood5
namespace Go.Proofs.Ytfphefkfbhjfdaa
set_option linter.all false
set_option maxRecDepth 4000
open Go.RowKit
set_option maxHeartbeats 3200000 in
theorem substNone_c {w : World} {m : Mem} {o_l : Option Addr} {c_l : Nat} {l : List Say} {t : Ty} {vs_t : List Value} (hA : Agree w m) (h_l : Says m o_l l.length c_l l) (h_t : TyR m t vs_t) (hw : ∀ x ∈ l, wdT x.ty ≤ 17592186044000 ∧ x.row.labels.length ≤ 8796093022208) (hwt : wdT t ≤ 17592186044000) : FnV Try.prog 5 #[.slice o_l l.length c_l, .agg vs_t.toArray] w m (fun _ _ v => v = .bool true) := by
  have hb_l := h_l.big; have hc_l := h_l.cap
  obtain ⟨o_t, c_t, oL_t, cL_t, rfl, hk_t, hs_t, hi_t, hj_t, hr_t⟩ := h_t.open_
  have hbg_t := hk_t.big; have hcp_t := hk_t.cap; have hbs_t := hs_t.big; have hcs_t := hs_t.cap
  have hrw_t : RwR _ ⟨t.labels, t.rv⟩ _ := ⟨_, _, rfl, hs_t, hr_t⟩
  refine fn_enter (vs := [_, _]) Try.func5 rfl rfl rfl fun a0 hfr0 => ?_
  have hst0 := st_enter hA (loc_nil [] _ w m)
  have hM : MLe m m := MLe.refl m
  have hw3 := saidS_w (B := 17592186044000) (R := 20) (l := l) (by omega) (fun x hx => by have := hw x hx; omega)
  have hw4 := saidS_w (B := 17592186044416) (R := 40) (l := l) (by omega) (fun x hx => by have := hw x hx; omega)
  refine seq_any fun _ hK1 => ?_
  refine rp0 hst0 hfr0 (.cons rfl (ob_box rfl rfl) <| .cons rfl (ob_assign rfl) <| .nil) ?_
  intro a1 w1 m1 hst1 hle1 hk1
  have hfr1 := hk1.fr (T' := [(0, _)]) (.old rfl rfl <| .nil)
  obtain ⟨g2, e2, hc3⟩ := hk1.ex 3 rfl
  replace hfr1 := hfr1.cons e2
  replace h_l := h_l.mono hle1
  replace h_t := h_t.mono hle1
  clear hst0 hfr0 hk1
  refine hK1 _ _ ?_; clear hK1
  refine seq_any fun _ hK3 => ?_
  refine rp0 hst1 hfr1 (.cons rfl (ob_callE rfl (.nil) Try.call7 (fun w m hK => by have hle_ := KC.le hK; have hA := KC.agree hK; exact shown_c hA)) <| .cons rfl (ob_assign rfl) <| .nil) ?_
  intro a2 w2 m2 hst2 hle2 hk2
  have hfr2 := hk2.fr (T' := [(0, _), (3, _), (5, _)]) (.old rfl rfl <| .old rfl rfl <| .new rfl <| .nil)
  replace h_l := h_l.mono hle2
  replace h_t := h_t.mono hle2
  replace hc3 := hc3.mono hle2
  clear hst1 hfr1 hk2
  refine hK3 _ _ ?_; clear hK3
  refine seq_any fun _ hK4 => ?_
  refine seq_any fun _ hK5 => ?_
  refine rp0 hst2 hfr2 (.cons rfl (ob_loadS' rfl hc3 Try.isAgg28 Try.sizeOf28 rfl rfl) <| .cons rfl (ob_callE rfl (.cons rfl <| .nil) Try.call8 (fun w m hK => by have hle_ := KC.le hK; have hA := KC.agree hK; have h_t := h_t.mono hle_; exact count_c t hA h_t)) <| .cons rfl (ob_gtr rfl rfl) <| .cons rfl (ob_move rfl) <| .cons rfl (ob_loadS' rfl hc3 Try.isAgg28 Try.sizeOf28 rfl rfl) <| .cons rfl (ob_callE rfl (.cons rfl <| .nil) Try.call16 (fun w m hK => by have hle_ := KC.le hK; have hA := KC.agree hK; have h_t := h_t.mono hle_; exact right0R_c (t := t) hA h_t)) <| .cons rfl (ob_not rfl) <| .cons rfl (ob_or rfl rfl rfl) <| .cons rfl (ob_move rfl) <| .cons rfl (ob_move rfl) <| .cons rfl (ob_callE rfl (.cons rfl <| .nil) Try.call19 (fun w m hK => by have hle_ := KC.le hK; have hA := KC.agree hK; have h_l := h_l.mono hle_; exact good_c hA h_l)) <| .cons rfl (ob_not rfl) <| .cons rfl (ob_or rfl rfl rfl) <| .nil) ?_
  intro a3 w3 m3 hst3 hle3 hk3
  have hfr3 := hk3.fr (T' := [(0, _), (3, _), (5, _), (22, _)]) (.old rfl rfl <| .old rfl rfl <| .old rfl rfl <| .new rfl <| .nil)
  replace h_l := h_l.mono hle3
  replace h_t := h_t.mono hle3
  replace hc3 := hc3.mono hle3
  clear hst2 hfr2 hk3
  refine hK5 _ _ ?_; clear hK5
  refine cond_any hfr3 rfl rfl (fun hb22 => ?_) (fun hb22 => ?_)
  · try simp only [nq1, nq2, nq3, nq4, nq5, nq6, nq7, nq8, nq9, u8_eq] at hb22
    refine seq_any fun _ hK6 => ?_
    refine rp0 hst3 hfr3 (.cons rfl (ob_move rfl) <| .cons rfl (ob_assign rfl) <| .nil) ?_
    intro a4 w4 m4 hst4 hle4 hk4
    have hfr4 := hk4.fr (T' := [(4, _)]) (.new rfl <| .nil)
    clear hst3 hfr3 hk4
    refine hK6 _ _ ?_; clear hK6
    refine wp_ret ?_
    repeat (with_reducible first | refine then_ret ?_ | refine block_ret ?_)
    exact fn_ret hst4 hfr4 rfl (.tmp rfl <| .nil) (rfl)
  · try simp only [nq1, nq2, nq3, nq4, nq5, nq6, nq7, nq8, nq9, u8_eq] at hb22
    have hrr : rightT t = true := by simp_all
    have hgd : goodS l = true := by simp_all
    obtain ⟨hok, hap⟩ := saidS_ok hgd
    refine wp_skip ?_
    refine hK4 _ _ ?_; clear hK4
    refine seq_any fun _ hK8 => ?_
    replace hst3 := hst3.more (r := .free) trivial List.nodup_nil (by simp [Res.blocks])
    replace hst3 := hst3.more (r := .free) trivial List.nodup_nil (by simp [Res.blocks])
    refine ra0 (tch := [(5, 0, (fun v => .blk v _)), (6, 1, (fun v => .blk v _)), (7, 0, (fun v => .blkx v _ _)), (8, 1, (fun v => .blkx v _ _))]) hst3 hfr3 (.cons rfl (ob_move rfl) <| .cons rfl (ob_call (φ := MP.said (saidS l) (saidR l)) rfl (.cons rfl <| .nil) Try.call9 (fun w m hK => by have hle_ := KC.le hK; have hA := KC.agree hK; have h_l := h_l.mono hle_; exact FnG.mono (said_c hA h_l hw) fun _ _ _ _ h => h)) <| .cons rfl (ob_imgV 26 rfl rfl rfl fun y26 => ob_move rfl) <| .cons rfl (ob_imgV 24 rfl rfl rfl fun y24 => ob_extract rfl rfl) <| .cons rfl (ob_imgV 24 rfl rfl rfl fun y24 => ob_extract rfl rfl) <| .consT rfl rfl (fun _ => rfl) rfl (ob_allocL Try.zeroValue36 rfl) <| .consT rfl rfl (fun _ => rfl) rfl (ob_allocL Try.zeroValue40 rfl) <| .consT rfl rfl (fun _ => rfl) rfl (ob_imgT 6 rfl rfl rfl fun y6 => ob_imgTX 27 rfl rfl rfl fun y27 => ob_storeF rfl rfl rfl rfl rfl Try.sizeOf36 rfl rfl rfl) <| .consT rfl rfl (fun _ => rfl) rfl (ob_imgT 7 rfl rfl rfl fun y7 => ob_imgTX 28 rfl rfl rfl fun y28 => ob_storeF rfl rfl rfl rfl rfl Try.sizeOf40 rfl rfl rfl) <| .nil) ?_
    intro a4 w4 m4 hst4 hle4 hk4
    have hfr4 := hk4.fr (T' := [(3, _), (5, _)]) (.old rfl rfl <| .old rfl rfl <| .nil)
    obtain ⟨g9, e9, _⟩ := hk4.ex 6 rfl
    replace hfr4 := hfr4.cons e9
    obtain ⟨g10, e10, _⟩ := hk4.ex 7 rfl
    replace hst4 := hst4.fin (L' := [_, _]) (.cons e9 <| .cons e10 <| .cons e9 <| .cons e10 <| .nil)
    try simp only [List.take_succ_cons, List.take_zero, List.drop_succ_cons, List.drop_zero, List.cons_append, List.nil_append, List.append_nil, List.length_cons, List.length_nil, Nat.zero_add, Nat.reduceAdd] at hst4
    obtain ⟨⟨⟨q1, q2⟩, z9⟩, ⟨hS, _⟩, hst4⟩ := hst4.unx (k := 0) rfl (fun _ => rfl)
    obtain ⟨⟨q9, z1⟩, ⟨_, hR⟩, hst4⟩ := hst4.unx (k := 1) rfl (fun _ => rfl)
    replace h_t := h_t.mono hle4
    replace hc3 := hc3.mono hle4
    clear hst3 hfr3 hk4
    refine hK8 _ _ ?_; clear hK8
    refine seq_any fun _ hK13 => ?_
    replace hst4 := hst4.more (r := .free) trivial List.nodup_nil (by simp [Res.blocks])
    refine ra0 (tch := [(1, 2, (fun v => .blk v _)), (2, 2, (fun v => .blkx v _ _))]) hst4 hfr4 (.cons rfl (ob_call (φ := MP.sub noneS) rfl (.nil) Try.call20 (fun w m hK => by have hle_ := KC.le hK; have hA := KC.agree hK; exact FnG.mono (none_c hA) fun _ _ _ _ h => h)) <| .consT rfl rfl (fun _ => rfl) rfl (ob_allocL Try.zeroValue36 rfl) <| .consT rfl rfl (fun _ => rfl) rfl (ob_imgT 8 rfl rfl rfl fun y8 => ob_imgTX 29 rfl rfl rfl fun y29 => ob_storeF rfl rfl rfl rfl rfl Try.sizeOf36 rfl rfl rfl) <| .nil) ?_
    intro a5 w5 m5 hst5 hle5 hk5
    have hfr5 := hk5.fr (T' := [(3, _), (5, _), (6, _)]) (.old rfl rfl <| .old rfl rfl <| .old rfl rfl <| .nil)
    obtain ⟨g14, e14, _⟩ := hk5.ex 8 rfl
    replace hfr5 := hfr5.cons e14
    replace hst5 := hst5.fin (L' := [_, _, _]) (.cons e14 <| .cons e14 <| .nil)
    try simp only [List.take_succ_cons, List.take_zero, List.drop_succ_cons, List.drop_zero, List.cons_append, List.nil_append, List.append_nil, List.length_cons, List.length_nil, Nat.zero_add, Nat.reduceAdd] at hst5
    obtain ⟨⟨q3, q4⟩, hN, hst5⟩ := hst5.unx (k := 2) rfl (fun _ => rfl)
    replace h_t := h_t.mono hle5
    replace hc3 := hc3.mono hle5
    replace hS := hS.mono hle5
    clear hst4 hfr4 hk5
    refine hK13 _ _ ?_; clear hK13
    refine seq_any fun _ hK16 => ?_
    refine region_plain (fun _ => mixed) hst5 hfr5 (by kernel_rfl) (by kernel_rfl) (.cons rfl (ob_move rfl) <| .cons rfl (ob_move rfl) <| .cons rfl (ob_loadLA (j := 2) rfl rfl Try.isAgg36 Try.sizeOf36 rfl) <| .cons rfl (ob_loadS' rfl hc3 Try.isAgg28 Try.sizeOf28 rfl rfl) <| .cons rfl (ob_call (φ := MP.ty t) rfl (.cons rfl <| .cons rfl <| .nil) Try.call18 (fun w m hK => by have hle_ := KC.le hK; have hA := KC.agree hK; have h_t := h_t.mono hle_; have hN := hN.mono hle_; exact FnG.mono ((by have h := apply_c t hA hN h_t noneS_w (by omega); rw [apply_none hrr] at h; exact h)) fun _ _ _ _ h => h)) <| .cons rfl (ob_loadS' rfl hc3 Try.isAgg28 Try.sizeOf28 rfl rfl) <| .cons rfl (ob_imgE 34 rfl rfl rfl fun y34 => ob_callE rfl (.cons rfl <| .cons rfl <| .nil) Try.call14 (fun w m hK => by have hle_ := KC.le hK; have hA := KC.agree hK; have hr0_ := hK.2; have h_t := h_t.mono hle_; exact sameR_c t (u := t) hA hr0_ h_t)) <| .cons rfl (ob_and rfl rfl rfl) <| .cons rfl (ob_move rfl) <| .cons rfl (ob_loadLA (j := 2) rfl rfl Try.isAgg36 Try.sizeOf36 rfl) <| .cons rfl (ob_loadLA (j := 0) rfl rfl Try.isAgg36 Try.sizeOf36 rfl) <| .cons rfl (ob_call (φ := MP.sameS (saidS l)) rfl (.cons rfl <| .cons rfl <| .nil) Try.call21 (fun w m hK => by have hle_ := KC.le hK; have hA := KC.agree hK; have hS := hS.mono hle_; have hN := hN.mono hle_; exact FnG.mono (then_none1 hA hN hS hw3) fun _ _ _ _ h => h)) <| .cons rfl (ob_loadS' rfl hc3 Try.isAgg28 Try.sizeOf28 rfl rfl) <| .cons rfl (ob_imgE 41 rfl rfl rfl fun y41 => ob_call (φ := MP.ty (applyT (saidS l) t)) rfl (.cons rfl <| .cons rfl <| .nil) Try.call18 (fun w m hK => by have hle_ := KC.le hK; have hA := KC.agree hK; have hr0_ := hK.2; have h_t := h_t.mono hle_; exact FnG.mono (apply_same hA hr0_.1 hr0_.2 h_t hw4 (by omega)) fun _ _ _ _ h => h)) <| .cons rfl (ob_loadLA (j := 0) rfl rfl Try.isAgg36 Try.sizeOf36 rfl) <| .cons rfl (ob_loadS' rfl hc3 Try.isAgg28 Try.sizeOf28 rfl rfl) <| .cons rfl (ob_call (φ := MP.ty (applyT (saidS l) t)) rfl (.cons rfl <| .cons rfl <| .nil) Try.call18 (fun w m hK => by have hle_ := KC.le hK; have hA := KC.agree hK; have h_t := h_t.mono hle_; have hS := hS.mono hle_; exact FnG.mono (apply_c t hA hS h_t hw4 (by omega)) fun _ _ _ _ h => h)) <| .cons rfl (ob_imgE 43 rfl rfl rfl fun y43 => ob_imgE 46 rfl rfl rfl fun y46 => ob_callE rfl (.cons rfl <| .cons rfl <| .nil) Try.call14 (fun w m hK => by have hle_ := KC.le hK; have hA := KC.agree hK; have hr0_ := hK.2; have hr1_ := hK.1.2; exact sameR_c (applyT (saidS l) t) (u := applyT (saidS l) t) hA hr1_ hr0_)) <| .cons rfl (ob_and rfl rfl rfl) <| .cons rfl (ob_move rfl) <| .cons rfl (ob_loadLA (j := 0) rfl rfl Try.isAgg36 Try.sizeOf36 rfl) <| .cons rfl (ob_loadLA (j := 2) rfl rfl Try.isAgg36 Try.sizeOf36 rfl) <| .cons rfl (ob_call (φ := MP.sameS (saidS l)) rfl (.cons rfl <| .cons rfl <| .nil) Try.call21 (fun w m hK => by have hle_ := KC.le hK; have hA := KC.agree hK; have hS := hS.mono hle_; have hN := hN.mono hle_; exact FnG.mono (then_none2 hA hN hS hw3 hap hok) fun _ _ _ _ h => h)) <| .cons rfl (ob_loadS' rfl hc3 Try.isAgg28 Try.sizeOf28 rfl rfl) <| .cons rfl (ob_imgE 52 rfl rfl rfl fun y52 => ob_call (φ := MP.ty (applyT (saidS l) t)) rfl (.cons rfl <| .cons rfl <| .nil) Try.call18 (fun w m hK => by have hle_ := KC.le hK; have hA := KC.agree hK; have hr0_ := hK.2; have h_t := h_t.mono hle_; exact FnG.mono (apply_same hA hr0_.1 hr0_.2 h_t hw4 (by omega)) fun _ _ _ _ h => h)) <| .cons rfl (ob_loadLA (j := 0) rfl rfl Try.isAgg36 Try.sizeOf36 rfl) <| .cons rfl (ob_loadS' rfl hc3 Try.isAgg28 Try.sizeOf28 rfl rfl) <| .cons rfl (ob_call (φ := MP.ty (applyT (saidS l) t)) rfl (.cons rfl <| .cons rfl <| .nil) Try.call18 (fun w m hK => by have hle_ := KC.le hK; have hA := KC.agree hK; have h_t := h_t.mono hle_; have hS := hS.mono hle_; exact FnG.mono (apply_c t hA hS h_t hw4 (by omega)) fun _ _ _ _ h => h)) <| .cons rfl (ob_imgE 54 rfl rfl rfl fun y54 => ob_imgE 57 rfl rfl rfl fun y57 => ob_callE rfl (.cons rfl <| .cons rfl <| .nil) Try.call14 (fun w m hK => by have hle_ := KC.le hK; have hA := KC.agree hK; have hr0_ := hK.2; have hr1_ := hK.1.2; exact sameR_c (applyT (saidS l) t) (u := applyT (saidS l) t) hA hr1_ hr0_)) <| .cons rfl (ob_and rfl rfl rfl) <| .cons rfl (ob_assign rfl) <| .nil) ?_
    intro a6 w6 m6 hst6 hle6 hk6
    have hfr6 := hk6.fr (T' := [(4, _)]) (.new rfl <| .nil)
    clear hst5 hfr5 hk6
    refine hK16 _ _ ?_; clear hK16
    refine wp_ret ?_
    repeat (with_reducible first | refine then_ret ?_ | refine block_ret ?_)
    exact fn_ret hst6 hfr6 rfl (.tmp rfl <| .nil) (by refine congrArg Value.bool ?_; simp [sameT_refl])

end Go.Proofs.Ytfphefkfbhjfdaa
