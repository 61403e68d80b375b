/-
  'brocadelaw05': the walk of the law. Conditions: those of each theorem.
-/
import Derived.Test.YtfphefkfbhjfdaaPlain5
namespace Go.Proofs.Ytfphefkfbhjfdaa
set_option linter.all false
set_option maxRecDepth 4000
open Go.RowKit
set_option maxHeartbeats 3200000 in
theorem substLast_c {w : World} {m : Mem} {o_l : Option Addr} {c_l : Nat} {l : List Say} {n : Int} {k : Int} {t : Ty} {vs_t : List Value} {r : Rw} {vs_r : List Value} (hA : Agree w m) (h_l : Says m o_l l.length c_l l) (h_t : TyR m t vs_t) (h_r : RwR m r vs_r) (hw : ∀ x ∈ l, wdT x.ty ≤ 17592186044000 ∧ x.row.labels.length ≤ 8796093022208) (hwt : wdT t ≤ 17592186044000) : FnV Try.prog 3 #[.slice o_l l.length c_l, .int .i64 n, .int .i64 k, .agg vs_t.toArray, .agg vs_r.toArray] w m (fun _ _ v => v = .bool true) := by
  have hb_l := h_l.big; have hc_l := h_l.cap
  obtain ⟨o_t, c_t, oL_t, cL_t, rfl, hk_t, hs_t, hi_t, hj_t, hr_t⟩ := h_t.open_
  have hbg_t := hk_t.big; have hcp_t := hk_t.cap; have hbs_t := hs_t.big; have hcs_t := hs_t.cap
  have hrw_t : RwR _ ⟨t.labels, t.rv⟩ _ := ⟨_, _, rfl, hs_t, hr_t⟩
  obtain ⟨o_r, c_r, rfl, hs_r, hr_r⟩ := h_r.open_
  have hbs_r := hs_r.big; have hcs_r := hs_r.cap
  refine fn_enter (vs := [_, _, _, _, _]) Try.func3 rfl rfl rfl fun a0 hfr0 => ?_
  have hst0 := st_enter hA (loc_nil [] _ w m)
  have hM : MLe m m := MLe.refl m
  have hbn := band7 n
  have hbk := band7 k
  have hwS := saidS_w (B := 17592186044416) (R := 8796093022208) (l := l) (by omega) (fun x hx => by have := hw x hx; omega)
  have hwA := hwS.setT (keyS n) (t := t) (by omega)
  have hwB := hwS.setR (keyS n) (r := cutS r 10) (by have := cutS_len r 10; omega)
  obtain ⟨xv, hxv⟩ : ∃ x, x = (alook (keyS k) (saidS l).ts).getD zeroTy := ⟨_, rfl⟩
  obtain ⟨bv, hbv⟩ : ∃ x, x = (alook (keyS k) (saidS l).ts).isSome := ⟨_, rfl⟩
  obtain ⟨yv, hyv⟩ : ∃ x, x = (alook (keyS k) (saidS l).rs).getD zeroRw := ⟨_, rfl⟩
  obtain ⟨cv, hcv⟩ : ∃ x, x = (alook (keyS k) (saidS l).rs).isSome := ⟨_, rfl⟩
  obtain ⟨xn, hxn⟩ : ∃ x, x = (alook (keyS n) (saidS l).ts).getD zeroTy := ⟨_, rfl⟩
  obtain ⟨bn, hbn_⟩ : ∃ x, x = (alook (keyS n) (saidS l).ts).isSome := ⟨_, rfl⟩
  obtain ⟨xa, hxa⟩ : ∃ x, x = (alook (keyS k) (aset (keyS n) t (saidS l).ts)).getD zeroTy := ⟨_, rfl⟩
  obtain ⟨ba, hba⟩ : ∃ x, x = (alook (keyS k) (aset (keyS n) t (saidS l).ts)).isSome := ⟨_, rfl⟩
  obtain ⟨yb, hyb⟩ : ∃ x, x = (alook (keyS k) (aset (keyS n) (cutS r 10) (saidS l).rs)).getD zeroRw := ⟨_, rfl⟩
  obtain ⟨cb, hcb⟩ : ∃ x, x = (alook (keyS k) (aset (keyS n) (cutS r 10) (saidS l).rs)).isSome := ⟨_, rfl⟩
  have hne : ¬ keyS n = keyS k → xa = xv ∧ ba = bv ∧ yb = yv ∧ cb = cv := fun h => by rw [hxa, hba, hyb, hcb, alook_other _ _ h, alook_other _ _ h]; exact ⟨hxv.symm, hbv.symm, hyv.symm, hcv.symm⟩
  refine seq_any fun _ hK1 => ?_
  replace hst0 := hst0.more (r := .free) trivial List.nodup_nil (by simp [Res.blocks])
  refine ra0 (tch := [(1, 0, (fun v => .blk v _))]) hst0 hfr0 (.cons rfl (ob_box rfl rfl) <| .consT rfl rfl (fun _ => rfl) rfl (ob_boxL rfl rfl) <| .cons rfl (ob_assign rfl) <| .nil) ?_
  intro a1 w1 m1 hst1 hle1 hk1
  have hfr1 := hk1.fr (T' := [(0, _), (1, _), (2, _)]) (.old rfl rfl <| .old rfl rfl <| .old rfl rfl <| .nil)
  obtain ⟨g2, e2, hc8⟩ := hk1.ex 8 rfl
  replace hfr1 := hfr1.cons e2
  obtain ⟨g3, e3, _⟩ := hk1.ex 9 rfl
  replace hfr1 := hfr1.cons e3
  replace hst1 := hst1.fin (L' := [_]) (.cons e3 <| .nil)
  replace h_l := h_l.mono hle1
  replace h_t := h_t.mono hle1
  replace hs_r := hs_r.mono hle1
  clear hst0 hfr0 hk1
  refine hK1 _ _ ?_; clear hK1
  refine seq_any fun _ hK4 => ?_
  refine rp0 hst1 hfr1 (.cons rfl (ob_callE rfl (.nil) Try.call7 (fun w m hK => by have hle_ := KC.le hK; have hA := KC.agree hK; exact shown_c hA)) <| .cons rfl (ob_assign rfl) <| .nil) ?_
  intro a2 w2 m2 hst2 hle2 hk2
  have hfr2 := hk2.fr (T' := [(0, _), (1, _), (2, _), (8, _), (9, _), (11, _)]) (.old rfl rfl <| .old rfl rfl <| .old rfl rfl <| .old rfl rfl <| .old rfl rfl <| .new rfl <| .nil)
  replace h_l := h_l.mono hle2
  replace h_t := h_t.mono hle2
  replace hs_r := hs_r.mono hle2
  replace hc8 := hc8.mono hle2
  clear hst1 hfr1 hk2
  refine hK4 _ _ ?_; clear hK4
  refine seq_any fun _ hK5 => ?_
  refine seq_any fun _ hK6 => ?_
  refine rp0 hst2 hfr2 (.cons rfl (ob_loadS' rfl hc8 Try.isAgg28 Try.sizeOf28 rfl rfl) <| .cons rfl (ob_callE rfl (.cons rfl <| .nil) Try.call8 (fun w m hK => by have hle_ := KC.le hK; have hA := KC.agree hK; have h_t := h_t.mono hle_; exact count_c t hA h_t)) <| .cons rfl (ob_gtr rfl rfl) <| .nil) ?_
  intro a3 w3 m3 hst3 hle3 hk3
  have hfr3 := hk3.fr (T' := [(0, _), (1, _), (2, _), (8, _), (9, _), (11, _), (35, _)]) (.old rfl rfl <| .old rfl rfl <| .old rfl rfl <| .old rfl rfl <| .old rfl rfl <| .old rfl rfl <| .new rfl <| .nil)
  replace h_l := h_l.mono hle3
  replace h_t := h_t.mono hle3
  replace hs_r := hs_r.mono hle3
  replace hc8 := hc8.mono hle3
  clear hst2 hfr2 hk3
  refine hK6 _ _ ?_; clear hK6
  refine cond_any hfr3 rfl rfl (fun hb35 => ?_) (fun hb35 => ?_)
  · try simp only [nq1, nq2, nq3, nq4, nq5, nq6, nq7, nq8, nq9, u8_eq] at hb35
    refine seq_any fun _ hK7 => ?_
    refine rp0 hst3 hfr3 (.cons rfl (ob_move rfl) <| .cons rfl (ob_assign rfl) <| .nil) ?_
    intro a4 w4 m4 hst4 hle4 hk4
    have hfr4 := hk4.fr (T' := [(10, _)]) (.new rfl <| .nil)
    clear hst3 hfr3 hk4
    refine hK7 _ _ ?_; clear hK7
    refine wp_ret ?_
    repeat (with_reducible first | refine then_ret ?_ | refine block_ret ?_)
    exact fn_ret hst4 hfr4 rfl (.tmp rfl <| .nil) (rfl)
  · try simp only [nq1, nq2, nq3, nq4, nq5, nq6, nq7, nq8, nq9, u8_eq] at hb35
    refine wp_skip ?_
    refine hK5 _ _ ?_; clear hK5
    refine seq_any fun _ hK9 => ?_
    have emin : (if (10 : Int) < (r.labels.length : Int) then (10 : Int) else (r.labels.length : Int)) = ((min r.labels.length 10 : Nat) : Int) := by split <;> omega
    refine ra0 (tch := [(8, 0, (fun _ => .blk _ _))]) hst3 hfr3 (.cons rfl (ob_fieldAddrO (off := 0) rfl Try.underlying26 rfl rfl Try.sizeOf24 rfl) <| .cons rfl (ob_loadL (j := 0) rfl rfl Try.isAgg24 rfl) <| .cons rfl (ob_fieldAddrO (off := 0) rfl Try.underlying26 rfl rfl Try.sizeOf24 rfl) <| .cons rfl (ob_loadL (j := 0) rfl rfl Try.isAgg24 rfl) <| .cons rfl (ob_len rfl Try.underlying24) <| .cons rfl (ob_min2 rfl rfl) <| .cons rfl (ob_slice rfl .none (.some rfl emin) Try.underlying24 Try.sizeOf9 (by omega) (by omega)) <| .cons rfl (ob_fieldAddrO (off := 0) rfl Try.underlying26 rfl rfl Try.sizeOf24 rfl) <| .consT rfl rfl (fun _ => rfl) rfl (ob_store rfl rfl rfl Try.sizeOf24 rfl rfl rfl) <| .nil) ?_
    intro a4 w4 m4 hst4 hle4 hk4
    have hfr4 := hk4.fr (T' := [(0, _), (1, _), (2, _), (8, _), (9, _), (11, _)]) (.old rfl rfl <| .old rfl rfl <| .old rfl rfl <| .old rfl rfl <| .old rfl rfl <| .old rfl rfl <| .nil)
    replace hst4 := hst4.fin (L' := [_]) (.cons rfl <| .nil)
    try simp only [List.take_succ_cons, List.take_zero, List.drop_succ_cons, List.drop_zero, List.cons_append, List.nil_append, List.append_nil, List.length_cons, List.length_nil, Nat.zero_add, Nat.reduceAdd] at hst4
    replace h_l := h_l.mono hle4
    replace h_t := h_t.mono hle4
    replace hs_r := hs_r.mono hle4
    replace hc8 := hc8.mono hle4
    clear hst3 hfr3 hk4
    have hcut : Strs _ _ _ _ _ := hs_r.cut (l := 0) (k := min r.labels.length 10) (Nat.zero_le _) (Nat.min_le_left _ _)
    have hlk : min r.labels.length 10 - 0 = ((r.labels.take (min r.labels.length 10)).drop 0).length := by simp
    rw [hlk] at hcut hst4
    refine hK9 _ _ ?_; clear hK9
    refine seq_any fun _ hK10 => ?_
    replace hst4 := hst4.more (r := .free) trivial List.nodup_nil (by simp [Res.blocks])
    replace hst4 := hst4.more (r := .free) trivial List.nodup_nil (by simp [Res.blocks])
    refine ra0 (tch := [(5, 1, (fun v => .blk v _)), (6, 2, (fun v => .blk v _)), (7, 1, (fun v => .blkx v _ _)), (8, 2, (fun v => .blkx v _ _))]) hst4 hfr4 (.cons rfl (ob_move rfl) <| .cons rfl (ob_call (φ := MP.said (saidS l) (saidR l)) rfl (.cons rfl <| .nil) Try.call9 (fun w m hK => by have hle_ := KC.le hK; have hA := KC.agree hK; have h_l := h_l.mono hle_; exact FnG.mono (said_c hA h_l hw) fun _ _ _ _ h => h)) <| .cons rfl (ob_imgV 47 rfl rfl rfl fun y47 => ob_move rfl) <| .cons rfl (ob_imgV 45 rfl rfl rfl fun y45 => ob_extract rfl rfl) <| .cons rfl (ob_imgV 45 rfl rfl rfl fun y45 => ob_extract rfl rfl) <| .consT rfl rfl (fun _ => rfl) rfl (ob_allocL Try.zeroValue36 rfl) <| .consT rfl rfl (fun _ => rfl) rfl (ob_allocL Try.zeroValue40 rfl) <| .consT rfl rfl (fun _ => rfl) rfl (ob_imgT 12 rfl rfl rfl fun y12 => ob_imgTX 48 rfl rfl rfl fun y48 => ob_storeF rfl rfl rfl rfl rfl Try.sizeOf36 rfl rfl rfl) <| .consT rfl rfl (fun _ => rfl) rfl (ob_imgT 13 rfl rfl rfl fun y13 => ob_imgTX 49 rfl rfl rfl fun y49 => ob_storeF rfl rfl rfl rfl rfl Try.sizeOf40 rfl rfl rfl) <| .nil) ?_
    intro a5 w5 m5 hst5 hle5 hk5
    have hfr5 := hk5.fr (T' := [(1, _), (2, _), (8, _), (9, _), (11, _)]) (.old rfl rfl <| .old rfl rfl <| .old rfl rfl <| .old rfl rfl <| .old rfl rfl <| .nil)
    obtain ⟨g11, e11, _⟩ := hk5.ex 12 rfl
    replace hfr5 := hfr5.cons e11
    obtain ⟨g12, e12, _⟩ := hk5.ex 13 rfl
    replace hst5 := hst5.fin (L' := [_, _, _]) (.cons e11 <| .cons e12 <| .cons e11 <| .cons e12 <| .nil)
    try simp only [List.take_succ_cons, List.take_zero, List.drop_succ_cons, List.drop_zero, List.cons_append, List.nil_append, List.append_nil, List.length_cons, List.length_nil, Nat.zero_add, Nat.reduceAdd] at hst5
    obtain ⟨⟨⟨q1, q2⟩, z9⟩, ⟨hS, _⟩, hst5⟩ := hst5.unx (k := 1) rfl (fun _ => rfl)
    obtain ⟨⟨q9, z1⟩, ⟨_, hR⟩, hst5⟩ := hst5.unx (k := 2) rfl (fun _ => rfl)
    replace h_t := h_t.mono hle5
    replace hc8 := hc8.mono hle5
    replace hcut := hcut.mono hle5
    clear hst4 hfr4 hk5
    refine hK10 _ _ ?_; clear hK10
    refine seq_any fun _ hK15 => ?_
    refine rp0 hst5 hfr5 (.cons rfl (ob_move rfl) <| .cons rfl (ob_band rfl rfl) <| .cons rfl (ob_add rfl rfl ⟨by omega, by omega⟩) <| .cons rfl (ob_assign rfl) <| .nil) ?_
    intro a6 w6 m6 hst6 hle6 hk6
    have hfr6 := hk6.fr (T' := [(2, _), (8, _), (9, _), (11, _), (12, _), (1, _)]) (.old rfl rfl <| .old rfl rfl <| .old rfl rfl <| .old rfl rfl <| .old rfl rfl <| .new rfl <| .nil)
    replace h_t := h_t.mono hle6
    replace hc8 := hc8.mono hle6
    replace hcut := hcut.mono hle6
    replace hS := hS.mono hle6
    clear hst5 hfr5 hk6
    refine hK15 _ _ ?_; clear hK15
    refine seq_any fun _ hK16 => ?_
    refine rp0 hst6 hfr6 (.cons rfl (ob_move rfl) <| .cons rfl (ob_band rfl rfl) <| .cons rfl (ob_add rfl rfl ⟨by omega, by omega⟩) <| .cons rfl (ob_assign rfl) <| .nil) ?_
    intro a7 w7 m7 hst7 hle7 hk7
    have hfr7 := hk7.fr (T' := [(8, _), (9, _), (11, _), (12, _), (1, _), (2, _)]) (.old rfl rfl <| .old rfl rfl <| .old rfl rfl <| .old rfl rfl <| .old rfl rfl <| .new rfl <| .nil)
    replace h_t := h_t.mono hle7
    replace hc8 := hc8.mono hle7
    replace hcut := hcut.mono hle7
    replace hS := hS.mono hle7
    clear hst6 hfr6 hk7
    refine hK16 _ _ ?_; clear hK16
    refine seq_any fun _ hK17 => ?_
    replace hst7 := hst7.more (r := .free) trivial List.nodup_nil (by simp [Res.blocks])
    refine ra0 (tch := [(4, 3, (fun v => .blk v _)), (5, 3, (fun v => .blkx v _ _))]) hst7 hfr7 (.cons rfl (ob_loadLA (j := 1) rfl rfl Try.isAgg36 Try.sizeOf36 rfl) <| .cons rfl (ob_move rfl) <| .cons rfl (ob_loadS' rfl hc8 Try.isAgg28 Try.sizeOf28 rfl rfl) <| .cons rfl (ob_call (φ := MP.sub ⟨aset (keyS n) t (saidS l).ts, (saidS l).rs⟩) rfl (.cons rfl <| .cons rfl <| .cons rfl <| .nil) Try.call10 (fun w m hK => by have hle_ := KC.le hK; have hA := KC.agree hK; have h_t := h_t.mono hle_; have hS := hS.mono hle_; exact FnG.mono (setType_c (n := keyS n) (t := t) hA hS h_t (by omega)) fun _ _ _ _ h => h)) <| .consT rfl rfl (fun _ => rfl) rfl (ob_allocL Try.zeroValue36 rfl) <| .consT rfl rfl (fun _ => rfl) rfl (ob_imgT 14 rfl rfl rfl fun y14 => ob_imgTX 59 rfl rfl rfl fun y59 => ob_storeF rfl rfl rfl rfl rfl Try.sizeOf36 rfl rfl rfl) <| .nil) ?_
    intro a8 w8 m8 hst8 hle8 hk8
    have hfr8 := hk8.fr (T' := [(8, _), (9, _), (11, _), (12, _), (1, _), (2, _)]) (.old rfl rfl <| .old rfl rfl <| .old rfl rfl <| .old rfl rfl <| .old rfl rfl <| .old rfl rfl <| .nil)
    obtain ⟨g18, e18, _⟩ := hk8.ex 14 rfl
    replace hfr8 := hfr8.cons e18
    replace hst8 := hst8.fin (L' := [_, _, _, _]) (.cons e18 <| .cons e18 <| .nil)
    try simp only [List.take_succ_cons, List.take_zero, List.drop_succ_cons, List.drop_zero, List.cons_append, List.nil_append, List.append_nil, List.length_cons, List.length_nil, Nat.zero_add, Nat.reduceAdd] at hst8
    obtain ⟨⟨q3, q4⟩, hA1, hst8⟩ := hst8.unx (k := 3) rfl (fun _ => rfl)
    replace h_t := h_t.mono hle8
    replace hc8 := hc8.mono hle8
    replace hcut := hcut.mono hle8
    replace hS := hS.mono hle8
    clear hst7 hfr7 hk8
    refine hK17 _ _ ?_; clear hK17
    refine seq_any fun _ hK20 => ?_
    replace hst8 := hst8.more (r := .free) trivial List.nodup_nil (by simp [Res.blocks])
    refine ra0 (tch := [(4, 4, (fun v => .blk v _)), (5, 4, (fun v => .blkx v _ _))]) hst8 hfr8 (.cons rfl (ob_loadLA (j := 1) rfl rfl Try.isAgg36 Try.sizeOf36 rfl) <| .cons rfl (ob_move rfl) <| .cons rfl (ob_loadLA (j := 0) rfl rfl Try.isAgg26 Try.sizeOf26 rfl) <| .cons rfl (ob_call (φ := MP.sub ⟨(saidS l).ts, aset (keyS n) (cutS r 10) (saidS l).rs⟩) rfl (.cons rfl <| .cons rfl <| .cons rfl <| .nil) Try.call11 (fun w m hK => by have hle_ := KC.le hK; have hA := KC.agree hK; have hcut := hcut.mono hle_; have hS := hS.mono hle_; exact FnG.mono (setRow_c (n := keyS n) (r := cutS r 10) hA hS ⟨_, _, rfl, hcut, hr_r⟩ (by have := cutS_len r 10; omega)) fun _ _ _ _ h => h)) <| .consT rfl rfl (fun _ => rfl) rfl (ob_allocL Try.zeroValue36 rfl) <| .consT rfl rfl (fun _ => rfl) rfl (ob_imgT 15 rfl rfl rfl fun y15 => ob_imgTX 63 rfl rfl rfl fun y63 => ob_storeF rfl rfl rfl rfl rfl Try.sizeOf36 rfl rfl rfl) <| .nil) ?_
    intro a9 w9 m9 hst9 hle9 hk9
    have hfr9 := hk9.fr (T' := [(8, _), (9, _), (11, _), (12, _), (1, _), (2, _), (14, _)]) (.old rfl rfl <| .old rfl rfl <| .old rfl rfl <| .old rfl rfl <| .old rfl rfl <| .old rfl rfl <| .old rfl rfl <| .nil)
    obtain ⟨g21, e21, _⟩ := hk9.ex 15 rfl
    replace hfr9 := hfr9.cons e21
    replace hst9 := hst9.fin (L' := [_, _, _, _, _]) (.cons e21 <| .cons e21 <| .nil)
    try simp only [List.take_succ_cons, List.take_zero, List.drop_succ_cons, List.drop_zero, List.cons_append, List.nil_append, List.append_nil, List.length_cons, List.length_nil, Nat.zero_add, Nat.reduceAdd] at hst9
    obtain ⟨⟨q5, q6⟩, hB1, hst9⟩ := hst9.unx (k := 4) rfl (fun _ => rfl)
    replace h_t := h_t.mono hle9
    replace hc8 := hc8.mono hle9
    replace hcut := hcut.mono hle9
    replace hS := hS.mono hle9
    replace hA1 := hA1.mono hle9
    clear hst8 hfr8 hk9
    refine hK20 _ _ ?_; clear hK20
    refine seq_any fun _ hK23 => ?_
    replace hst9 := hst9.more (r := .free) trivial List.nodup_nil (by simp [Res.blocks])
    refine ra0 (tch := [(6, 5, (fun v => .blk v _)), (7, 5, (fun v => .blkx v _ _))]) hst9 hfr9 (.cons rfl (ob_loadLA (j := 3) rfl rfl Try.isAgg36 Try.sizeOf36 rfl) <| .cons rfl (ob_move rfl) <| .cons rfl (ob_call (φ := MP.tyb t true) rfl (.cons rfl <| .cons rfl <| .nil) Try.call12 (fun w m hK => by have hle_ := KC.le hK; have hA := KC.agree hK; have hA1 := hA1.mono hle_; exact FnG.mono (type_x (s := ⟨aset (keyS n) t (saidS l).ts, (saidS l).rs⟩) (q := (q3, q4)) (n := keyS n) hA hA1 (by rw [alook_same]; rfl) (by rw [alook_same]; rfl) hwA) fun _ _ _ _ h => h)) <| .cons rfl (ob_imgV 67 rfl rfl rfl fun y67 => ob_move rfl) <| .cons rfl (ob_imgV 64 rfl rfl rfl fun y64 => ob_extract rfl rfl) <| .cons rfl (ob_imgE 64 rfl rfl rfl fun y64 => ob_extract rfl rfl) <| .consT rfl rfl (fun _ => rfl) rfl (ob_allocL Try.zeroValue28 rfl) <| .consT rfl rfl (fun _ => rfl) rfl (ob_imgT 16 rfl rfl rfl fun y16 => ob_imgTX 68 rfl rfl rfl fun y68 => ob_storeF rfl rfl rfl rfl rfl Try.sizeOf28 rfl rfl rfl) <| .cons rfl (ob_assign rfl) <| .nil) ?_
    intro a10 w10 m10 hst10 hle10 hk10
    have hfr10 := hk10.fr (T' := [(8, _), (9, _), (11, _), (12, _), (1, _), (2, _), (14, _), (15, _), (17, _)]) (.old rfl rfl <| .old rfl rfl <| .old rfl rfl <| .old rfl rfl <| .old rfl rfl <| .old rfl rfl <| .old rfl rfl <| .old rfl rfl <| .new rfl <| .nil)
    obtain ⟨g24, e24, _⟩ := hk10.ex 16 rfl
    replace hfr10 := hfr10.cons e24
    replace hst10 := hst10.fin (L' := [_, _, _, _, _, _]) (.cons e24 <| .cons e24 <| .nil)
    try simp only [List.take_succ_cons, List.take_zero, List.drop_succ_cons, List.drop_zero, List.cons_append, List.nil_append, List.append_nil, List.length_cons, List.length_nil, Nat.zero_add, Nat.reduceAdd] at hst10
    obtain ⟨⟨⟨oa5, ca5⟩, ol5, cl5⟩, hT5, hst10⟩ := hst10.unx (k := 5) rfl (fun _ => rfl)
    replace h_t := h_t.mono hle10
    replace hc8 := hc8.mono hle10
    replace hcut := hcut.mono hle10
    replace hS := hS.mono hle10
    replace hA1 := hA1.mono hle10
    replace hB1 := hB1.mono hle10
    clear hst9 hfr9 hk10
    refine hK23 _ _ ?_; clear hK23
    refine seq_any fun _ hK26 => ?_
    replace hst10 := hst10.more (r := .free) trivial List.nodup_nil (by simp [Res.blocks])
    refine ra0 (tch := [(6, 6, (fun v => .blk v _)), (7, 6, (fun v => .blkx v _ _))]) hst10 hfr10 (.cons rfl (ob_loadLA (j := 4) rfl rfl Try.isAgg36 Try.sizeOf36 rfl) <| .cons rfl (ob_move rfl) <| .cons rfl (ob_call (φ := MP.rwb (cutS r 10) true) rfl (.cons rfl <| .cons rfl <| .nil) Try.call13 (fun w m hK => by have hle_ := KC.le hK; have hA := KC.agree hK; have hB1 := hB1.mono hle_; exact FnG.mono (row_x (s := ⟨(saidS l).ts, aset (keyS n) (cutS r 10) (saidS l).rs⟩) (q := (q5, q6)) (n := keyS n) hA hB1 (by rw [alook_same]; rfl) (by rw [alook_same]; rfl) hwB) fun _ _ _ _ h => h)) <| .cons rfl (ob_imgV 73 rfl rfl rfl fun y73 => ob_move rfl) <| .cons rfl (ob_imgV 70 rfl rfl rfl fun y70 => ob_extract rfl rfl) <| .cons rfl (ob_imgE 70 rfl rfl rfl fun y70 => ob_extract rfl rfl) <| .consT rfl rfl (fun _ => rfl) rfl (ob_allocL Try.zeroValue26 rfl) <| .consT rfl rfl (fun _ => rfl) rfl (ob_imgT 18 rfl rfl rfl fun y18 => ob_imgTX 74 rfl rfl rfl fun y74 => ob_storeF rfl rfl rfl rfl rfl Try.sizeOf26 rfl rfl rfl) <| .cons rfl (ob_assign rfl) <| .nil) ?_
    intro a11 w11 m11 hst11 hle11 hk11
    have hfr11 := hk11.fr (T' := [(8, _), (9, _), (11, _), (12, _), (1, _), (2, _), (14, _), (15, _), (17, _), (16, _), (19, _)]) (.old rfl rfl <| .old rfl rfl <| .old rfl rfl <| .old rfl rfl <| .old rfl rfl <| .old rfl rfl <| .old rfl rfl <| .old rfl rfl <| .old rfl rfl <| .old rfl rfl <| .new rfl <| .nil)
    obtain ⟨g27, e27, _⟩ := hk11.ex 18 rfl
    replace hfr11 := hfr11.cons e27
    replace hst11 := hst11.fin (L' := [_, _, _, _, _, _, _]) (.cons e27 <| .cons e27 <| .nil)
    try simp only [List.take_succ_cons, List.take_zero, List.drop_succ_cons, List.drop_zero, List.cons_append, List.nil_append, List.append_nil, List.length_cons, List.length_nil, Nat.zero_add, Nat.reduceAdd] at hst11
    obtain ⟨⟨or6, cr6⟩, hQ6, hst11⟩ := hst11.unx (k := 6) rfl (fun _ => rfl)
    replace h_t := h_t.mono hle11
    replace hc8 := hc8.mono hle11
    replace hcut := hcut.mono hle11
    replace hS := hS.mono hle11
    replace hA1 := hA1.mono hle11
    replace hB1 := hB1.mono hle11
    replace hT5 := hT5.mono hle11
    clear hst10 hfr10 hk11
    refine hK26 _ _ ?_; clear hK26
    refine seq_any fun _ hK29 => ?_
    replace hst11 := hst11.more (r := .free) trivial List.nodup_nil (by simp [Res.blocks])
    refine ra0 (tch := [(6, 7, (fun v => .blk v _)), (7, 7, (fun v => .blkx v _ _))]) hst11 hfr11 (.cons rfl (ob_loadLA (j := 3) rfl rfl Try.isAgg36 Try.sizeOf36 rfl) <| .cons rfl (ob_move rfl) <| .cons rfl (ob_call (φ := MP.tyb xa ba) rfl (.cons rfl <| .cons rfl <| .nil) Try.call12 (fun w m hK => by have hle_ := KC.le hK; have hA := KC.agree hK; have hA1 := hA1.mono hle_; exact FnG.mono (type_x (s := ⟨aset (keyS n) t (saidS l).ts, (saidS l).rs⟩) (q := (q3, q4)) (n := keyS k) hA hA1 hxa hba hwA) fun _ _ _ _ h => h)) <| .cons rfl (ob_imgV 79 rfl rfl rfl fun y79 => ob_move rfl) <| .cons rfl (ob_imgV 76 rfl rfl rfl fun y76 => ob_extract rfl rfl) <| .cons rfl (ob_imgE 76 rfl rfl rfl fun y76 => ob_extract rfl rfl) <| .consT rfl rfl (fun _ => rfl) rfl (ob_allocL Try.zeroValue28 rfl) <| .consT rfl rfl (fun _ => rfl) rfl (ob_imgT 20 rfl rfl rfl fun y20 => ob_imgTX 80 rfl rfl rfl fun y80 => ob_storeF rfl rfl rfl rfl rfl Try.sizeOf28 rfl rfl rfl) <| .cons rfl (ob_assign rfl) <| .nil) ?_
    intro a12 w12 m12 hst12 hle12 hk12
    have hfr12 := hk12.fr (T' := [(8, _), (9, _), (11, _), (12, _), (1, _), (2, _), (15, _), (17, _), (16, _), (19, _), (18, _), (21, _)]) (.old rfl rfl <| .old rfl rfl <| .old rfl rfl <| .old rfl rfl <| .old rfl rfl <| .old rfl rfl <| .old rfl rfl <| .old rfl rfl <| .old rfl rfl <| .old rfl rfl <| .old rfl rfl <| .new rfl <| .nil)
    obtain ⟨g30, e30, _⟩ := hk12.ex 20 rfl
    replace hfr12 := hfr12.cons e30
    replace hst12 := hst12.fin (L' := [_, _, _, _, _, _, _, _]) (.cons e30 <| .cons e30 <| .nil)
    try simp only [List.take_succ_cons, List.take_zero, List.drop_succ_cons, List.drop_zero, List.cons_append, List.nil_append, List.append_nil, List.length_cons, List.length_nil, Nat.zero_add, Nat.reduceAdd] at hst12
    obtain ⟨⟨⟨oa7, ca7⟩, ol7, cl7⟩, hT7, hst12⟩ := hst12.unx (k := 7) rfl (fun _ => rfl)
    replace h_t := h_t.mono hle12
    replace hc8 := hc8.mono hle12
    replace hcut := hcut.mono hle12
    replace hS := hS.mono hle12
    replace hB1 := hB1.mono hle12
    replace hT5 := hT5.mono hle12
    replace hQ6 := hQ6.mono hle12
    clear hst11 hfr11 hk12
    refine hK29 _ _ ?_; clear hK29
    refine seq_any fun _ hK32 => ?_
    replace hst12 := hst12.more (r := .free) trivial List.nodup_nil (by simp [Res.blocks])
    refine ra0 (tch := [(6, 8, (fun v => .blk v _)), (7, 8, (fun v => .blkx v _ _))]) hst12 hfr12 (.cons rfl (ob_loadLA (j := 1) rfl rfl Try.isAgg36 Try.sizeOf36 rfl) <| .cons rfl (ob_move rfl) <| .cons rfl (ob_call (φ := MP.tyb xv bv) rfl (.cons rfl <| .cons rfl <| .nil) Try.call12 (fun w m hK => by have hle_ := KC.le hK; have hA := KC.agree hK; have hS := hS.mono hle_; exact FnG.mono (type_x (s := (saidS l)) (q := (q1, q2)) (n := keyS k) hA hS hxv hbv hwS) fun _ _ _ _ h => h)) <| .cons rfl (ob_imgV 85 rfl rfl rfl fun y85 => ob_move rfl) <| .cons rfl (ob_imgV 82 rfl rfl rfl fun y82 => ob_extract rfl rfl) <| .cons rfl (ob_imgE 82 rfl rfl rfl fun y82 => ob_extract rfl rfl) <| .consT rfl rfl (fun _ => rfl) rfl (ob_allocL Try.zeroValue28 rfl) <| .consT rfl rfl (fun _ => rfl) rfl (ob_imgT 22 rfl rfl rfl fun y22 => ob_imgTX 86 rfl rfl rfl fun y86 => ob_storeF rfl rfl rfl rfl rfl Try.sizeOf28 rfl rfl rfl) <| .cons rfl (ob_assign rfl) <| .nil) ?_
    intro a13 w13 m13 hst13 hle13 hk13
    have hfr13 := hk13.fr (T' := [(8, _), (9, _), (11, _), (12, _), (1, _), (2, _), (15, _), (17, _), (16, _), (19, _), (18, _), (21, _), (20, _), (23, _)]) (.old rfl rfl <| .old rfl rfl <| .old rfl rfl <| .old rfl rfl <| .old rfl rfl <| .old rfl rfl <| .old rfl rfl <| .old rfl rfl <| .old rfl rfl <| .old rfl rfl <| .old rfl rfl <| .old rfl rfl <| .old rfl rfl <| .new rfl <| .nil)
    obtain ⟨g33, e33, _⟩ := hk13.ex 22 rfl
    replace hfr13 := hfr13.cons e33
    replace hst13 := hst13.fin (L' := [_, _, _, _, _, _, _, _, _]) (.cons e33 <| .cons e33 <| .nil)
    try simp only [List.take_succ_cons, List.take_zero, List.drop_succ_cons, List.drop_zero, List.cons_append, List.nil_append, List.append_nil, List.length_cons, List.length_nil, Nat.zero_add, Nat.reduceAdd] at hst13
    obtain ⟨⟨⟨oa8, ca8⟩, ol8, cl8⟩, hT8, hst13⟩ := hst13.unx (k := 8) rfl (fun _ => rfl)
    replace h_t := h_t.mono hle13
    replace hc8 := hc8.mono hle13
    replace hcut := hcut.mono hle13
    replace hS := hS.mono hle13
    replace hB1 := hB1.mono hle13
    replace hT5 := hT5.mono hle13
    replace hQ6 := hQ6.mono hle13
    replace hT7 := hT7.mono hle13
    clear hst12 hfr12 hk13
    refine hK32 _ _ ?_; clear hK32
    refine seq_any fun _ hK35 => ?_
    replace hst13 := hst13.more (r := .free) trivial List.nodup_nil (by simp [Res.blocks])
    refine ra0 (tch := [(6, 9, (fun v => .blk v _)), (7, 9, (fun v => .blkx v _ _))]) hst13 hfr13 (.cons rfl (ob_loadLA (j := 4) rfl rfl Try.isAgg36 Try.sizeOf36 rfl) <| .cons rfl (ob_move rfl) <| .cons rfl (ob_call (φ := MP.rwb yb cb) rfl (.cons rfl <| .cons rfl <| .nil) Try.call13 (fun w m hK => by have hle_ := KC.le hK; have hA := KC.agree hK; have hB1 := hB1.mono hle_; exact FnG.mono (row_x (s := ⟨(saidS l).ts, aset (keyS n) (cutS r 10) (saidS l).rs⟩) (q := (q5, q6)) (n := keyS k) hA hB1 hyb hcb hwB) fun _ _ _ _ h => h)) <| .cons rfl (ob_imgV 91 rfl rfl rfl fun y91 => ob_move rfl) <| .cons rfl (ob_imgV 88 rfl rfl rfl fun y88 => ob_extract rfl rfl) <| .cons rfl (ob_imgE 88 rfl rfl rfl fun y88 => ob_extract rfl rfl) <| .consT rfl rfl (fun _ => rfl) rfl (ob_allocL Try.zeroValue26 rfl) <| .consT rfl rfl (fun _ => rfl) rfl (ob_imgT 24 rfl rfl rfl fun y24 => ob_imgTX 92 rfl rfl rfl fun y92 => ob_storeF rfl rfl rfl rfl rfl Try.sizeOf26 rfl rfl rfl) <| .cons rfl (ob_assign rfl) <| .nil) ?_
    intro a14 w14 m14 hst14 hle14 hk14
    have hfr14 := hk14.fr (T' := [(8, _), (9, _), (11, _), (12, _), (1, _), (2, _), (15, _), (17, _), (16, _), (19, _), (18, _), (21, _), (20, _), (23, _), (22, _), (25, _)]) (.old rfl rfl <| .old rfl rfl <| .old rfl rfl <| .old rfl rfl <| .old rfl rfl <| .old rfl rfl <| .old rfl rfl <| .old rfl rfl <| .old rfl rfl <| .old rfl rfl <| .old rfl rfl <| .old rfl rfl <| .old rfl rfl <| .old rfl rfl <| .old rfl rfl <| .new rfl <| .nil)
    obtain ⟨g36, e36, _⟩ := hk14.ex 24 rfl
    replace hfr14 := hfr14.cons e36
    replace hst14 := hst14.fin (L' := [_, _, _, _, _, _, _, _, _, _]) (.cons e36 <| .cons e36 <| .nil)
    try simp only [List.take_succ_cons, List.take_zero, List.drop_succ_cons, List.drop_zero, List.cons_append, List.nil_append, List.append_nil, List.length_cons, List.length_nil, Nat.zero_add, Nat.reduceAdd] at hst14
    obtain ⟨⟨or9, cr9⟩, hQ9, hst14⟩ := hst14.unx (k := 9) rfl (fun _ => rfl)
    replace h_t := h_t.mono hle14
    replace hc8 := hc8.mono hle14
    replace hcut := hcut.mono hle14
    replace hS := hS.mono hle14
    replace hB1 := hB1.mono hle14
    replace hT5 := hT5.mono hle14
    replace hQ6 := hQ6.mono hle14
    replace hT7 := hT7.mono hle14
    replace hT8 := hT8.mono hle14
    clear hst13 hfr13 hk14
    refine hK35 _ _ ?_; clear hK35
    refine seq_any fun _ hK38 => ?_
    replace hst14 := hst14.more (r := .free) trivial List.nodup_nil (by simp [Res.blocks])
    refine ra0 (tch := [(6, 10, (fun v => .blk v _)), (7, 10, (fun v => .blkx v _ _))]) hst14 hfr14 (.cons rfl (ob_loadLA (j := 1) rfl rfl Try.isAgg36 Try.sizeOf36 rfl) <| .cons rfl (ob_move rfl) <| .cons rfl (ob_call (φ := MP.rwb yv cv) rfl (.cons rfl <| .cons rfl <| .nil) Try.call13 (fun w m hK => by have hle_ := KC.le hK; have hA := KC.agree hK; have hS := hS.mono hle_; exact FnG.mono (row_x (s := (saidS l)) (q := (q1, q2)) (n := keyS k) hA hS hyv hcv hwS) fun _ _ _ _ h => h)) <| .cons rfl (ob_imgV 97 rfl rfl rfl fun y97 => ob_move rfl) <| .cons rfl (ob_imgV 94 rfl rfl rfl fun y94 => ob_extract rfl rfl) <| .cons rfl (ob_imgE 94 rfl rfl rfl fun y94 => ob_extract rfl rfl) <| .consT rfl rfl (fun _ => rfl) rfl (ob_allocL Try.zeroValue26 rfl) <| .consT rfl rfl (fun _ => rfl) rfl (ob_imgT 26 rfl rfl rfl fun y26 => ob_imgTX 98 rfl rfl rfl fun y98 => ob_storeF rfl rfl rfl rfl rfl Try.sizeOf26 rfl rfl rfl) <| .cons rfl (ob_assign rfl) <| .nil) ?_
    intro a15 w15 m15 hst15 hle15 hk15
    have hfr15 := hk15.fr (T' := [(8, _), (9, _), (11, _), (12, _), (1, _), (2, _), (15, _), (17, _), (16, _), (19, _), (18, _), (21, _), (20, _), (23, _), (22, _), (25, _), (24, _), (27, _)]) (.old rfl rfl <| .old rfl rfl <| .old rfl rfl <| .old rfl rfl <| .old rfl rfl <| .old rfl rfl <| .old rfl rfl <| .old rfl rfl <| .old rfl rfl <| .old rfl rfl <| .old rfl rfl <| .old rfl rfl <| .old rfl rfl <| .old rfl rfl <| .old rfl rfl <| .old rfl rfl <| .old rfl rfl <| .new rfl <| .nil)
    obtain ⟨g39, e39, _⟩ := hk15.ex 26 rfl
    replace hfr15 := hfr15.cons e39
    replace hst15 := hst15.fin (L' := [_, _, _, _, _, _, _, _, _, _, _]) (.cons e39 <| .cons e39 <| .nil)
    try simp only [List.take_succ_cons, List.take_zero, List.drop_succ_cons, List.drop_zero, List.cons_append, List.nil_append, List.append_nil, List.length_cons, List.length_nil, Nat.zero_add, Nat.reduceAdd] at hst15
    obtain ⟨⟨or10, cr10⟩, hQ10, hst15⟩ := hst15.unx (k := 10) rfl (fun _ => rfl)
    replace h_t := h_t.mono hle15
    replace hc8 := hc8.mono hle15
    replace hcut := hcut.mono hle15
    replace hS := hS.mono hle15
    replace hB1 := hB1.mono hle15
    replace hT5 := hT5.mono hle15
    replace hQ6 := hQ6.mono hle15
    replace hT7 := hT7.mono hle15
    replace hT8 := hT8.mono hle15
    replace hQ9 := hQ9.mono hle15
    clear hst14 hfr14 hk15
    refine hK38 _ _ ?_; clear hK38
    refine seq_any fun _ hK41 => ?_
    replace hst15 := hst15.more (r := .free) trivial List.nodup_nil (by simp [Res.blocks])
    refine ra0 (tch := [(6, 11, (fun v => .blk v _)), (7, 11, (fun v => .blkx v _ _))]) hst15 hfr15 (.cons rfl (ob_loadLA (j := 4) rfl rfl Try.isAgg36 Try.sizeOf36 rfl) <| .cons rfl (ob_move rfl) <| .cons rfl (ob_call (φ := MP.tyb xn bn) rfl (.cons rfl <| .cons rfl <| .nil) Try.call12 (fun w m hK => by have hle_ := KC.le hK; have hA := KC.agree hK; have hB1 := hB1.mono hle_; exact FnG.mono (type_x (s := ⟨(saidS l).ts, aset (keyS n) (cutS r 10) (saidS l).rs⟩) (q := (q5, q6)) (n := keyS n) hA hB1 hxn hbn_ hwB) fun _ _ _ _ h => h)) <| .cons rfl (ob_imgV 103 rfl rfl rfl fun y103 => ob_move rfl) <| .cons rfl (ob_imgV 100 rfl rfl rfl fun y100 => ob_extract rfl rfl) <| .cons rfl (ob_imgE 100 rfl rfl rfl fun y100 => ob_extract rfl rfl) <| .consT rfl rfl (fun _ => rfl) rfl (ob_allocL Try.zeroValue28 rfl) <| .consT rfl rfl (fun _ => rfl) rfl (ob_imgT 28 rfl rfl rfl fun y28 => ob_imgTX 104 rfl rfl rfl fun y104 => ob_storeF rfl rfl rfl rfl rfl Try.sizeOf28 rfl rfl rfl) <| .cons rfl (ob_assign rfl) <| .nil) ?_
    intro a16 w16 m16 hst16 hle16 hk16
    have hfr16 := hk16.fr (T' := [(8, _), (9, _), (11, _), (12, _), (1, _), (2, _), (17, _), (16, _), (19, _), (18, _), (21, _), (20, _), (23, _), (22, _), (25, _), (24, _), (27, _), (26, _), (29, _)]) (.old rfl rfl <| .old rfl rfl <| .old rfl rfl <| .old rfl rfl <| .old rfl rfl <| .old rfl rfl <| .old rfl rfl <| .old rfl rfl <| .old rfl rfl <| .old rfl rfl <| .old rfl rfl <| .old rfl rfl <| .old rfl rfl <| .old rfl rfl <| .old rfl rfl <| .old rfl rfl <| .old rfl rfl <| .old rfl rfl <| .new rfl <| .nil)
    obtain ⟨g42, e42, _⟩ := hk16.ex 28 rfl
    replace hst16 := hst16.fin (L' := [_, _, _, _, _, _, _, _, _, _, _, _]) (.cons e42 <| .cons e42 <| .nil)
    try simp only [List.take_succ_cons, List.take_zero, List.drop_succ_cons, List.drop_zero, List.cons_append, List.nil_append, List.append_nil, List.length_cons, List.length_nil, Nat.zero_add, Nat.reduceAdd] at hst16
    obtain ⟨⟨⟨oa11, ca11⟩, ol11, cl11⟩, hT11, hst16⟩ := hst16.unx (k := 11) rfl (fun _ => rfl)
    replace h_t := h_t.mono hle16
    replace hc8 := hc8.mono hle16
    replace hcut := hcut.mono hle16
    replace hS := hS.mono hle16
    replace hT5 := hT5.mono hle16
    replace hQ6 := hQ6.mono hle16
    replace hT7 := hT7.mono hle16
    replace hT8 := hT8.mono hle16
    replace hQ9 := hQ9.mono hle16
    replace hQ10 := hQ10.mono hle16
    clear hst15 hfr15 hk16
    refine hK41 _ _ ?_; clear hK41
    refine seq_any fun _ hK44 => ?_
    replace hst16 := hst16.more (r := .free) trivial List.nodup_nil (by simp [Res.blocks])
    refine ra0 (tch := [(6, 12, (fun v => .blk v _)), (7, 12, (fun v => .blkx v _ _))]) hst16 hfr16 (.cons rfl (ob_loadLA (j := 1) rfl rfl Try.isAgg36 Try.sizeOf36 rfl) <| .cons rfl (ob_move rfl) <| .cons rfl (ob_call (φ := MP.tyb xn bn) rfl (.cons rfl <| .cons rfl <| .nil) Try.call12 (fun w m hK => by have hle_ := KC.le hK; have hA := KC.agree hK; have hS := hS.mono hle_; exact FnG.mono (type_x (s := (saidS l)) (q := (q1, q2)) (n := keyS n) hA hS hxn hbn_ hwS) fun _ _ _ _ h => h)) <| .cons rfl (ob_imgV 109 rfl rfl rfl fun y109 => ob_move rfl) <| .cons rfl (ob_imgV 106 rfl rfl rfl fun y106 => ob_extract rfl rfl) <| .cons rfl (ob_imgE 106 rfl rfl rfl fun y106 => ob_extract rfl rfl) <| .consT rfl rfl (fun _ => rfl) rfl (ob_allocL Try.zeroValue28 rfl) <| .consT rfl rfl (fun _ => rfl) rfl (ob_imgT 30 rfl rfl rfl fun y30 => ob_imgTX 110 rfl rfl rfl fun y110 => ob_storeF rfl rfl rfl rfl rfl Try.sizeOf28 rfl rfl rfl) <| .cons rfl (ob_assign rfl) <| .nil) ?_
    intro a17 w17 m17 hst17 hle17 hk17
    have hfr17 := hk17.fr (T' := [(8, _), (9, _), (11, _), (1, _), (2, _), (17, _), (16, _), (19, _), (18, _), (21, _), (20, _), (23, _), (22, _), (25, _), (24, _), (27, _), (26, _), (29, _), (31, _)]) (.old rfl rfl <| .old rfl rfl <| .old rfl rfl <| .old rfl rfl <| .old rfl rfl <| .old rfl rfl <| .old rfl rfl <| .old rfl rfl <| .old rfl rfl <| .old rfl rfl <| .old rfl rfl <| .old rfl rfl <| .old rfl rfl <| .old rfl rfl <| .old rfl rfl <| .old rfl rfl <| .old rfl rfl <| .old rfl rfl <| .new rfl <| .nil)
    obtain ⟨g45, e45, _⟩ := hk17.ex 30 rfl
    replace hst17 := hst17.fin (L' := [_, _, _, _, _, _, _, _, _, _, _, _, _]) (.cons e45 <| .cons e45 <| .nil)
    try simp only [List.take_succ_cons, List.take_zero, List.drop_succ_cons, List.drop_zero, List.cons_append, List.nil_append, List.append_nil, List.length_cons, List.length_nil, Nat.zero_add, Nat.reduceAdd] at hst17
    obtain ⟨⟨⟨oa12, ca12⟩, ol12, cl12⟩, hT12, hst17⟩ := hst17.unx (k := 12) rfl (fun _ => rfl)
    replace h_t := h_t.mono hle17
    replace hc8 := hc8.mono hle17
    replace hcut := hcut.mono hle17
    replace hT5 := hT5.mono hle17
    replace hQ6 := hQ6.mono hle17
    replace hT7 := hT7.mono hle17
    replace hT8 := hT8.mono hle17
    replace hQ9 := hQ9.mono hle17
    replace hQ10 := hQ10.mono hle17
    clear hst16 hfr16 hk17
    refine hK44 _ _ ?_; clear hK44
    refine seq_any fun _ hK47 => ?_
    refine seq_any fun _ hK48 => ?_
    refine rp0 hst17 hfr17 (.cons rfl (ob_move rfl) <| .cons rfl (ob_not rfl) <| .cons rfl (ob_move rfl) <| .cons rfl (ob_move rfl) <| .cons rfl (ob_not rfl) <| .cons rfl (ob_or rfl rfl rfl) <| .cons rfl (ob_move rfl) <| .cons rfl (ob_loadLA (j := 5) rfl rfl Try.isAgg28 Try.sizeOf28 rfl) <| .cons rfl (ob_loadS' rfl hc8 Try.isAgg28 Try.sizeOf28 rfl rfl) <| .cons rfl (ob_callE rfl (.cons rfl <| .cons rfl <| .nil) Try.call14 (fun w m hK => by have hle_ := KC.le hK; have hA := KC.agree hK; have h_t := h_t.mono hle_; have hT5 := hT5.mono hle_; exact sameR_c t (u := t) hA hT5 h_t)) <| .cons rfl (ob_not rfl) <| .cons rfl (ob_or rfl rfl rfl) <| .cons rfl (ob_move rfl) <| .cons rfl (ob_loadLA (j := 6) rfl rfl Try.isAgg26 Try.sizeOf26 rfl) <| .cons rfl (ob_loadLA (j := 0) rfl rfl Try.isAgg26 Try.sizeOf26 rfl) <| .cons rfl (ob_callE rfl (.cons rfl <| .cons rfl <| .nil) Try.call15 (fun w m hK => by have hle_ := KC.le hK; have hA := KC.agree hK; have hcut := hcut.mono hle_; have hQ6 := hQ6.mono hle_; exact sameRowR_c (a := cutS r 10) (b := cutS r 10) hA hQ6 ⟨_, _, rfl, hcut, hr_r⟩)) <| .cons rfl (ob_not rfl) <| .cons rfl (ob_or rfl rfl rfl) <| .cons rfl (ob_move rfl) <| .cons rfl (ob_move rfl) <| .cons rfl (ob_move rfl) <| .cons rfl (ob_bneq rfl rfl Try.underlying4) <| .cons rfl (ob_or rfl rfl rfl) <| .nil) ?_
    intro a18 w18 m18 hst18 hle18 hk18
    have hfr18 := hk18.fr (T' := [(11, _), (1, _), (2, _), (21, _), (20, _), (23, _), (22, _), (25, _), (24, _), (27, _), (26, _), (134, _)]) (.old rfl rfl <| .old rfl rfl <| .old rfl rfl <| .old rfl rfl <| .old rfl rfl <| .old rfl rfl <| .old rfl rfl <| .old rfl rfl <| .old rfl rfl <| .old rfl rfl <| .old rfl rfl <| .new rfl <| .nil)
    replace hT7 := hT7.mono hle18
    replace hT8 := hT8.mono hle18
    replace hQ9 := hQ9.mono hle18
    replace hQ10 := hQ10.mono hle18
    clear hst17 hfr17 hk18
    refine hK48 _ _ ?_; clear hK48
    refine cond_any hfr18 rfl rfl (fun hb134 => ?_) (fun hb134 => ?_)
    · simp [sameT_refl] at hb134
    · try simp only [nq1, nq2, nq3, nq4, nq5, nq6, nq7, nq8, nq9, u8_eq] at hb134
      refine wp_skip ?_
      refine hK47 _ _ ?_; clear hK47
      refine seq_any fun _ hK49 => ?_
      refine rp0 hst18 hfr18 (.cons rfl (ob_move rfl) <| .cons rfl (ob_move rfl) <| .cons rfl (ob_move rfl) <| .cons rfl (ob_move rfl) <| .cons rfl (ob_eql rfl rfl) <| .cons rfl (ob_move rfl) <| .cons rfl (ob_move rfl) <| .cons rfl (ob_move rfl) <| .cons rfl (ob_beql rfl rfl Try.underlying4) <| .cons rfl (ob_move rfl) <| .cons rfl (ob_loadLA (j := 7) rfl rfl Try.isAgg28 Try.sizeOf28 rfl) <| .cons rfl (ob_loadLA (j := 8) rfl rfl Try.isAgg28 Try.sizeOf28 rfl) <| .cons rfl (ob_callE rfl (.cons rfl <| .cons rfl <| .nil) Try.call14 (fun w m hK => by have hle_ := KC.le hK; have hA := KC.agree hK; have hT7 := hT7.mono hle_; have hT8 := hT8.mono hle_; exact sameR_c xa (u := xv) hA hT7 hT8)) <| .cons rfl (ob_and rfl rfl rfl) <| .cons rfl (ob_move rfl) <| .cons rfl (ob_move rfl) <| .cons rfl (ob_move rfl) <| .cons rfl (ob_beql rfl rfl Try.underlying4) <| .cons rfl (ob_and rfl rfl rfl) <| .cons rfl (ob_move rfl) <| .cons rfl (ob_loadLA (j := 9) rfl rfl Try.isAgg26 Try.sizeOf26 rfl) <| .cons rfl (ob_loadLA (j := 10) rfl rfl Try.isAgg26 Try.sizeOf26 rfl) <| .cons rfl (ob_callE rfl (.cons rfl <| .cons rfl <| .nil) Try.call15 (fun w m hK => by have hle_ := KC.le hK; have hA := KC.agree hK; have hQ9 := hQ9.mono hle_; have hQ10 := hQ10.mono hle_; exact sameRowR_c (a := yb) (b := yv) hA hQ9 hQ10)) <| .cons rfl (ob_and rfl rfl rfl) <| .cons rfl (ob_or rfl rfl rfl) <| .cons rfl (ob_and rfl rfl rfl) <| .cons rfl (ob_assign rfl) <| .nil) ?_
      intro a19 w19 m19 hst19 hle19 hk19
      have hfr19 := hk19.fr (T' := [(10, _)]) (.new rfl <| .nil)
      clear hst18 hfr18 hk19
      refine hK49 _ _ ?_; clear hK49
      refine wp_ret ?_
      repeat (with_reducible first | refine then_ret ?_ | refine block_ret ?_)
      exact fn_ret hst19 hfr19 rfl (.tmp rfl <| .nil) (by refine congrArg Value.bool ?_; by_cases hnk : keyS n = keyS k; (have hnk2 : 1 + band n 7 = 1 + band k 7 := hnk; simp [hnk2]); (obtain ⟨e1, e2, e3, e4⟩ := hne hnk; rw [e1, e2, e3, e4]; simp [sameT_refl]))

end Go.Proofs.Ytfphefkfbhjfdaa
