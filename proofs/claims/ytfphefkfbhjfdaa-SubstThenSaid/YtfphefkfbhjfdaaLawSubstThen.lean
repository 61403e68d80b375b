/-
  'brocadelaw05': the walk of the law. Conditions: those of each theorem.
-/
import Derived.Test.YtfphefkfbhjfdaaRthen5
namespace Go.Proofs.Ytfphefkfbhjfdaa
set_option linter.all false
set_option maxRecDepth 4000
open Go.RowKit
set_option maxHeartbeats 3200000 in
theorem substThen_c {w : World} {m : Mem} {o_l : Option Addr} {c_l : Nat} {l : List Say} {o_k : Option Addr} {c_k : Nat} {k : List Say} {t : Ty} {vs_t : List Value} {n : Int} (hA : Agree w m) (h_l : Says m o_l l.length c_l l) (h_k : Says m o_k k.length c_k k) (h_t : TyR m t vs_t) (hw : ∀ x ∈ l, wdT x.ty ≤ 17592186043904 ∧ x.row.labels.length ≤ 8796093022208) (hv : ∀ x ∈ k, wdT x.ty ≤ 17592186043904 ∧ x.row.labels.length ≤ 8796093022208) (hwt : wdT t ≤ 17592186043904) : FnV Try.prog 6 #[.slice o_l l.length c_l, .slice o_k k.length c_k, .agg vs_t.toArray, .int .i64 n] w m (fun _ _ v => v = .bool true) := by
  have hb_l := h_l.big; have hc_l := h_l.cap
  have hb_k := h_k.big; have hc_k := h_k.cap
  obtain ⟨o_t, c_t, oL_t, cL_t, rfl, hk_t, hs_t, hi_t, hj_t, hr_t⟩ := h_t.open_
  have hbg_t := hk_t.big; have hcp_t := hk_t.cap; have hbs_t := hs_t.big; have hcs_t := hs_t.cap
  have hrw_t : RwR _ ⟨t.labels, t.rv⟩ _ := ⟨_, _, rfl, hs_t, hr_t⟩
  refine fn_enter (vs := [_, _, _, _]) Try.func6 rfl rfl rfl fun a0 hfr0 => ?_
  have hst0 := st_enter hA (loc_nil [] _ w m)
  have hM : MLe m m := MLe.refl m
  have hwA := saidS_w (B := 17592186043904) (R := 10) (l := l) (by omega) (fun x hx => (hw x hx).1)
  have hwB := saidS_w (B := 17592186043904) (R := 10) (l := k) (by omega) (fun x hx => (hv x hx).1)
  have up : ∀ {s : Sub} {B C Q R : Nat}, B ≤ C → Q ≤ R → SubW B Q s → SubW C R s := fun h g hs => ⟨fun n t ht => Nat.le_trans (hs.1 n t ht) h, fun n t ht => Nat.le_trans (hs.2 n t ht) g⟩
  obtain ⟨twA, lenA⟩ := said_twin (B := 17592186043904) (R := 10) (l := l) (by omega) (fun x hx => (hw x hx).1)
  obtain ⟨twB, lenB⟩ := said_twin (B := 17592186043904) (R := 10) (l := k) (by omega) (fun x hx => (hv x hx).1)
  have hwT := applyT_wd hwA t
  refine seq_any fun _ hK1 => ?_
  refine rp0 hst0 hfr0 (.cons rfl (ob_box rfl rfl) <| .cons rfl (ob_assign rfl) <| .nil) ?_
  intro a1 w1 m1 hst1 hle1 hk1
  have hfr1 := hk1.fr (T' := [(0, _), (1, _), (3, _)]) (.old rfl rfl <| .old rfl rfl <| .old rfl rfl <| .nil)
  obtain ⟨g2, e2, hc6⟩ := hk1.ex 6 rfl
  replace hfr1 := hfr1.cons e2
  replace h_l := h_l.mono hle1
  replace h_k := h_k.mono hle1
  replace h_t := h_t.mono hle1
  clear hst0 hfr0 hk1
  refine hK1 _ _ ?_; clear hK1
  refine seq_any fun _ hK3 => ?_
  refine rp0 hst1 hfr1 (.cons rfl (ob_callE rfl (.nil) Try.call7 (fun w m hK => by have hle_ := KC.le hK; have hA := KC.agree hK; exact shown_c hA)) <| .cons rfl (ob_assign rfl) <| .nil) ?_
  intro a2 w2 m2 hst2 hle2 hk2
  have hfr2 := hk2.fr (T' := [(0, _), (1, _), (3, _), (6, _), (9, _)]) (.old rfl rfl <| .old rfl rfl <| .old rfl rfl <| .old rfl rfl <| .new rfl <| .nil)
  replace h_l := h_l.mono hle2
  replace h_k := h_k.mono hle2
  replace h_t := h_t.mono hle2
  replace hc6 := hc6.mono hle2
  clear hst1 hfr1 hk2
  refine hK3 _ _ ?_; clear hK3
  refine seq_any fun _ hK4 => ?_
  refine seq_any fun _ hK5 => ?_
  refine rp0 hst2 hfr2 (.cons rfl (ob_loadS' rfl hc6 Try.isAgg28 Try.sizeOf28 rfl rfl) <| .cons rfl (ob_callE rfl (.cons rfl <| .nil) Try.call8 (fun w m hK => by have hle_ := KC.le hK; have hA := KC.agree hK; have h_t := h_t.mono hle_; exact count_c t hA h_t)) <| .cons rfl (ob_gtr rfl rfl) <| .cons rfl (ob_move rfl) <| .cons rfl (ob_loadS' rfl hc6 Try.isAgg28 Try.sizeOf28 rfl rfl) <| .cons rfl (ob_callE rfl (.cons rfl <| .nil) Try.call16 (fun w m hK => by have hle_ := KC.le hK; have hA := KC.agree hK; have h_t := h_t.mono hle_; exact right0R_c (t := t) hA h_t)) <| .cons rfl (ob_not rfl) <| .cons rfl (ob_or rfl rfl rfl) <| .cons rfl (ob_move rfl) <| .cons rfl (ob_move rfl) <| .cons rfl (ob_callE rfl (.cons rfl <| .nil) Try.call19 (fun w m hK => by have hle_ := KC.le hK; have hA := KC.agree hK; have h_l := h_l.mono hle_; exact good_c hA h_l)) <| .cons rfl (ob_not rfl) <| .cons rfl (ob_or rfl rfl rfl) <| .cons rfl (ob_move rfl) <| .cons rfl (ob_move rfl) <| .cons rfl (ob_callE rfl (.cons rfl <| .nil) Try.call19 (fun w m hK => by have hle_ := KC.le hK; have hA := KC.agree hK; have h_k := h_k.mono hle_; exact good_c hA h_k)) <| .cons rfl (ob_not rfl) <| .cons rfl (ob_or rfl rfl rfl) <| .nil) ?_
  intro a3 w3 m3 hst3 hle3 hk3
  have hfr3 := hk3.fr (T' := [(0, _), (1, _), (3, _), (6, _), (9, _), (42, _)]) (.old rfl rfl <| .old rfl rfl <| .old rfl rfl <| .old rfl rfl <| .old rfl rfl <| .new rfl <| .nil)
  replace h_l := h_l.mono hle3
  replace h_k := h_k.mono hle3
  replace h_t := h_t.mono hle3
  replace hc6 := hc6.mono hle3
  clear hst2 hfr2 hk3
  refine hK5 _ _ ?_; clear hK5
  refine cond_any hfr3 rfl rfl (fun hb42 => ?_) (fun hb42 => ?_)
  · try simp only [nq1, nq2, nq3, nq4, nq5, nq6, nq7, nq8, nq9, u8_eq] at hb42
    refine seq_any fun _ hK6 => ?_
    refine rp0 hst3 hfr3 (.cons rfl (ob_move rfl) <| .cons rfl (ob_assign rfl) <| .nil) ?_
    intro a4 w4 m4 hst4 hle4 hk4
    have hfr4 := hk4.fr (T' := [(8, _)]) (.new rfl <| .nil)
    clear hst3 hfr3 hk4
    refine hK6 _ _ ?_; clear hK6
    refine wp_ret ?_
    repeat (with_reducible first | refine then_ret ?_ | refine block_ret ?_)
    exact fn_ret hst4 hfr4 rfl (.tmp rfl <| .nil) (rfl)
  · try simp only [nq1, nq2, nq3, nq4, nq5, nq6, nq7, nq8, nq9, u8_eq] at hb42
    have hgl : goodS l = true := by simp_all
    have hapA := (saidS_ok hgl).2
    refine wp_skip ?_
    refine hK4 _ _ ?_; clear hK4
    refine seq_any fun _ hK8 => ?_
    replace hst3 := hst3.more (r := .free) trivial List.nodup_nil (by simp [Res.blocks])
    replace hst3 := hst3.more (r := .free) trivial List.nodup_nil (by simp [Res.blocks])
    refine ra0 (tch := [(5, 0, (fun v => .blk v _)), (6, 1, (fun v => .blk v _)), (7, 0, (fun v => .blkx v _ _)), (8, 1, (fun v => .blkx v _ _))]) hst3 hfr3 (.cons rfl (ob_move rfl) <| .cons rfl (ob_call (φ := MP.said (saidS l) (saidR l)) rfl (.cons rfl <| .nil) Try.call9 (fun w m hK => by have hle_ := KC.le hK; have hA := KC.agree hK; have h_l := h_l.mono hle_; exact FnG.mono (said_c hA h_l (fun x hx => by have := hw x hx; omega)) fun _ _ _ _ h => h)) <| .cons rfl (ob_imgV 46 rfl rfl rfl fun y46 => ob_move rfl) <| .cons rfl (ob_imgV 44 rfl rfl rfl fun y44 => ob_extract rfl rfl) <| .cons rfl (ob_imgV 44 rfl rfl rfl fun y44 => ob_extract rfl rfl) <| .consT rfl rfl (fun _ => rfl) rfl (ob_allocL Try.zeroValue36 rfl) <| .consT rfl rfl (fun _ => rfl) rfl (ob_allocL Try.zeroValue40 rfl) <| .consT rfl rfl (fun _ => rfl) rfl (ob_imgT 10 rfl rfl rfl fun y10 => ob_imgTX 47 rfl rfl rfl fun y47 => ob_storeF rfl rfl rfl rfl rfl Try.sizeOf36 rfl rfl rfl) <| .consT rfl rfl (fun _ => rfl) rfl (ob_imgT 11 rfl rfl rfl fun y11 => ob_imgTX 48 rfl rfl rfl fun y48 => ob_storeF rfl rfl rfl rfl rfl Try.sizeOf40 rfl rfl rfl) <| .nil) ?_
    intro a4 w4 m4 hst4 hle4 hk4
    have hfr4 := hk4.fr (T' := [(1, _), (3, _), (6, _), (9, _)]) (.old rfl rfl <| .old rfl rfl <| .old rfl rfl <| .old rfl rfl <| .nil)
    obtain ⟨g9, e9, _⟩ := hk4.ex 10 rfl
    replace hfr4 := hfr4.cons e9
    obtain ⟨g10, e10, _⟩ := hk4.ex 11 rfl
    replace hfr4 := hfr4.cons e10
    replace hst4 := hst4.fin (L' := [_, _]) (.cons e9 <| .cons e10 <| .cons e9 <| .cons e10 <| .nil)
    try simp only [List.take_succ_cons, List.take_zero, List.drop_succ_cons, List.drop_zero, List.cons_append, List.nil_append, List.append_nil, List.length_cons, List.length_nil, Nat.zero_add, Nat.reduceAdd] at hst4
    obtain ⟨⟨⟨q1, q2⟩, z9⟩, ⟨hS, _⟩, hst4⟩ := hst4.unx (k := 0) rfl (fun _ => rfl)
    obtain ⟨⟨q9, z1⟩, ⟨_, hR⟩, hst4⟩ := hst4.unx (k := 1) rfl (fun _ => rfl)
    replace h_k := h_k.mono hle4
    replace h_t := h_t.mono hle4
    replace hc6 := hc6.mono hle4
    clear hst3 hfr3 hk4
    refine hK8 _ _ ?_; clear hK8
    refine seq_any fun _ hK13 => ?_
    replace hst4 := hst4.more (r := .free) trivial List.nodup_nil (by simp [Res.blocks])
    replace hst4 := hst4.more (r := .free) trivial List.nodup_nil (by simp [Res.blocks])
    refine ra0 (tch := [(5, 2, (fun v => .blk v _)), (6, 3, (fun v => .blk v _)), (7, 2, (fun v => .blkx v _ _)), (8, 3, (fun v => .blkx v _ _))]) hst4 hfr4 (.cons rfl (ob_move rfl) <| .cons rfl (ob_call (φ := MP.said (saidS k) (saidR k)) rfl (.cons rfl <| .nil) Try.call9 (fun w m hK => by have hle_ := KC.le hK; have hA := KC.agree hK; have h_k := h_k.mono hle_; exact FnG.mono (said_c hA h_k (fun x hx => by have := hv x hx; omega)) fun _ _ _ _ h => h)) <| .cons rfl (ob_imgV 51 rfl rfl rfl fun y51 => ob_move rfl) <| .cons rfl (ob_imgV 49 rfl rfl rfl fun y49 => ob_extract rfl rfl) <| .cons rfl (ob_imgV 49 rfl rfl rfl fun y49 => ob_extract rfl rfl) <| .consT rfl rfl (fun _ => rfl) rfl (ob_allocL Try.zeroValue36 rfl) <| .consT rfl rfl (fun _ => rfl) rfl (ob_allocL Try.zeroValue40 rfl) <| .consT rfl rfl (fun _ => rfl) rfl (ob_imgT 12 rfl rfl rfl fun y12 => ob_imgTX 52 rfl rfl rfl fun y52 => ob_storeF rfl rfl rfl rfl rfl Try.sizeOf36 rfl rfl rfl) <| .consT rfl rfl (fun _ => rfl) rfl (ob_imgT 13 rfl rfl rfl fun y13 => ob_imgTX 53 rfl rfl rfl fun y53 => ob_storeF rfl rfl rfl rfl rfl Try.sizeOf40 rfl rfl rfl) <| .nil) ?_
    intro a5 w5 m5 hst5 hle5 hk5
    have hfr5 := hk5.fr (T' := [(3, _), (6, _), (9, _), (10, _), (11, _)]) (.old rfl rfl <| .old rfl rfl <| .old rfl rfl <| .old rfl rfl <| .old rfl rfl <| .nil)
    obtain ⟨g14, e14, _⟩ := hk5.ex 12 rfl
    replace hfr5 := hfr5.cons e14
    obtain ⟨g15, e15, _⟩ := hk5.ex 13 rfl
    replace hfr5 := hfr5.cons e15
    replace hst5 := hst5.fin (L' := [_, _, _, _]) (.cons e14 <| .cons e15 <| .cons e14 <| .cons e15 <| .nil)
    try simp only [List.take_succ_cons, List.take_zero, List.drop_succ_cons, List.drop_zero, List.cons_append, List.nil_append, List.append_nil, List.length_cons, List.length_nil, Nat.zero_add, Nat.reduceAdd] at hst5
    obtain ⟨⟨⟨q3, q4⟩, z8⟩, ⟨hS2, _⟩, hst5⟩ := hst5.unx (k := 2) rfl (fun _ => rfl)
    obtain ⟨⟨q8, z2⟩, ⟨_, hR2⟩, hst5⟩ := hst5.unx (k := 3) rfl (fun _ => rfl)
    replace h_t := h_t.mono hle5
    replace hc6 := hc6.mono hle5
    replace hS := hS.mono hle5
    replace hR := hR.mono hle5
    clear hst4 hfr4 hk5
    refine hK13 _ _ ?_; clear hK13
    refine seq_any fun _ hK18 => ?_
    replace hst5 := hst5.more (r := .free) trivial List.nodup_nil (by simp [Res.blocks])
    refine ra0 (tch := [(3, 4, (fun v => .blk v _)), (4, 4, (fun v => .blkx v _ _))]) hst5 hfr5 (.cons rfl (ob_loadLA (j := 0) rfl rfl Try.isAgg36 Try.sizeOf36 rfl) <| .cons rfl (ob_loadLA (j := 2) rfl rfl Try.isAgg36 Try.sizeOf36 rfl) <| .cons rfl (ob_call (φ := MP.thenS (saidS l) (saidS k)) rfl (.cons rfl <| .cons rfl <| .nil) Try.call21 (fun w m hK => by have hle_ := KC.le hK; have hA := KC.agree hK; have hS := hS.mono hle_; have hS2 := hS2.mono hle_; exact FnG.mono (then_c hA hS hS2 hapA.1 hapA.2 (up (by omega) (by omega) hwA) (up (by omega) (by omega) hwB)) fun _ _ _ _ h => h)) <| .consT rfl rfl (fun _ => rfl) rfl (ob_allocL Try.zeroValue36 rfl) <| .consT rfl rfl (fun _ => rfl) rfl (ob_imgT 14 rfl rfl rfl fun y14 => ob_imgTX 56 rfl rfl rfl fun y56 => ob_storeF rfl rfl rfl rfl rfl Try.sizeOf36 rfl rfl rfl) <| .nil) ?_
    intro a6 w6 m6 hst6 hle6 hk6
    have hfr6 := hk6.fr (T' := [(3, _), (6, _), (9, _), (10, _), (11, _), (12, _), (13, _)]) (.old rfl rfl <| .old rfl rfl <| .old rfl rfl <| .old rfl rfl <| .old rfl rfl <| .old rfl rfl <| .old rfl rfl <| .nil)
    obtain ⟨g19, e19, _⟩ := hk6.ex 14 rfl
    replace hfr6 := hfr6.cons e19
    replace hst6 := hst6.fin (L' := [_, _, _, _, _]) (.cons e19 <| .cons e19 <| .nil)
    try simp only [List.take_succ_cons, List.take_zero, List.drop_succ_cons, List.drop_zero, List.cons_append, List.nil_append, List.append_nil, List.length_cons, List.length_nil, Nat.zero_add, Nat.reduceAdd] at hst6
    obtain ⟨⟨o9, q5, q6⟩, ⟨hO, hth⟩, hst6⟩ := hst6.unx (k := 4) rfl (fun _ => rfl)
    replace h_t := h_t.mono hle6
    replace hc6 := hc6.mono hle6
    replace hS := hS.mono hle6
    replace hR := hR.mono hle6
    replace hS2 := hS2.mono hle6
    replace hR2 := hR2.mono hle6
    clear hst5 hfr5 hk6
    dsimp only at hO hth
    have hwO := hth.w hwA hwB
    have hlk := then_same hth (thenR_over twA.apart) twA.same twB.same
    have hap := applyT_then hth t
    obtain ⟨xo, hxo⟩ : ∃ x, x = (alook n o9.ts).getD zeroTy := ⟨_, rfl⟩
    obtain ⟨bo, hbo⟩ : ∃ x, x = (alook n o9.ts).isSome := ⟨_, rfl⟩
    obtain ⟨yo, hyo⟩ : ∃ x, x = (alook n o9.rs).getD zeroRw := ⟨_, rfl⟩
    obtain ⟨co, hco⟩ : ∃ x, x = (alook n o9.rs).isSome := ⟨_, rfl⟩
    refine hK18 _ _ ?_; clear hK18
    refine seq_any fun _ hK21 => ?_
    replace hst6 := hst6.more (r := .free) trivial List.nodup_nil (by simp [Res.blocks])
    refine ra0 (tch := [(3, 5, (fun v => .blk v _)), (4, 5, (fun v => .blkx v _ _))]) hst6 hfr6 (.cons rfl (ob_loadLA (j := 1) rfl rfl Try.isAgg40 Try.sizeOf40 rfl) <| .cons rfl (ob_loadLA (j := 3) rfl rfl Try.isAgg40 Try.sizeOf40 rfl) <| .cons rfl (ob_call (φ := MP.rsub (thenR (saidR l) (saidR k))) rfl (.cons rfl <| .cons rfl <| .nil) Try.call22 (fun w m hK => by have hle_ := KC.le hK; have hA := KC.agree hK; have hR := hR.mono hle_; have hR2 := hR2.mono hle_; exact FnG.mono (rthen_c hA hR hR2 (fun p hp => Nat.le_trans (twA.ts p hp) (by omega)) (fun p hp => Nat.le_trans (twA.rs p hp) (by omega)) (up (by omega) (by omega) twB.w) lenA lenB) fun _ _ _ _ h => h)) <| .consT rfl rfl (fun _ => rfl) rfl (ob_allocL Try.zeroValue40 rfl) <| .consT rfl rfl (fun _ => rfl) rfl (ob_imgT 15 rfl rfl rfl fun y15 => ob_imgTX 59 rfl rfl rfl fun y59 => ob_storeF rfl rfl rfl rfl rfl Try.sizeOf40 rfl rfl rfl) <| .nil) ?_
    intro a7 w7 m7 hst7 hle7 hk7
    have hfr7 := hk7.fr (T' := [(3, _), (6, _), (9, _), (10, _), (12, _), (14, _)]) (.old rfl rfl <| .old rfl rfl <| .old rfl rfl <| .old rfl rfl <| .old rfl rfl <| .old rfl rfl <| .nil)
    obtain ⟨g22, e22, _⟩ := hk7.ex 15 rfl
    replace hfr7 := hfr7.cons e22
    replace hst7 := hst7.fin (L' := [_, _, _, _, _, _]) (.cons e22 <| .cons e22 <| .nil)
    try simp only [List.take_succ_cons, List.take_zero, List.drop_succ_cons, List.drop_zero, List.cons_append, List.nil_append, List.append_nil, List.length_cons, List.length_nil, Nat.zero_add, Nat.reduceAdd] at hst7
    obtain ⟨z5, hW, hst7⟩ := hst7.unx (k := 5) rfl (fun _ => rfl)
    replace h_t := h_t.mono hle7
    replace hc6 := hc6.mono hle7
    replace hS := hS.mono hle7
    replace hS2 := hS2.mono hle7
    replace hO := hO.mono hle7
    clear hst6 hfr6 hk7
    refine hK21 _ _ ?_; clear hK21
    refine seq_any fun _ hK24 => ?_
    replace hst7 := hst7.more (r := .free) trivial List.nodup_nil (by simp [Res.blocks])
    refine ra0 (tch := [(6, 6, (fun v => .blk v _)), (7, 6, (fun v => .blkx v _ _))]) hst7 hfr7 (.cons rfl (ob_loadLA (j := 4) rfl rfl Try.isAgg36 Try.sizeOf36 rfl) <| .cons rfl (ob_move rfl) <| .cons rfl (ob_call (φ := MP.tyb xo bo) rfl (.cons rfl <| .cons rfl <| .nil) Try.call12 (fun w m hK => by have hle_ := KC.le hK; have hA := KC.agree hK; have hO := hO.mono hle_; exact FnG.mono (type_x (s := o9) (q := (q5, q6)) (n := n) hA hO hxo hbo (up (by omega) (by omega) hwO)) fun _ _ _ _ h => h)) <| .cons rfl (ob_imgV 63 rfl rfl rfl fun y63 => ob_move rfl) <| .cons rfl (ob_imgV 60 rfl rfl rfl fun y60 => ob_extract rfl rfl) <| .cons rfl (ob_imgE 60 rfl rfl rfl fun y60 => ob_extract rfl rfl) <| .consT rfl rfl (fun _ => rfl) rfl (ob_allocL Try.zeroValue28 rfl) <| .consT rfl rfl (fun _ => rfl) rfl (ob_imgT 16 rfl rfl rfl fun y16 => ob_imgTX 64 rfl rfl rfl fun y64 => ob_storeF rfl rfl rfl rfl rfl Try.sizeOf28 rfl rfl rfl) <| .cons rfl (ob_assign rfl) <| .nil) ?_
    intro a8 w8 m8 hst8 hle8 hk8
    have hfr8 := hk8.fr (T' := [(3, _), (6, _), (9, _), (10, _), (12, _), (14, _), (15, _), (17, _)]) (.old rfl rfl <| .old rfl rfl <| .old rfl rfl <| .old rfl rfl <| .old rfl rfl <| .old rfl rfl <| .old rfl rfl <| .new rfl <| .nil)
    obtain ⟨g25, e25, _⟩ := hk8.ex 16 rfl
    replace hfr8 := hfr8.cons e25
    replace hst8 := hst8.fin (L' := [_, _, _, _, _, _, _]) (.cons e25 <| .cons e25 <| .nil)
    try simp only [List.take_succ_cons, List.take_zero, List.drop_succ_cons, List.drop_zero, List.cons_append, List.nil_append, List.append_nil, List.length_cons, List.length_nil, Nat.zero_add, Nat.reduceAdd] at hst8
    obtain ⟨⟨⟨oa6, ca6⟩, ol6, cl6⟩, hT6, hst8⟩ := hst8.unx (k := 6) rfl (fun _ => rfl)
    replace h_t := h_t.mono hle8
    replace hc6 := hc6.mono hle8
    replace hS := hS.mono hle8
    replace hS2 := hS2.mono hle8
    replace hO := hO.mono hle8
    replace hW := hW.mono hle8
    clear hst7 hfr7 hk8
    refine hK24 _ _ ?_; clear hK24
    refine seq_any fun _ hK27 => ?_
    replace hst8 := hst8.more (r := .free) trivial List.nodup_nil (by simp [Res.blocks])
    refine ra0 (tch := [(6, 7, (fun v => .blk v _)), (7, 7, (fun v => .blkx v _ _))]) hst8 hfr8 (.cons rfl (ob_loadLA (j := 5) rfl rfl Try.isAgg40 Try.sizeOf40 rfl) <| .cons rfl (ob_move rfl) <| .cons rfl (ob_call (φ := MP.tyb xo bo) rfl (.cons rfl <| .cons rfl <| .nil) Try.call23 (fun w m hK => by have hle_ := KC.le hK; have hA := KC.agree hK; have hW := hW.mono hle_; exact FnG.mono (rtype_x (s := thenR (saidR l) (saidR k)) (n := n) hA hW (by rw [hxo, hlk.1]) (by rw [hbo, hlk.1])) fun _ _ _ _ h => h)) <| .cons rfl (ob_imgV 69 rfl rfl rfl fun y69 => ob_move rfl) <| .cons rfl (ob_imgV 66 rfl rfl rfl fun y66 => ob_extract rfl rfl) <| .cons rfl (ob_imgE 66 rfl rfl rfl fun y66 => ob_extract rfl rfl) <| .consT rfl rfl (fun _ => rfl) rfl (ob_allocL Try.zeroValue28 rfl) <| .consT rfl rfl (fun _ => rfl) rfl (ob_imgT 18 rfl rfl rfl fun y18 => ob_imgTX 70 rfl rfl rfl fun y70 => ob_storeF rfl rfl rfl rfl rfl Try.sizeOf28 rfl rfl rfl) <| .cons rfl (ob_assign rfl) <| .nil) ?_
    intro a9 w9 m9 hst9 hle9 hk9
    have hfr9 := hk9.fr (T' := [(3, _), (6, _), (9, _), (10, _), (12, _), (14, _), (15, _), (17, _), (16, _), (19, _)]) (.old rfl rfl <| .old rfl rfl <| .old rfl rfl <| .old rfl rfl <| .old rfl rfl <| .old rfl rfl <| .old rfl rfl <| .old rfl rfl <| .old rfl rfl <| .new rfl <| .nil)
    obtain ⟨g28, e28, _⟩ := hk9.ex 18 rfl
    replace hfr9 := hfr9.cons e28
    replace hst9 := hst9.fin (L' := [_, _, _, _, _, _, _, _]) (.cons e28 <| .cons e28 <| .nil)
    try simp only [List.take_succ_cons, List.take_zero, List.drop_succ_cons, List.drop_zero, List.cons_append, List.nil_append, List.append_nil, List.length_cons, List.length_nil, Nat.zero_add, Nat.reduceAdd] at hst9
    obtain ⟨⟨⟨oa7, ca7⟩, ol7, cl7⟩, hT7, hst9⟩ := hst9.unx (k := 7) rfl (fun _ => rfl)
    replace h_t := h_t.mono hle9
    replace hc6 := hc6.mono hle9
    replace hS := hS.mono hle9
    replace hS2 := hS2.mono hle9
    replace hO := hO.mono hle9
    replace hW := hW.mono hle9
    replace hT6 := hT6.mono hle9
    clear hst8 hfr8 hk9
    refine hK27 _ _ ?_; clear hK27
    refine seq_any fun _ hK30 => ?_
    replace hst9 := hst9.more (r := .free) trivial List.nodup_nil (by simp [Res.blocks])
    refine ra0 (tch := [(6, 8, (fun v => .blk v _)), (7, 8, (fun v => .blkx v _ _))]) hst9 hfr9 (.cons rfl (ob_loadLA (j := 4) rfl rfl Try.isAgg36 Try.sizeOf36 rfl) <| .cons rfl (ob_move rfl) <| .cons rfl (ob_call (φ := MP.rwb yo co) rfl (.cons rfl <| .cons rfl <| .nil) Try.call13 (fun w m hK => by have hle_ := KC.le hK; have hA := KC.agree hK; have hO := hO.mono hle_; exact FnG.mono (row_x (s := o9) (q := (q5, q6)) (n := n) hA hO hyo hco (up (by omega) (by omega) hwO)) fun _ _ _ _ h => h)) <| .cons rfl (ob_imgV 75 rfl rfl rfl fun y75 => ob_move rfl) <| .cons rfl (ob_imgV 72 rfl rfl rfl fun y72 => ob_extract rfl rfl) <| .cons rfl (ob_imgE 72 rfl rfl rfl fun y72 => ob_extract rfl rfl) <| .consT rfl rfl (fun _ => rfl) rfl (ob_allocL Try.zeroValue26 rfl) <| .consT rfl rfl (fun _ => rfl) rfl (ob_imgT 20 rfl rfl rfl fun y20 => ob_imgTX 76 rfl rfl rfl fun y76 => ob_storeF rfl rfl rfl rfl rfl Try.sizeOf26 rfl rfl rfl) <| .cons rfl (ob_assign rfl) <| .nil) ?_
    intro a10 w10 m10 hst10 hle10 hk10
    have hfr10 := hk10.fr (T' := [(3, _), (6, _), (9, _), (10, _), (12, _), (14, _), (15, _), (17, _), (16, _), (19, _), (18, _), (21, _)]) (.old rfl rfl <| .old rfl rfl <| .old rfl rfl <| .old rfl rfl <| .old rfl rfl <| .old rfl rfl <| .old rfl rfl <| .old rfl rfl <| .old rfl rfl <| .old rfl rfl <| .old rfl rfl <| .new rfl <| .nil)
    obtain ⟨g31, e31, _⟩ := hk10.ex 20 rfl
    replace hfr10 := hfr10.cons e31
    replace hst10 := hst10.fin (L' := [_, _, _, _, _, _, _, _, _]) (.cons e31 <| .cons e31 <| .nil)
    try simp only [List.take_succ_cons, List.take_zero, List.drop_succ_cons, List.drop_zero, List.cons_append, List.nil_append, List.append_nil, List.length_cons, List.length_nil, Nat.zero_add, Nat.reduceAdd] at hst10
    obtain ⟨⟨or8, cr8⟩, hQ8, hst10⟩ := hst10.unx (k := 8) rfl (fun _ => rfl)
    replace h_t := h_t.mono hle10
    replace hc6 := hc6.mono hle10
    replace hS := hS.mono hle10
    replace hS2 := hS2.mono hle10
    replace hO := hO.mono hle10
    replace hW := hW.mono hle10
    replace hT6 := hT6.mono hle10
    replace hT7 := hT7.mono hle10
    clear hst9 hfr9 hk10
    refine hK30 _ _ ?_; clear hK30
    refine seq_any fun _ hK33 => ?_
    replace hst10 := hst10.more (r := .free) trivial List.nodup_nil (by simp [Res.blocks])
    refine ra0 (tch := [(6, 9, (fun v => .blk v _)), (7, 9, (fun v => .blkx v _ _))]) hst10 hfr10 (.cons rfl (ob_loadLA (j := 5) rfl rfl Try.isAgg40 Try.sizeOf40 rfl) <| .cons rfl (ob_move rfl) <| .cons rfl (ob_call (φ := MP.rwb yo co) rfl (.cons rfl <| .cons rfl <| .nil) Try.call24 (fun w m hK => by have hle_ := KC.le hK; have hA := KC.agree hK; have hW := hW.mono hle_; exact FnG.mono (rrow_x (s := thenR (saidR l) (saidR k)) (n := n) hA hW (by rw [hyo, hlk.2]) (by rw [hco, hlk.2])) fun _ _ _ _ h => h)) <| .cons rfl (ob_imgV 81 rfl rfl rfl fun y81 => ob_move rfl) <| .cons rfl (ob_imgV 78 rfl rfl rfl fun y78 => ob_extract rfl rfl) <| .cons rfl (ob_imgE 78 rfl rfl rfl fun y78 => ob_extract rfl rfl) <| .consT rfl rfl (fun _ => rfl) rfl (ob_allocL Try.zeroValue26 rfl) <| .consT rfl rfl (fun _ => rfl) rfl (ob_imgT 22 rfl rfl rfl fun y22 => ob_imgTX 82 rfl rfl rfl fun y82 => ob_storeF rfl rfl rfl rfl rfl Try.sizeOf26 rfl rfl rfl) <| .cons rfl (ob_assign rfl) <| .nil) ?_
    intro a11 w11 m11 hst11 hle11 hk11
    have hfr11 := hk11.fr (T' := [(6, _), (9, _), (10, _), (12, _), (14, _), (17, _), (16, _), (19, _), (18, _), (21, _), (20, _), (23, _)]) (.old rfl rfl <| .old rfl rfl <| .old rfl rfl <| .old rfl rfl <| .old rfl rfl <| .old rfl rfl <| .old rfl rfl <| .old rfl rfl <| .old rfl rfl <| .old rfl rfl <| .old rfl rfl <| .new rfl <| .nil)
    obtain ⟨g34, e34, _⟩ := hk11.ex 22 rfl
    replace hfr11 := hfr11.cons e34
    replace hst11 := hst11.fin (L' := [_, _, _, _, _, _, _, _, _, _]) (.cons e34 <| .cons e34 <| .nil)
    try simp only [List.take_succ_cons, List.take_zero, List.drop_succ_cons, List.drop_zero, List.cons_append, List.nil_append, List.append_nil, List.length_cons, List.length_nil, Nat.zero_add, Nat.reduceAdd] at hst11
    obtain ⟨⟨or9, cr9⟩, hQ9, hst11⟩ := hst11.unx (k := 9) rfl (fun _ => rfl)
    replace h_t := h_t.mono hle11
    replace hc6 := hc6.mono hle11
    replace hS := hS.mono hle11
    replace hS2 := hS2.mono hle11
    replace hO := hO.mono hle11
    replace hT6 := hT6.mono hle11
    replace hT7 := hT7.mono hle11
    replace hQ8 := hQ8.mono hle11
    clear hst10 hfr10 hk11
    refine hK33 _ _ ?_; clear hK33
    refine seq_any fun _ hK36 => ?_
    refine region_plain (fun _ => mixed) hst11 hfr11 (by kernel_rfl) (by kernel_rfl) (.cons rfl (ob_move rfl) <| .cons rfl (ob_move rfl) <| .cons rfl (ob_move rfl) <| .cons rfl (ob_move rfl) <| .cons rfl (ob_beql rfl rfl Try.underlying4) <| .cons rfl (ob_and rfl rfl rfl) <| .cons rfl (ob_move rfl) <| .cons rfl (ob_move rfl) <| .cons rfl (ob_move rfl) <| .cons rfl (ob_beql rfl rfl Try.underlying4) <| .cons rfl (ob_and rfl rfl rfl) <| .cons rfl (ob_move rfl) <| .cons rfl (ob_loadLA (j := 6) rfl rfl Try.isAgg28 Try.sizeOf28 rfl) <| .cons rfl (ob_loadLA (j := 7) rfl rfl Try.isAgg28 Try.sizeOf28 rfl) <| .cons rfl (ob_callE rfl (.cons rfl <| .cons rfl <| .nil) Try.call14 (fun w m hK => by have hle_ := KC.le hK; have hA := KC.agree hK; have hT6 := hT6.mono hle_; have hT7 := hT7.mono hle_; exact sameR_c xo (u := xo) hA hT6 hT7)) <| .cons rfl (ob_and rfl rfl rfl) <| .cons rfl (ob_move rfl) <| .cons rfl (ob_loadLA (j := 8) rfl rfl Try.isAgg26 Try.sizeOf26 rfl) <| .cons rfl (ob_loadLA (j := 9) rfl rfl Try.isAgg26 Try.sizeOf26 rfl) <| .cons rfl (ob_callE rfl (.cons rfl <| .cons rfl <| .nil) Try.call15 (fun w m hK => by have hle_ := KC.le hK; have hA := KC.agree hK; have hQ8 := hQ8.mono hle_; have hQ9 := hQ9.mono hle_; exact sameRowR_c (a := yo) (b := yo) hA hQ8 hQ9)) <| .cons rfl (ob_and rfl rfl rfl) <| .cons rfl (ob_move rfl) <| .cons rfl (ob_loadLA (j := 4) rfl rfl Try.isAgg36 Try.sizeOf36 rfl) <| .cons rfl (ob_loadS' rfl hc6 Try.isAgg28 Try.sizeOf28 rfl rfl) <| .cons rfl (ob_call (φ := MP.ty (applyT o9 t)) rfl (.cons rfl <| .cons rfl <| .nil) Try.call18 (fun w m hK => by have hle_ := KC.le hK; have hA := KC.agree hK; have h_t := h_t.mono hle_; have hO := hO.mono hle_; exact FnG.mono (apply_c t hA hO h_t (up (by omega) (by omega) hwO) (by omega)) fun _ _ _ _ h => h)) <| .cons rfl (ob_loadLA (j := 2) rfl rfl Try.isAgg36 Try.sizeOf36 rfl) <| .cons rfl (ob_loadLA (j := 0) rfl rfl Try.isAgg36 Try.sizeOf36 rfl) <| .cons rfl (ob_loadS' rfl hc6 Try.isAgg28 Try.sizeOf28 rfl rfl) <| .cons rfl (ob_call (φ := MP.ty (applyT (saidS l) t)) rfl (.cons rfl <| .cons rfl <| .nil) Try.call18 (fun w m hK => by have hle_ := KC.le hK; have hA := KC.agree hK; have h_t := h_t.mono hle_; have hS := hS.mono hle_; exact FnG.mono (apply_c t hA hS h_t (up (by omega) (by omega) hwA) (by omega)) fun _ _ _ _ h => h)) <| .cons rfl (ob_imgE 112 rfl rfl rfl fun y112 => ob_call (φ := MP.ty (applyT (saidS k) (applyT (saidS l) t))) rfl (.cons rfl <| .cons rfl <| .nil) Try.call18 (fun w m hK => by have hle_ := KC.le hK; have hA := KC.agree hK; have hr0_ := hK.2; have hS2 := hS2.mono hle_; exact FnG.mono (apply_c (applyT (saidS l) t) hA hS2 hr0_ (up (by omega) (by omega) hwB) (by omega)) fun _ _ _ _ h => h)) <| .cons rfl (ob_imgE 108 rfl rfl rfl fun y108 => ob_imgE 113 rfl rfl rfl fun y113 => ob_callE rfl (.cons rfl <| .cons rfl <| .nil) Try.call14 (fun w m hK => by have hle_ := KC.le hK; have hA := KC.agree hK; have hr0_ := hK.2; have hr1_ := hK.1.2; exact sameR_c (applyT o9 t) (u := applyT (saidS k) (applyT (saidS l) t)) hA hr1_ hr0_)) <| .cons rfl (ob_and rfl rfl rfl) <| .cons rfl (ob_assign rfl) <| .nil) ?_
    intro a12 w12 m12 hst12 hle12 hk12
    have hfr12 := hk12.fr (T' := [(8, _)]) (.new rfl <| .nil)
    clear hst11 hfr11 hk12
    refine hK36 _ _ ?_; clear hK36
    refine wp_ret ?_
    repeat (with_reducible first | refine then_ret ?_ | refine block_ret ?_)
    exact fn_ret hst12 hfr12 rfl (.tmp rfl <| .nil) (by refine congrArg Value.bool ?_; rw [hap]; simp [sameT_refl])

end Go.Proofs.Ytfphefkfbhjfdaa
