/-
  Programs that are right (brocaderef06), terms: right ones have the kids that they must have. Conditions: those of each theorem.
-/
import Derived.Test.YtppmbhjacjmfkaaCheck1
namespace Go.Proofs.Ytppmbhjacjmfkaa
set_option linter.all false
set_option maxRecDepth 4000
open Go.RowKit
def MP.oneB (t : Tm) : MP := MP.mem (fun b : Bool => .bool b) (fun b _ => b = true → kindOk t) fun _ h => h
def MP.termB (t : Tm) : MP := MP.mem (fun y : Int × Bool => .tuple #[.int .i64 y.1, .bool y.2]) (fun y _ => y.2 = true → RtT t) fun _ h => h
def MP.chkB (t : Tm) : MP := MP.mem (fun y : Int × Int => .tuple #[.int .i64 y.1, .int .i64 y.2]) (fun y _ => y.2 = 0 → RtT t) fun _ h => h
set_option maxHeartbeats 400000 in
theorem twice_c {w : World} {m : Mem} {o_l : Option Addr} {c_l : Nat} {l : List Str} (hA : Agree w m) (h_l : Strs m o_l l.length c_l l) : FnV Try.prog 82 #[.slice o_l l.length c_l] w m (fun _ m v => MP.anyB.p m v) := by
  have hb_l := h_l.big; have hc_l := h_l.cap
  refine fn_enter (vs := [_]) Try.func82 rfl rfl rfl fun a0 hfr0 => ?_
  have hst0 := st_enter hA (loc_nil [] _ w m)
  have hM : MLe m m := MLe.refl m
  refine seq_any fun _ hK1 => ?_
  refine rp0 hst0 hfr0 (.cons rfl (ob_assign rfl) <| .nil) ?_
  intro a1 w1 m1 hst1 hle1 hk1
  have hfr1 := hk1.fr (T' := [(0, _)]) (.old rfl rfl <| .nil)
  replace h_l := h_l.mono hle1
  clear hst0 hfr0 hk1
  refine hK1 _ _ ?_; clear hK1
  refine seq_any fun _ hK2 => ?_
  refine seq_any fun _ hK3 => ?_
  refine rp0 hst1 hfr1 (.cons rfl (ob_assign rfl) <| .nil) ?_
  intro a2 w2 m2 hst2 hle2 hk2
  have hfr2 := hk2.fr (T' := [(0, _), (3, _)]) (.old rfl rfl <| .new rfl <| .nil)
  replace h_l := h_l.mono hle2
  clear hst1 hfr1 hk2
  refine hK3 _ _ ?_; clear hK3
  refine wp_block ?_
  refine loop_any (T := [(0, _)]) (fun (y : Nat) => ([(3, .int .i64 (y : Int))] : List (Nat × Value))) (fun _ => _) (fun (y : Nat) m => (y ≤ l.length)) (fun y => l.length - y) (0) ⟨hst2, MLe.refl _, hfr2.sub (.cons rfl <| .cons rfl <| .nil), Nat.zero_le _⟩ fun y a3 w3 m3 hh3 => ?_
  have hst3 := hh3.st; have hle3 := hh3.le; have hfr3 := hh3.fr; have hrel := hh3.rel; clear hh3
  replace h_l := h_l.mono hle3
  clear hst2 hfr2
  have hyn := hrel
  have hlh3 := hle3
  refine seq_any fun _ hK5 => ?_
  refine seq_any fun _ hK6 => ?_
  refine rp0 hst3 hfr3 (.cons rfl (ob_move rfl) <| .cons rfl (ob_move rfl) <| .cons rfl (ob_len rfl Try.underlying27) <| .cons rfl (ob_lss rfl rfl) <| .nil) ?_
  intro a4 w4 m4 hst4 hle4 hk4
  have hfr4 := hk4.fr (T' := [(3, _), (0, _), (7, _)]) (.old rfl rfl <| .old rfl rfl <| .new rfl <| .nil)
  replace h_l := h_l.mono hle4
  have hlh4 := hlh3.trans hle4
  clear hst3 hfr3 hk4
  refine hK6 _ _ ?_; clear hK6
  refine cond_any hfr4 rfl rfl (fun hb7 => ?_) (fun hb7 => ?_)
  · try simp only [nq1, nq2, nq3, nq4, nq5, nq6, nq7, nq8, nq9, u8_eq] at hb7
    refine wp_skip ?_
    refine hK5 _ _ ?_; clear hK5
    refine seq_any fun _ hK7 => ?_
    refine wp_block ?_
    refine seq_any fun _ hK8 => ?_
    obtain ⟨p9, vs9, x9, ho9, hd9, hm_x9, ht9, hcv9, hl9, hv9⟩ := h_l.nth (k := y) (by omega)
    cases ho9
    subst hv9
    have hct10 : Strs _ _ _ _ ((l.take (y)).drop (0)) := h_l.cut (l := 0) (k := y) (by omega) (by omega)
    have hcl10 : (y) - (0) = (((l.take (y)).drop (0))).length := hct10.len.symm
    have hcu10 : Strs _ _ _ _ ((l.take (y)).drop (0)) := hct10.lenL
    refine region_plain (fun _ => mixed) hst4 hfr4 (by kernel_rfl) (by kernel_rfl) (.cons rfl (ob_move rfl) <| .cons rfl (ob_move rfl) <| .cons rfl (ob_indexAddr (k := y) rfl rfl Try.underlying27 Try.sizeOf9 rfl (by omega)) <| .cons rfl (ob_load1' rfl hcv9 Try.isAgg9 rfl) <| .cons rfl (ob_sneq rfl rfl) <| .cons rfl (ob_move rfl) <| .cons rfl (ob_move rfl) <| .cons rfl (ob_move rfl) <| .cons rfl (ob_slice (l := 0) (h := y) rfl .none (.some rfl (by omega)) Try.underlying27 Try.sizeOf9 (by omega) (by omega)) <| .cons rfl (ob_move rfl) <| .cons rfl (ob_move rfl) <| .cons rfl (ob_indexAddr (k := y) rfl rfl Try.underlying27 Try.sizeOf9 rfl (by omega)) <| .cons rfl (ob_load1' rfl hcv9 Try.isAgg9 rfl) <| .cons rfl (ob_callE rfl (.cons rfl <| .cons rfl <| .nil) Try.call15 (fun w m hK => by have hle_ := KC.le hK; have hA := KC.agree hK; have hcu10 := hcu10.mono hle_; exact (by rw [hcl10]; exact in_c hA hcu10))) <| .cons rfl (ob_and rfl rfl rfl) <| .nil) ?_
    intro a5 w5 m5 hst5 hle5 hk5
    have hfr5 := hk5.fr (T' := [(3, _), (0, _), (24, _)]) (.old rfl rfl <| .old rfl rfl <| .new rfl <| .nil)
    have hlh5 := hlh4.trans hle5
    clear hst4 hfr4 hk5
    refine hK8 _ _ ?_; clear hK8
    refine cond_any hfr5 rfl rfl (fun hb24 => ?_) (fun hb24 => ?_)
    · try simp only [nq1, nq2, nq3, nq4, nq5, nq6, nq7, nq8, nq9, u8_eq] at hb24
      refine seq_any fun _ hK11 => ?_
      refine rp0 hst5 hfr5 (.cons rfl (ob_assign rfl) <| .nil) ?_
      intro a6 w6 m6 hst6 hle6 hk6
      have hfr6 := hk6.fr (T' := [(3, _), (2, _)]) (.old rfl rfl <| .new rfl <| .nil)
      have hlh6 := hlh5.trans hle6
      clear hst5 hfr5 hk6
      refine hK11 _ _ ?_; clear hK11
      refine wp_ret ?_
      repeat (with_reducible first | refine then_ret ?_ | refine block_ret ?_)
      exact fn_ret hst6 hfr6 rfl (.tmp rfl <| .nil) (⟨_, rfl, trivial⟩)
    · try simp only [nq1, nq2, nq3, nq4, nq5, nq6, nq7, nq8, nq9, u8_eq] at hb24
      refine wp_skip ?_
      refine hK7 _ _ ?_; clear hK7
      refine rp0 hst5 hfr5 (.cons rfl (ob_move rfl) <| .cons rfl (ob_add rfl rfl ⟨by omega, by omega⟩) <| .cons rfl (ob_assign rfl) <| .nil) ?_
      intro a6 w6 m6 hst6 hle6 hk6
      have hfr6 := hk6.fr (T' := [(0, _), (3, _)]) (.old rfl rfl <| .new rfl <| .nil)
      have hlh6 := hlh5.trans hle6
      clear hst5 hfr5 hk6
      exact ⟨y + 1, m6, by show l.length - (y + 1) < l.length - y; omega, ⟨hst6, hlh6, hfr6.sub (.cons rfl <| .cons rfl <| .nil), by show y + 1 ≤ l.length; omega⟩⟩
  · try simp only [nq1, nq2, nq3, nq4, nq5, nq6, nq7, nq8, nq9, u8_eq] at hb7
    have hge : y = l.length := by omega
    refine wp_exit ?_
    refine hK2 _ _ ?_; clear hK2
    refine seq_any fun _ hK13 => ?_
    refine rp0 hst4 hfr4 (.cons rfl (ob_assign rfl) <| .nil) ?_
    intro a5 w5 m5 hst5 hle5 hk5
    have hfr5 := hk5.fr (T' := [(3, _), (2, _)]) (.old rfl rfl <| .new rfl <| .nil)
    have hlh5 := hlh4.trans hle5
    clear hst4 hfr4 hk5
    refine hK13 _ _ ?_; clear hK13
    refine wp_ret ?_
    repeat (with_reducible first | refine then_ret ?_ | refine block_ret ?_)
    exact fn_ret hst5 hfr5 rfl (.tmp rfl <| .nil) (⟨_, rfl, trivial⟩)

set_option maxHeartbeats 800000 in
theorem handles_c {w : World} {m : Mem} {p : Pg} {vs_p : List Value} {t : Tm} {vs_t : List Value} (hA : Agree w m) (h_p : PgR m p vs_p) (h_t : TmR m t vs_t) (hbo : opsN p.effects ≤ 1000000000) : FnV Try.prog 70 #[.agg vs_p.toArray, .agg vs_t.toArray] w m (fun _ m v => MP.anyB.p m v) := by
  obtain ⟨oE_p, cE_p, oD_p, cD_p, bs_p, rfl, hef_p, hda_p, hpb_p⟩ := id h_p
  have hbe_p := hef_p.big; have hce_p := hef_p.cap; have hbda_p := hda_p.big; have hcd_p := hda_p.cap
  obtain ⟨⟨oK_pb, cK_pb, oA_pb, cA_pb, oR_pb, cR_pb, t0_pb, t1_pb, t2_pb, t3_pb, t4_pb, t5_pb, u0_pb, u1_pb, u2_pb, u3_pb, u4_pb, u5_pb⟩, rfl, hon_pb, hkk_pb, haa_pb, hrr_pb⟩ := hpb_p.open_
  dsimp only at hkk_pb haa_pb hrr_pb
  have hbg_pb := hkk_pb.big; have hcp_pb := hkk_pb.cap; have hbh_pb := haa_pb.big; have hcq_pb := haa_pb.cap
  obtain ⟨⟨oK_t, cK_t, oA_t, cA_t, oR_t, cR_t, t0_t, t1_t, t2_t, t3_t, t4_t, t5_t, u0_t, u1_t, u2_t, u3_t, u4_t, u5_t⟩, rfl, hon_t, hkk_t, haa_t, hrr_t⟩ := h_t.open_
  dsimp only at hkk_t haa_t hrr_t
  have hbg_t := hkk_t.big; have hcp_t := hkk_t.cap; have hbh_t := haa_t.big; have hcq_t := haa_t.cap
  refine fn_enter (vs := [_, _]) Try.func70 rfl rfl rfl fun a0 hfr0 => ?_
  have hst0 := st_enter hA (loc_nil [] _ w m)
  have hM : MLe m m := MLe.refl m
  refine seq_any fun _ hK1 => ?_
  refine rp0 hst0 hfr0 (.cons rfl (ob_box rfl rfl) <| .cons rfl (ob_box rfl rfl) <| .cons rfl (ob_assign rfl) <| .nil) ?_
  intro a1 w1 m1 hst1 hle1 hk1
  have hfr1 := hk1.fr (T' := []) (.nil)
  obtain ⟨g2, e2, hc2⟩ := hk1.ex 2 rfl
  replace hfr1 := hfr1.cons e2
  obtain ⟨g3, e3, hc3⟩ := hk1.ex 3 rfl
  replace hfr1 := hfr1.cons e3
  replace h_p := h_p.mono hle1
  replace haa_t := haa_t.mono hle1
  clear hst0 hfr0 hk1
  refine hK1 _ _ ?_; clear hK1
  refine seq_any fun _ hK4 => ?_
  replace hst1 := hst1.more (r := .free) trivial List.nodup_nil (by simp [Res.blocks])
  refine ra0 (tch := [(7, 0, (fun v => .blk v _)), (8, 0, (fun v => .blkx v _ _))]) hst1 hfr1 (.cons rfl (ob_loadS' rfl hc2 Try.isAgg35 Try.sizeOf35 rfl rfl) <| .cons rfl (ob_fieldAddrO (off := 2) rfl Try.underlying33 rfl rfl Try.sizeOf9 rfl) <| .cons rfl (ob_load1 rfl hc3 Try.isAgg9 rfl) <| .cons rfl (ob_call (φ := MP.efB (opsN p.effects)) rfl (.cons rfl <| .cons rfl <| .nil) Try.call81 (fun w m hK => by have hle_ := KC.le hK; have hA := KC.agree hK; have h_p := h_p.mono hle_; exact FnG.mono (handled_c hA h_p) fun _ _ _ _ h => h)) <| .cons rfl (ob_imgV 13 rfl rfl rfl fun y13 => ob_move rfl) <| .cons rfl (ob_imgV 9 rfl rfl rfl fun y9 => ob_extract rfl rfl) <| .cons rfl (ob_imgV 9 rfl rfl rfl fun y9 => ob_extract rfl rfl) <| .consT rfl rfl (fun _ => rfl) rfl (ob_allocL Try.zeroValue83 rfl) <| .consT rfl rfl (fun _ => rfl) rfl (ob_imgT 5 rfl rfl rfl fun y5 => ob_imgTX 14 rfl rfl rfl fun y14 => ob_storeF rfl rfl rfl rfl rfl Try.sizeOf83 rfl rfl rfl) <| .consA 15 rfl rfl <| .nil) ?_
  intro a2 w2 m2 hst2 hle2 hk2
  have hfr2 := hk2.fr (T' := [(3, _)]) (.old rfl rfl <| .nil)
  obtain ⟨⟨e0, b0⟩, e5, _⟩ := hk2.ex 15 rfl
  obtain ⟨g6, e6, _⟩ := hk2.ex 5 rfl
  replace hfr2 := hfr2.cons e6
  replace hfr2 := hfr2.cons (hk2.same 6 rfl e5)
  replace hst2 := hst2.fin (L' := [_]) (.cons e6 <| .cons e6 <| .nil)
  obtain ⟨⟨⟨ef, oe, ce⟩, be⟩, ⟨hef9, hefl⟩, hst2⟩ := hst2.unx (k := 0) rfl (fun _ => rfl)
  replace haa_t := haa_t.mono hle2
  replace hc3 := hc3.mono hle2
  clear hst1 hfr1 hk2
  dsimp only at hst2 hefl
  have hops : Oss m2 oe ef.ops.length ce ef.ops := by obtain ⟨_, _, e, h⟩ := hef9; simp only [List.cons.injEq, Value.slice.injEq, and_true, true_and] at e; obtain ⟨rfl, rfl⟩ := e; exact h
  have hbo := hops.big
  refine hK4 _ _ ?_; clear hK4
  refine seq_any fun _ hK8 => ?_
  refine seq_any fun _ hK9 => ?_
  rcases Nat.eq_zero_or_pos t.arms.length with hz | hz
  · skip
    refine rp0 hst2 hfr2 (.cons rfl (ob_move rfl) <| .cons rfl (ob_not rfl) <| .cons rfl (ob_move rfl) <| .cons rfl (ob_fieldAddrO (off := 6) rfl Try.underlying33 rfl rfl Try.sizeOf25 rfl) <| .cons rfl (ob_load1 rfl hc3 Try.isAgg25 rfl) <| .cons rfl (ob_len rfl Try.underlying25) <| .cons rfl (ob_fieldAddrO (off := 1) rfl Try.underlying83 rfl rfl Try.sizeOf81 rfl) <| .cons rfl (ob_loadL (j := 0) rfl rfl Try.isAgg81 rfl) <| .cons rfl (ob_len rfl Try.underlying81) <| .cons rfl (ob_add rfl rfl ⟨by omega, by omega⟩) <| .cons rfl (ob_neq rfl rfl) <| .cons rfl (ob_or rfl rfl rfl) <| .cons rfl (ob_move rfl) <| .cons rfl (ob_fieldAddrO (off := 6) rfl Try.underlying33 rfl rfl Try.sizeOf25 rfl) <| .cons rfl (ob_load1 rfl hc3 Try.isAgg25 rfl) <| .cons rfl (ob_guard (κ := .eq (.bool false)) (b := false) 28 rfl rfl (fun h => by first | (simp [hz] at h; done) | (simp [hz] at h; omega))) <| .cons rfl (ob_guard (κ := .eq (.bool false)) (b := false) 28 rfl rfl (fun h => by first | (simp [hz] at h; done) | (simp [hz] at h; omega))) <| .cons rfl (ob_guard (κ := .eq (.bool false)) (b := false) 28 rfl rfl (fun h => by first | (simp [hz] at h; done) | (simp [hz] at h; omega))) <| .cons rfl (ob_guard (κ := .eq (.bool false)) (b := false) 28 rfl rfl (fun h => by first | (simp [hz] at h; done) | (simp [hz] at h; omega))) <| .cons rfl (ob_or rfl rfl rfl) <| .cons rfl (ob_move rfl) <| .cons rfl (ob_fieldAddrO (off := 6) rfl Try.underlying33 rfl rfl Try.sizeOf25 rfl) <| .cons rfl (ob_load1 rfl hc3 Try.isAgg25 rfl) <| .cons rfl (ob_guard (κ := .eq (.bool false)) (b := false) 36 rfl rfl (fun h => by first | (simp [hz] at h; done) | (simp [hz] at h; omega))) <| .cons rfl (ob_guard (κ := .eq (.bool false)) (b := false) 36 rfl rfl (fun h => by first | (simp [hz] at h; done) | (simp [hz] at h; omega))) <| .cons rfl (ob_guard (κ := .eq (.bool false)) (b := false) 36 rfl rfl (fun h => by first | (simp [hz] at h; done) | (simp [hz] at h; omega))) <| .cons rfl (ob_guard (κ := .eq (.bool false)) (b := false) 36 rfl rfl (fun h => by first | (simp [hz] at h; done) | (simp [hz] at h; omega))) <| .cons rfl (ob_guard (κ := .eq (.bool false)) (b := false) 36 rfl rfl (fun h => by first | (simp [hz] at h; done) | (simp [hz] at h; omega))) <| .cons rfl (ob_or rfl rfl rfl) <| .nil) ?_
    intro a3 w3 m3 hst3 hle3 hk3
    have hfr3 := hk3.fr (T' := [(3, _), (5, _), (44, _)]) (.old rfl rfl <| .old rfl rfl <| .new rfl <| .nil)
    replace haa_t := haa_t.mono hle3
    replace hc3 := hc3.mono hle3
    replace hops := hops.mono hle3
    clear hst2 hfr2 hk3
    refine hK9 _ _ ?_; clear hK9
    refine cond_any hfr3 rfl rfl (fun hb44 => ?_) (fun hb44 => ?_)
    · try simp only [nq1, nq2, nq3, nq4, nq5, nq6, nq7, nq8, nq9, u8_eq] at hb44
      refine seq_any fun _ hK10 => ?_
      refine rp0 hst3 hfr3 (.cons rfl (ob_assign rfl) <| .nil) ?_
      intro a4 w4 m4 hst4 hle4 hk4
      have hfr4 := hk4.fr (T' := [(4, _)]) (.new rfl <| .nil)
      clear hst3 hfr3 hk4
      refine hK10 _ _ ?_; clear hK10
      refine wp_ret ?_
      repeat (with_reducible first | refine then_ret ?_ | refine block_ret ?_)
      exact fn_ret hst4 hfr4 rfl (.tmp rfl <| .nil) (⟨_, rfl, trivial⟩)
    · try simp only [nq1, nq2, nq3, nq4, nq5, nq6, nq7, nq8, nq9, u8_eq] at hb44
      have hal : t.arms.length = ef.ops.length + 1 := by omega
      refine wp_skip ?_
      refine hK8 _ _ ?_; clear hK8
      refine seq_any fun _ hK12 => ?_
      refine seq_any fun _ hK13 => ?_
      refine rp0 hst3 hfr3 (.cons rfl (ob_assign rfl) <| .nil) ?_
      intro a4 w4 m4 hst4 hle4 hk4
      have hfr4 := hk4.fr (T' := [(3, _), (5, _), (7, _)]) (.old rfl rfl <| .old rfl rfl <| .new rfl <| .nil)
      replace haa_t := haa_t.mono hle4
      replace hc3 := hc3.mono hle4
      replace hops := hops.mono hle4
      clear hst3 hfr3 hk4
      refine hK13 _ _ ?_; clear hK13
      refine wp_block ?_
      refine loop_any (T := [(3, _), (5, _)]) (fun (y : Nat) => ([(7, .int .i64 (y : Int))] : List (Nat × Value))) (fun _ => _) (fun (y : Nat) m => (y ≤ ef.ops.length)) (fun y => ef.ops.length - y) (0) ⟨hst4, MLe.refl _, hfr4.sub (.cons rfl <| .cons rfl <| .cons rfl <| .nil), Nat.zero_le _⟩ fun y a5 w5 m5 hh5 => ?_
      have hst5 := hh5.st; have hle5 := hh5.le; have hfr5 := hh5.fr; have hrel := hh5.rel; clear hh5
      replace haa_t := haa_t.mono hle5
      replace hc3 := hc3.mono hle5
      replace hops := hops.mono hle5
      clear hst4 hfr4
      have hyn := hrel
      have hlh5 := hle5
      refine seq_any fun _ hK15 => ?_
      refine seq_any fun _ hK16 => ?_
      refine rp0 hst5 hfr5 (.cons rfl (ob_move rfl) <| .cons rfl (ob_fieldAddrO (off := 1) rfl Try.underlying83 rfl rfl Try.sizeOf81 rfl) <| .cons rfl (ob_loadL (j := 0) rfl rfl Try.isAgg81 rfl) <| .cons rfl (ob_len rfl Try.underlying81) <| .cons rfl (ob_lss rfl rfl) <| .nil) ?_
      intro a6 w6 m6 hst6 hle6 hk6
      have hfr6 := hk6.fr (T' := [(7, _), (3, _), (5, _), (49, _)]) (.old rfl rfl <| .old rfl rfl <| .old rfl rfl <| .new rfl <| .nil)
      replace haa_t := haa_t.mono hle6
      replace hc3 := hc3.mono hle6
      replace hops := hops.mono hle6
      have hlh6 := hlh5.trans hle6
      clear hst5 hfr5 hk6
      refine hK16 _ _ ?_; clear hK16
      refine cond_any hfr6 rfl rfl (fun hb49 => ?_) (fun hb49 => ?_)
      · try simp only [nq1, nq2, nq3, nq4, nq5, nq6, nq7, nq8, nq9, u8_eq] at hb49
        refine wp_skip ?_
        refine hK15 _ _ ?_; clear hK15
        refine seq_any fun _ hK17 => ?_
        refine wp_block ?_
        refine seq_any fun _ hK18 => ?_
        obtain ⟨p19, vs19, x19, ho19, hd19, hm_x19, ht19, hcv19, hl19, hv19⟩ := haa_t.nth (k := y + 1) (by omega)
        cases ho19
        obtain ⟨oV19, cV19, bs19, rfl, hva19, hbd19⟩ := hv19.open_
        have hbv19 := hva19.big; have hcv19_ := hva19.cap
        obtain ⟨⟨oK19b, cK19b, oA19b, cA19b, oR19b, cR19b, t019b, t119b, t219b, t319b, t419b, t519b, u019b, u119b, u219b, u319b, u419b, u519b⟩, rfl, hon19b, hkk19b, haa19b, hrr19b⟩ := hbd19.open_
        dsimp only at hkk19b haa19b hrr19b
        have hbg19b := hkk19b.big; have hcp19b := hkk19b.cap; have hbh19b := haa19b.big; have hcq19b := haa19b.cap
        replace hst6 := hst6.more (r := .free) trivial List.nodup_nil (by simp [Res.blocks])
        refine ra0 (tch := [(6, 1, (fun v => .blk v _)), (7, 1, (fun v => .blk v _))]) hst6 hfr6 (.cons rfl (ob_fieldAddrO (off := 6) rfl Try.underlying33 rfl rfl Try.sizeOf25 rfl) <| .cons rfl (ob_load1 rfl hc3 Try.isAgg25 rfl) <| .cons rfl (ob_move rfl) <| .cons rfl (ob_add rfl rfl ⟨by omega, by omega⟩) <| .cons rfl (ob_indexAddr (k := y + 1) rfl rfl Try.underlying25 Try.sizeOf40 (by omega) (by omega)) <| .cons rfl (ob_loadS' rfl hcv19 Try.isAgg40 Try.sizeOf40 rfl rfl) <| .consT rfl rfl (fun _ => rfl) rfl (ob_allocL Try.zeroValue40 rfl) <| .consT rfl rfl (fun _ => rfl) rfl (ob_imgT 8 rfl rfl rfl fun y8 => ob_storeF rfl rfl rfl rfl rfl Try.sizeOf40 rfl rfl hv19.one) <| .nil) ?_
        intro a7 w7 m7 hst7 hle7 hk7
        have hfr7 := hk7.fr (T' := [(7, _), (3, _), (5, _)]) (.old rfl rfl <| .old rfl rfl <| .old rfl rfl <| .nil)
        obtain ⟨g20, e20, _⟩ := hk7.ex 8 rfl
        replace hfr7 := hfr7.cons e20
        replace hst7 := hst7.fin (L' := [_, _]) (.cons e20 <| .cons e20 <| .nil)
        replace hops := hops.mono hle7
        replace hva19 := hva19.mono hle7
        have hlh7 := hlh6.trans hle7
        clear hst6 hfr6 hk7
        refine hK18 _ _ ?_; clear hK18
        refine seq_any fun _ hK21 => ?_
        by_cases hz : x19.vars.length = 2
        · skip
          obtain ⟨p22, vs22, x22, ho22, hd22, hm_x22, ht22, hcv22, hl22, hv22⟩ := hops.nth (k := y) (by omega)
          cases ho22
          obtain ⟨as22, rs22, rfl, hoa22, hob22⟩ := id hv22
          obtain ⟨o22a, c22a, oL22a, cL22a, rfl, hkd22a, hs22a, hi22a, hj22a, hr22a⟩ := hoa22.open_
          have hbg22a := hkd22a.big; have hcp22a := hkd22a.cap; have hbs22a := hs22a.big; have hcs22a := hs22a.cap
          have hrw22a : RwR _ ⟨x22.arg.labels, x22.arg.rv⟩ _ := ⟨_, _, rfl, hs22a, hr22a⟩
          obtain ⟨o22r, c22r, oL22r, cL22r, rfl, hkd22r, hs22r, hi22r, hj22r, hr22r⟩ := hob22.open_
          have hbg22r := hkd22r.big; have hcp22r := hkd22r.cap; have hbs22r := hs22r.big; have hcs22r := hs22r.cap
          have hrw22r : RwR _ ⟨x22.res.labels, x22.res.rv⟩ _ := ⟨_, _, rfl, hs22r, hr22r⟩
          obtain ⟨p23, vs23, x23, ho23, hd23, hm_x23, ht23, hcv23, hl23, hv23⟩ := hva19.nth (k := 0) (by omega)
          cases ho23
          subst hv23
          obtain ⟨p24, vs24, x24, ho24, hd24, hm_x24, ht24, hcv24, hl24, hv24⟩ := hva19.nth (k := 1) (by omega)
          cases ho24
          subst hv24
          refine region_plain (fun _ => mixed) hst7 hfr7 (by kernel_rfl) (by kernel_rfl) (.cons rfl (ob_fieldAddrO (off := 0) rfl Try.underlying40 rfl rfl Try.sizeOf9 rfl) <| .cons rfl (ob_loadL (j := 1) rfl rfl Try.isAgg9 rfl) <| .cons rfl (ob_fieldAddrO (off := 1) rfl Try.underlying83 rfl rfl Try.sizeOf81 rfl) <| .cons rfl (ob_loadL (j := 0) rfl rfl Try.isAgg81 rfl) <| .cons rfl (ob_move rfl) <| .cons rfl (ob_indexAddr (k := y) rfl rfl Try.underlying81 Try.sizeOf85 rfl (by omega)) <| .cons rfl (ob_fieldAddrO (off := 0) rfl Try.underlying85 rfl rfl Try.sizeOf9 rfl) <| .cons rfl (ob_load1 rfl hcv22 Try.isAgg9 rfl) <| .cons rfl (ob_sneq rfl rfl) <| .cons rfl (ob_move rfl) <| .cons rfl (ob_fieldAddrO (off := 1) rfl Try.underlying40 rfl rfl Try.sizeOf27 rfl) <| .cons rfl (ob_loadL (j := 1) rfl rfl Try.isAgg27 rfl) <| .cons rfl (ob_len rfl Try.underlying27) <| .cons rfl (ob_neq rfl rfl) <| .cons rfl (ob_or rfl rfl rfl) <| .cons rfl (ob_move rfl) <| .cons rfl (ob_fieldAddrO (off := 1) rfl Try.underlying40 rfl rfl Try.sizeOf27 rfl) <| .cons rfl (ob_loadL (j := 1) rfl rfl Try.isAgg27 rfl) <| .cons rfl (ob_indexAddr (k := 0) rfl rfl Try.underlying27 Try.sizeOf9 rfl (by omega)) <| .cons rfl (ob_load1' rfl hcv23 Try.isAgg9 rfl) <| .cons rfl (ob_fieldAddrO (off := 1) rfl Try.underlying40 rfl rfl Try.sizeOf27 rfl) <| .cons rfl (ob_loadL (j := 1) rfl rfl Try.isAgg27 rfl) <| .cons rfl (ob_indexAddr (k := 1) rfl rfl Try.underlying27 Try.sizeOf9 rfl (by omega)) <| .cons rfl (ob_load1' rfl hcv24 Try.isAgg9 rfl) <| .cons rfl (ob_seql rfl rfl) <| .cons rfl (ob_or rfl rfl rfl) <| .nil) ?_
          intro a8 w8 m8 hst8 hle8 hk8
          have hfr8 := hk8.fr (T' := [(7, _), (3, _), (5, _), (83, _)]) (.old rfl rfl <| .old rfl rfl <| .old rfl rfl <| .new rfl <| .nil)
          have hlh8 := hlh7.trans hle8
          clear hst7 hfr7 hk8
          refine hK21 _ _ ?_; clear hK21
          refine cond_any hfr8 rfl rfl (fun hb83 => ?_) (fun hb83 => ?_)
          · try simp only [nq1, nq2, nq3, nq4, nq5, nq6, nq7, nq8, nq9, u8_eq] at hb83
            refine seq_any fun _ hK25 => ?_
            refine rp0 hst8 hfr8 (.cons rfl (ob_assign rfl) <| .nil) ?_
            intro a9 w9 m9 hst9 hle9 hk9
            have hfr9 := hk9.fr (T' := [(7, _), (4, _)]) (.old rfl rfl <| .new rfl <| .nil)
            have hlh9 := hlh8.trans hle9
            clear hst8 hfr8 hk9
            refine hK25 _ _ ?_; clear hK25
            refine wp_ret ?_
            repeat (with_reducible first | refine then_ret ?_ | refine block_ret ?_)
            exact fn_ret hst9 hfr9 rfl (.tmp rfl <| .nil) (⟨_, rfl, trivial⟩)
          · try simp only [nq1, nq2, nq3, nq4, nq5, nq6, nq7, nq8, nq9, u8_eq] at hb83
            refine wp_skip ?_
            refine hK17 _ _ ?_; clear hK17
            refine rp0 hst8 hfr8 (.cons rfl (ob_move rfl) <| .cons rfl (ob_add rfl rfl ⟨by omega, by omega⟩) <| .cons rfl (ob_assign rfl) <| .nil) ?_
            intro a9 w9 m9 hst9 hle9 hk9
            have hfr9 := hk9.fr (T' := [(3, _), (5, _), (7, _)]) (.old rfl rfl <| .old rfl rfl <| .new rfl <| .nil)
            have hlh9 := hlh8.trans hle9
            clear hst8 hfr8 hk9
            have hst9 := hst9.take 1
            exact ⟨y + 1, m9, by show ef.ops.length - (y + 1) < ef.ops.length - y; omega, ⟨hst9, hlh9, hfr9.sub (.cons rfl <| .cons rfl <| .cons rfl <| .nil), by show y + 1 ≤ ef.ops.length; omega⟩⟩
        · skip
          obtain ⟨p27, vs27, x27, ho27, hd27, hm_x27, ht27, hcv27, hl27, hv27⟩ := hops.nth (k := y) (by omega)
          cases ho27
          obtain ⟨as27, rs27, rfl, hoa27, hob27⟩ := id hv27
          obtain ⟨o27a, c27a, oL27a, cL27a, rfl, hkd27a, hs27a, hi27a, hj27a, hr27a⟩ := hoa27.open_
          have hbg27a := hkd27a.big; have hcp27a := hkd27a.cap; have hbs27a := hs27a.big; have hcs27a := hs27a.cap
          have hrw27a : RwR _ ⟨x27.arg.labels, x27.arg.rv⟩ _ := ⟨_, _, rfl, hs27a, hr27a⟩
          obtain ⟨o27r, c27r, oL27r, cL27r, rfl, hkd27r, hs27r, hi27r, hj27r, hr27r⟩ := hob27.open_
          have hbg27r := hkd27r.big; have hcp27r := hkd27r.cap; have hbs27r := hs27r.big; have hcs27r := hs27r.cap
          have hrw27r : RwR _ ⟨x27.res.labels, x27.res.rv⟩ _ := ⟨_, _, rfl, hs27r, hr27r⟩
          refine region_plain (fun _ => mixed) hst7 hfr7 (by kernel_rfl) (by kernel_rfl) (.cons rfl (ob_fieldAddrO (off := 0) rfl Try.underlying40 rfl rfl Try.sizeOf9 rfl) <| .cons rfl (ob_loadL (j := 1) rfl rfl Try.isAgg9 rfl) <| .cons rfl (ob_fieldAddrO (off := 1) rfl Try.underlying83 rfl rfl Try.sizeOf81 rfl) <| .cons rfl (ob_loadL (j := 0) rfl rfl Try.isAgg81 rfl) <| .cons rfl (ob_move rfl) <| .cons rfl (ob_indexAddr (k := y) rfl rfl Try.underlying81 Try.sizeOf85 rfl (by omega)) <| .cons rfl (ob_fieldAddrO (off := 0) rfl Try.underlying85 rfl rfl Try.sizeOf9 rfl) <| .cons rfl (ob_load1 rfl hcv27 Try.isAgg9 rfl) <| .cons rfl (ob_sneq rfl rfl) <| .cons rfl (ob_move rfl) <| .cons rfl (ob_fieldAddrO (off := 1) rfl Try.underlying40 rfl rfl Try.sizeOf27 rfl) <| .cons rfl (ob_loadL (j := 1) rfl rfl Try.isAgg27 rfl) <| .cons rfl (ob_len rfl Try.underlying27) <| .cons rfl (ob_neq rfl rfl) <| .cons rfl (ob_or rfl rfl rfl) <| .cons rfl (ob_move rfl) <| .cons rfl (ob_fieldAddrO (off := 1) rfl Try.underlying40 rfl rfl Try.sizeOf27 rfl) <| .cons rfl (ob_loadL (j := 1) rfl rfl Try.isAgg27 rfl) <| .cons rfl (ob_guard (κ := .eq (.bool false)) (b := false) 73 rfl rfl (fun h => by first | (simp [hz] at h; done) | (simp [hz] at h; omega))) <| .cons rfl (ob_guard (κ := .eq (.bool false)) (b := false) 73 rfl rfl (fun h => by first | (simp [hz] at h; done) | (simp [hz] at h; omega))) <| .cons rfl (ob_fieldAddrO (off := 1) rfl Try.underlying40 rfl rfl Try.sizeOf27 rfl) <| .cons rfl (ob_loadL (j := 1) rfl rfl Try.isAgg27 rfl) <| .cons rfl (ob_guard (κ := .eq (.bool false)) (b := false) 73 rfl rfl (fun h => by first | (simp [hz] at h; done) | (simp [hz] at h; omega))) <| .cons rfl (ob_guard (κ := .eq (.bool false)) (b := false) 73 rfl rfl (fun h => by first | (simp [hz] at h; done) | (simp [hz] at h; omega))) <| .cons rfl (ob_guard (κ := .eq (.bool false)) (b := false) 73 rfl rfl (fun h => by first | (simp [hz] at h; done) | (simp [hz] at h; omega))) <| .cons rfl (ob_or rfl rfl rfl) <| .nil) ?_
          intro a8 w8 m8 hst8 hle8 hk8
          have hfr8 := hk8.fr (T' := [(7, _), (3, _), (5, _), (83, _)]) (.old rfl rfl <| .old rfl rfl <| .old rfl rfl <| .new rfl <| .nil)
          have hlh8 := hlh7.trans hle8
          clear hst7 hfr7 hk8
          refine hK21 _ _ ?_; clear hK21
          refine cond_any hfr8 rfl rfl (fun hb83 => ?_) (fun hb83 => ?_)
          · try simp only [nq1, nq2, nq3, nq4, nq5, nq6, nq7, nq8, nq9, u8_eq] at hb83
            refine seq_any fun _ hK28 => ?_
            refine rp0 hst8 hfr8 (.cons rfl (ob_assign rfl) <| .nil) ?_
            intro a9 w9 m9 hst9 hle9 hk9
            have hfr9 := hk9.fr (T' := [(7, _), (4, _)]) (.old rfl rfl <| .new rfl <| .nil)
            have hlh9 := hlh8.trans hle9
            clear hst8 hfr8 hk9
            refine hK28 _ _ ?_; clear hK28
            refine wp_ret ?_
            repeat (with_reducible first | refine then_ret ?_ | refine block_ret ?_)
            exact fn_ret hst9 hfr9 rfl (.tmp rfl <| .nil) (⟨_, rfl, trivial⟩)
          · try simp only [nq1, nq2, nq3, nq4, nq5, nq6, nq7, nq8, nq9, u8_eq] at hb83
            refine wp_skip ?_
            refine hK17 _ _ ?_; clear hK17
            refine rp0 hst8 hfr8 (.cons rfl (ob_move rfl) <| .cons rfl (ob_add rfl rfl ⟨by omega, by omega⟩) <| .cons rfl (ob_assign rfl) <| .nil) ?_
            intro a9 w9 m9 hst9 hle9 hk9
            have hfr9 := hk9.fr (T' := [(3, _), (5, _), (7, _)]) (.old rfl rfl <| .old rfl rfl <| .new rfl <| .nil)
            have hlh9 := hlh8.trans hle9
            clear hst8 hfr8 hk9
            have hst9 := hst9.take 1
            exact ⟨y + 1, m9, by show ef.ops.length - (y + 1) < ef.ops.length - y; omega, ⟨hst9, hlh9, hfr9.sub (.cons rfl <| .cons rfl <| .cons rfl <| .nil), by show y + 1 ≤ ef.ops.length; omega⟩⟩
      · try simp only [nq1, nq2, nq3, nq4, nq5, nq6, nq7, nq8, nq9, u8_eq] at hb49
        have hge : y = ef.ops.length := by omega
        refine wp_exit ?_
        refine hK12 _ _ ?_; clear hK12
        refine seq_any fun _ hK30 => ?_
        refine rp0 hst6 hfr6 (.cons rfl (ob_assign rfl) <| .nil) ?_
        intro a7 w7 m7 hst7 hle7 hk7
        have hfr7 := hk7.fr (T' := [(7, _), (4, _)]) (.old rfl rfl <| .new rfl <| .nil)
        have hlh7 := hlh6.trans hle7
        clear hst6 hfr6 hk7
        refine hK30 _ _ ?_; clear hK30
        refine wp_ret ?_
        repeat (with_reducible first | refine then_ret ?_ | refine block_ret ?_)
        exact fn_ret hst7 hfr7 rfl (.tmp rfl <| .nil) (⟨_, rfl, trivial⟩)
  · skip
    obtain ⟨p32, vs32, x32, ho32, hd32, hm_x32, ht32, hcv32, hl32, hv32⟩ := haa_t.nth (k := 0) (by omega)
    cases ho32
    obtain ⟨oV32, cV32, bs32, rfl, hva32, hbd32⟩ := hv32.open_
    have hbv32 := hva32.big; have hcv32_ := hva32.cap
    obtain ⟨⟨oK32b, cK32b, oA32b, cA32b, oR32b, cR32b, t032b, t132b, t232b, t332b, t432b, t532b, u032b, u132b, u232b, u332b, u432b, u532b⟩, rfl, hon32b, hkk32b, haa32b, hrr32b⟩ := hbd32.open_
    dsimp only at hkk32b haa32b hrr32b
    have hbg32b := hkk32b.big; have hcp32b := hkk32b.cap; have hbh32b := haa32b.big; have hcq32b := haa32b.cap
    refine rp0 hst2 hfr2 (.cons rfl (ob_move rfl) <| .cons rfl (ob_not rfl) <| .cons rfl (ob_move rfl) <| .cons rfl (ob_fieldAddrO (off := 6) rfl Try.underlying33 rfl rfl Try.sizeOf25 rfl) <| .cons rfl (ob_load1 rfl hc3 Try.isAgg25 rfl) <| .cons rfl (ob_len rfl Try.underlying25) <| .cons rfl (ob_fieldAddrO (off := 1) rfl Try.underlying83 rfl rfl Try.sizeOf81 rfl) <| .cons rfl (ob_loadL (j := 0) rfl rfl Try.isAgg81 rfl) <| .cons rfl (ob_len rfl Try.underlying81) <| .cons rfl (ob_add rfl rfl ⟨by omega, by omega⟩) <| .cons rfl (ob_neq rfl rfl) <| .cons rfl (ob_or rfl rfl rfl) <| .cons rfl (ob_move rfl) <| .cons rfl (ob_fieldAddrO (off := 6) rfl Try.underlying33 rfl rfl Try.sizeOf25 rfl) <| .cons rfl (ob_load1 rfl hc3 Try.isAgg25 rfl) <| .cons rfl (ob_indexAddr (k := 0) rfl rfl Try.underlying25 Try.sizeOf40 rfl (by omega)) <| .cons rfl (ob_fieldAddrO (off := 0) rfl Try.underlying40 rfl rfl Try.sizeOf9 rfl) <| .cons rfl (ob_load1 rfl hcv32 Try.isAgg9 rfl) <| .cons rfl (ob_sneq rfl rfl) <| .cons rfl (ob_or rfl rfl rfl) <| .cons rfl (ob_move rfl) <| .cons rfl (ob_fieldAddrO (off := 6) rfl Try.underlying33 rfl rfl Try.sizeOf25 rfl) <| .cons rfl (ob_load1 rfl hc3 Try.isAgg25 rfl) <| .cons rfl (ob_indexAddr (k := 0) rfl rfl Try.underlying25 Try.sizeOf40 rfl (by omega)) <| .cons rfl (ob_fieldAddrO (off := 1) rfl Try.underlying40 rfl rfl Try.sizeOf27 rfl) <| .cons rfl (ob_load1 rfl hcv32 Try.isAgg27 rfl) <| .cons rfl (ob_len rfl Try.underlying27) <| .cons rfl (ob_neq rfl rfl) <| .cons rfl (ob_or rfl rfl rfl) <| .nil) ?_
    intro a3 w3 m3 hst3 hle3 hk3
    have hfr3 := hk3.fr (T' := [(3, _), (5, _), (44, _)]) (.old rfl rfl <| .old rfl rfl <| .new rfl <| .nil)
    replace haa_t := haa_t.mono hle3
    replace hc3 := hc3.mono hle3
    replace hops := hops.mono hle3
    clear hst2 hfr2 hk3
    refine hK9 _ _ ?_; clear hK9
    refine cond_any hfr3 rfl rfl (fun hb44 => ?_) (fun hb44 => ?_)
    · try simp only [nq1, nq2, nq3, nq4, nq5, nq6, nq7, nq8, nq9, u8_eq] at hb44
      refine seq_any fun _ hK33 => ?_
      refine rp0 hst3 hfr3 (.cons rfl (ob_assign rfl) <| .nil) ?_
      intro a4 w4 m4 hst4 hle4 hk4
      have hfr4 := hk4.fr (T' := [(4, _)]) (.new rfl <| .nil)
      clear hst3 hfr3 hk4
      refine hK33 _ _ ?_; clear hK33
      refine wp_ret ?_
      repeat (with_reducible first | refine then_ret ?_ | refine block_ret ?_)
      exact fn_ret hst4 hfr4 rfl (.tmp rfl <| .nil) (⟨_, rfl, trivial⟩)
    · try simp only [nq1, nq2, nq3, nq4, nq5, nq6, nq7, nq8, nq9, u8_eq] at hb44
      have hal : t.arms.length = ef.ops.length + 1 := by omega
      refine wp_skip ?_
      refine hK8 _ _ ?_; clear hK8
      refine seq_any fun _ hK35 => ?_
      refine seq_any fun _ hK36 => ?_
      refine rp0 hst3 hfr3 (.cons rfl (ob_assign rfl) <| .nil) ?_
      intro a4 w4 m4 hst4 hle4 hk4
      have hfr4 := hk4.fr (T' := [(3, _), (5, _), (7, _)]) (.old rfl rfl <| .old rfl rfl <| .new rfl <| .nil)
      replace haa_t := haa_t.mono hle4
      replace hc3 := hc3.mono hle4
      replace hops := hops.mono hle4
      clear hst3 hfr3 hk4
      refine hK36 _ _ ?_; clear hK36
      refine wp_block ?_
      refine loop_any (T := [(3, _), (5, _)]) (fun (y : Nat) => ([(7, .int .i64 (y : Int))] : List (Nat × Value))) (fun _ => _) (fun (y : Nat) m => (y ≤ ef.ops.length)) (fun y => ef.ops.length - y) (0) ⟨hst4, MLe.refl _, hfr4.sub (.cons rfl <| .cons rfl <| .cons rfl <| .nil), Nat.zero_le _⟩ fun y a5 w5 m5 hh5 => ?_
      have hst5 := hh5.st; have hle5 := hh5.le; have hfr5 := hh5.fr; have hrel := hh5.rel; clear hh5
      replace haa_t := haa_t.mono hle5
      replace hc3 := hc3.mono hle5
      replace hops := hops.mono hle5
      clear hst4 hfr4
      have hyn := hrel
      have hlh5 := hle5
      refine seq_any fun _ hK38 => ?_
      refine seq_any fun _ hK39 => ?_
      refine rp0 hst5 hfr5 (.cons rfl (ob_move rfl) <| .cons rfl (ob_fieldAddrO (off := 1) rfl Try.underlying83 rfl rfl Try.sizeOf81 rfl) <| .cons rfl (ob_loadL (j := 0) rfl rfl Try.isAgg81 rfl) <| .cons rfl (ob_len rfl Try.underlying81) <| .cons rfl (ob_lss rfl rfl) <| .nil) ?_
      intro a6 w6 m6 hst6 hle6 hk6
      have hfr6 := hk6.fr (T' := [(7, _), (3, _), (5, _), (49, _)]) (.old rfl rfl <| .old rfl rfl <| .old rfl rfl <| .new rfl <| .nil)
      replace haa_t := haa_t.mono hle6
      replace hc3 := hc3.mono hle6
      replace hops := hops.mono hle6
      have hlh6 := hlh5.trans hle6
      clear hst5 hfr5 hk6
      refine hK39 _ _ ?_; clear hK39
      refine cond_any hfr6 rfl rfl (fun hb49 => ?_) (fun hb49 => ?_)
      · try simp only [nq1, nq2, nq3, nq4, nq5, nq6, nq7, nq8, nq9, u8_eq] at hb49
        refine wp_skip ?_
        refine hK38 _ _ ?_; clear hK38
        refine seq_any fun _ hK40 => ?_
        refine wp_block ?_
        refine seq_any fun _ hK41 => ?_
        obtain ⟨p42, vs42, x42, ho42, hd42, hm_x42, ht42, hcv42, hl42, hv42⟩ := haa_t.nth (k := y + 1) (by omega)
        cases ho42
        obtain ⟨oV42, cV42, bs42, rfl, hva42, hbd42⟩ := hv42.open_
        have hbv42 := hva42.big; have hcv42_ := hva42.cap
        obtain ⟨⟨oK42b, cK42b, oA42b, cA42b, oR42b, cR42b, t042b, t142b, t242b, t342b, t442b, t542b, u042b, u142b, u242b, u342b, u442b, u542b⟩, rfl, hon42b, hkk42b, haa42b, hrr42b⟩ := hbd42.open_
        dsimp only at hkk42b haa42b hrr42b
        have hbg42b := hkk42b.big; have hcp42b := hkk42b.cap; have hbh42b := haa42b.big; have hcq42b := haa42b.cap
        replace hst6 := hst6.more (r := .free) trivial List.nodup_nil (by simp [Res.blocks])
        refine ra0 (tch := [(6, 1, (fun v => .blk v _)), (7, 1, (fun v => .blk v _))]) hst6 hfr6 (.cons rfl (ob_fieldAddrO (off := 6) rfl Try.underlying33 rfl rfl Try.sizeOf25 rfl) <| .cons rfl (ob_load1 rfl hc3 Try.isAgg25 rfl) <| .cons rfl (ob_move rfl) <| .cons rfl (ob_add rfl rfl ⟨by omega, by omega⟩) <| .cons rfl (ob_indexAddr (k := y + 1) rfl rfl Try.underlying25 Try.sizeOf40 (by omega) (by omega)) <| .cons rfl (ob_loadS' rfl hcv42 Try.isAgg40 Try.sizeOf40 rfl rfl) <| .consT rfl rfl (fun _ => rfl) rfl (ob_allocL Try.zeroValue40 rfl) <| .consT rfl rfl (fun _ => rfl) rfl (ob_imgT 8 rfl rfl rfl fun y8 => ob_storeF rfl rfl rfl rfl rfl Try.sizeOf40 rfl rfl hv42.one) <| .nil) ?_
        intro a7 w7 m7 hst7 hle7 hk7
        have hfr7 := hk7.fr (T' := [(7, _), (3, _), (5, _)]) (.old rfl rfl <| .old rfl rfl <| .old rfl rfl <| .nil)
        obtain ⟨g43, e43, _⟩ := hk7.ex 8 rfl
        replace hfr7 := hfr7.cons e43
        replace hst7 := hst7.fin (L' := [_, _]) (.cons e43 <| .cons e43 <| .nil)
        replace hops := hops.mono hle7
        replace hva42 := hva42.mono hle7
        have hlh7 := hlh6.trans hle7
        clear hst6 hfr6 hk7
        refine hK41 _ _ ?_; clear hK41
        refine seq_any fun _ hK44 => ?_
        by_cases hz : x42.vars.length = 2
        · skip
          obtain ⟨p45, vs45, x45, ho45, hd45, hm_x45, ht45, hcv45, hl45, hv45⟩ := hops.nth (k := y) (by omega)
          cases ho45
          obtain ⟨as45, rs45, rfl, hoa45, hob45⟩ := id hv45
          obtain ⟨o45a, c45a, oL45a, cL45a, rfl, hkd45a, hs45a, hi45a, hj45a, hr45a⟩ := hoa45.open_
          have hbg45a := hkd45a.big; have hcp45a := hkd45a.cap; have hbs45a := hs45a.big; have hcs45a := hs45a.cap
          have hrw45a : RwR _ ⟨x45.arg.labels, x45.arg.rv⟩ _ := ⟨_, _, rfl, hs45a, hr45a⟩
          obtain ⟨o45r, c45r, oL45r, cL45r, rfl, hkd45r, hs45r, hi45r, hj45r, hr45r⟩ := hob45.open_
          have hbg45r := hkd45r.big; have hcp45r := hkd45r.cap; have hbs45r := hs45r.big; have hcs45r := hs45r.cap
          have hrw45r : RwR _ ⟨x45.res.labels, x45.res.rv⟩ _ := ⟨_, _, rfl, hs45r, hr45r⟩
          obtain ⟨p46, vs46, x46, ho46, hd46, hm_x46, ht46, hcv46, hl46, hv46⟩ := hva42.nth (k := 0) (by omega)
          cases ho46
          subst hv46
          obtain ⟨p47, vs47, x47, ho47, hd47, hm_x47, ht47, hcv47, hl47, hv47⟩ := hva42.nth (k := 1) (by omega)
          cases ho47
          subst hv47
          refine region_plain (fun _ => mixed) hst7 hfr7 (by kernel_rfl) (by kernel_rfl) (.cons rfl (ob_fieldAddrO (off := 0) rfl Try.underlying40 rfl rfl Try.sizeOf9 rfl) <| .cons rfl (ob_loadL (j := 1) rfl rfl Try.isAgg9 rfl) <| .cons rfl (ob_fieldAddrO (off := 1) rfl Try.underlying83 rfl rfl Try.sizeOf81 rfl) <| .cons rfl (ob_loadL (j := 0) rfl rfl Try.isAgg81 rfl) <| .cons rfl (ob_move rfl) <| .cons rfl (ob_indexAddr (k := y) rfl rfl Try.underlying81 Try.sizeOf85 rfl (by omega)) <| .cons rfl (ob_fieldAddrO (off := 0) rfl Try.underlying85 rfl rfl Try.sizeOf9 rfl) <| .cons rfl (ob_load1 rfl hcv45 Try.isAgg9 rfl) <| .cons rfl (ob_sneq rfl rfl) <| .cons rfl (ob_move rfl) <| .cons rfl (ob_fieldAddrO (off := 1) rfl Try.underlying40 rfl rfl Try.sizeOf27 rfl) <| .cons rfl (ob_loadL (j := 1) rfl rfl Try.isAgg27 rfl) <| .cons rfl (ob_len rfl Try.underlying27) <| .cons rfl (ob_neq rfl rfl) <| .cons rfl (ob_or rfl rfl rfl) <| .cons rfl (ob_move rfl) <| .cons rfl (ob_fieldAddrO (off := 1) rfl Try.underlying40 rfl rfl Try.sizeOf27 rfl) <| .cons rfl (ob_loadL (j := 1) rfl rfl Try.isAgg27 rfl) <| .cons rfl (ob_indexAddr (k := 0) rfl rfl Try.underlying27 Try.sizeOf9 rfl (by omega)) <| .cons rfl (ob_load1' rfl hcv46 Try.isAgg9 rfl) <| .cons rfl (ob_fieldAddrO (off := 1) rfl Try.underlying40 rfl rfl Try.sizeOf27 rfl) <| .cons rfl (ob_loadL (j := 1) rfl rfl Try.isAgg27 rfl) <| .cons rfl (ob_indexAddr (k := 1) rfl rfl Try.underlying27 Try.sizeOf9 rfl (by omega)) <| .cons rfl (ob_load1' rfl hcv47 Try.isAgg9 rfl) <| .cons rfl (ob_seql rfl rfl) <| .cons rfl (ob_or rfl rfl rfl) <| .nil) ?_
          intro a8 w8 m8 hst8 hle8 hk8
          have hfr8 := hk8.fr (T' := [(7, _), (3, _), (5, _), (83, _)]) (.old rfl rfl <| .old rfl rfl <| .old rfl rfl <| .new rfl <| .nil)
          have hlh8 := hlh7.trans hle8
          clear hst7 hfr7 hk8
          refine hK44 _ _ ?_; clear hK44
          refine cond_any hfr8 rfl rfl (fun hb83 => ?_) (fun hb83 => ?_)
          · try simp only [nq1, nq2, nq3, nq4, nq5, nq6, nq7, nq8, nq9, u8_eq] at hb83
            refine seq_any fun _ hK48 => ?_
            refine rp0 hst8 hfr8 (.cons rfl (ob_assign rfl) <| .nil) ?_
            intro a9 w9 m9 hst9 hle9 hk9
            have hfr9 := hk9.fr (T' := [(7, _), (4, _)]) (.old rfl rfl <| .new rfl <| .nil)
            have hlh9 := hlh8.trans hle9
            clear hst8 hfr8 hk9
            refine hK48 _ _ ?_; clear hK48
            refine wp_ret ?_
            repeat (with_reducible first | refine then_ret ?_ | refine block_ret ?_)
            exact fn_ret hst9 hfr9 rfl (.tmp rfl <| .nil) (⟨_, rfl, trivial⟩)
          · try simp only [nq1, nq2, nq3, nq4, nq5, nq6, nq7, nq8, nq9, u8_eq] at hb83
            refine wp_skip ?_
            refine hK40 _ _ ?_; clear hK40
            refine rp0 hst8 hfr8 (.cons rfl (ob_move rfl) <| .cons rfl (ob_add rfl rfl ⟨by omega, by omega⟩) <| .cons rfl (ob_assign rfl) <| .nil) ?_
            intro a9 w9 m9 hst9 hle9 hk9
            have hfr9 := hk9.fr (T' := [(3, _), (5, _), (7, _)]) (.old rfl rfl <| .old rfl rfl <| .new rfl <| .nil)
            have hlh9 := hlh8.trans hle9
            clear hst8 hfr8 hk9
            have hst9 := hst9.take 1
            exact ⟨y + 1, m9, by show ef.ops.length - (y + 1) < ef.ops.length - y; omega, ⟨hst9, hlh9, hfr9.sub (.cons rfl <| .cons rfl <| .cons rfl <| .nil), by show y + 1 ≤ ef.ops.length; omega⟩⟩
        · skip
          obtain ⟨p50, vs50, x50, ho50, hd50, hm_x50, ht50, hcv50, hl50, hv50⟩ := hops.nth (k := y) (by omega)
          cases ho50
          obtain ⟨as50, rs50, rfl, hoa50, hob50⟩ := id hv50
          obtain ⟨o50a, c50a, oL50a, cL50a, rfl, hkd50a, hs50a, hi50a, hj50a, hr50a⟩ := hoa50.open_
          have hbg50a := hkd50a.big; have hcp50a := hkd50a.cap; have hbs50a := hs50a.big; have hcs50a := hs50a.cap
          have hrw50a : RwR _ ⟨x50.arg.labels, x50.arg.rv⟩ _ := ⟨_, _, rfl, hs50a, hr50a⟩
          obtain ⟨o50r, c50r, oL50r, cL50r, rfl, hkd50r, hs50r, hi50r, hj50r, hr50r⟩ := hob50.open_
          have hbg50r := hkd50r.big; have hcp50r := hkd50r.cap; have hbs50r := hs50r.big; have hcs50r := hs50r.cap
          have hrw50r : RwR _ ⟨x50.res.labels, x50.res.rv⟩ _ := ⟨_, _, rfl, hs50r, hr50r⟩
          refine region_plain (fun _ => mixed) hst7 hfr7 (by kernel_rfl) (by kernel_rfl) (.cons rfl (ob_fieldAddrO (off := 0) rfl Try.underlying40 rfl rfl Try.sizeOf9 rfl) <| .cons rfl (ob_loadL (j := 1) rfl rfl Try.isAgg9 rfl) <| .cons rfl (ob_fieldAddrO (off := 1) rfl Try.underlying83 rfl rfl Try.sizeOf81 rfl) <| .cons rfl (ob_loadL (j := 0) rfl rfl Try.isAgg81 rfl) <| .cons rfl (ob_move rfl) <| .cons rfl (ob_indexAddr (k := y) rfl rfl Try.underlying81 Try.sizeOf85 rfl (by omega)) <| .cons rfl (ob_fieldAddrO (off := 0) rfl Try.underlying85 rfl rfl Try.sizeOf9 rfl) <| .cons rfl (ob_load1 rfl hcv50 Try.isAgg9 rfl) <| .cons rfl (ob_sneq rfl rfl) <| .cons rfl (ob_move rfl) <| .cons rfl (ob_fieldAddrO (off := 1) rfl Try.underlying40 rfl rfl Try.sizeOf27 rfl) <| .cons rfl (ob_loadL (j := 1) rfl rfl Try.isAgg27 rfl) <| .cons rfl (ob_len rfl Try.underlying27) <| .cons rfl (ob_neq rfl rfl) <| .cons rfl (ob_or rfl rfl rfl) <| .cons rfl (ob_move rfl) <| .cons rfl (ob_fieldAddrO (off := 1) rfl Try.underlying40 rfl rfl Try.sizeOf27 rfl) <| .cons rfl (ob_loadL (j := 1) rfl rfl Try.isAgg27 rfl) <| .cons rfl (ob_guard (κ := .eq (.bool false)) (b := false) 73 rfl rfl (fun h => by first | (simp [hz] at h; done) | (simp [hz] at h; omega))) <| .cons rfl (ob_guard (κ := .eq (.bool false)) (b := false) 73 rfl rfl (fun h => by first | (simp [hz] at h; done) | (simp [hz] at h; omega))) <| .cons rfl (ob_fieldAddrO (off := 1) rfl Try.underlying40 rfl rfl Try.sizeOf27 rfl) <| .cons rfl (ob_loadL (j := 1) rfl rfl Try.isAgg27 rfl) <| .cons rfl (ob_guard (κ := .eq (.bool false)) (b := false) 73 rfl rfl (fun h => by first | (simp [hz] at h; done) | (simp [hz] at h; omega))) <| .cons rfl (ob_guard (κ := .eq (.bool false)) (b := false) 73 rfl rfl (fun h => by first | (simp [hz] at h; done) | (simp [hz] at h; omega))) <| .cons rfl (ob_guard (κ := .eq (.bool false)) (b := false) 73 rfl rfl (fun h => by first | (simp [hz] at h; done) | (simp [hz] at h; omega))) <| .cons rfl (ob_or rfl rfl rfl) <| .nil) ?_
          intro a8 w8 m8 hst8 hle8 hk8
          have hfr8 := hk8.fr (T' := [(7, _), (3, _), (5, _), (83, _)]) (.old rfl rfl <| .old rfl rfl <| .old rfl rfl <| .new rfl <| .nil)
          have hlh8 := hlh7.trans hle8
          clear hst7 hfr7 hk8
          refine hK44 _ _ ?_; clear hK44
          refine cond_any hfr8 rfl rfl (fun hb83 => ?_) (fun hb83 => ?_)
          · try simp only [nq1, nq2, nq3, nq4, nq5, nq6, nq7, nq8, nq9, u8_eq] at hb83
            refine seq_any fun _ hK51 => ?_
            refine rp0 hst8 hfr8 (.cons rfl (ob_assign rfl) <| .nil) ?_
            intro a9 w9 m9 hst9 hle9 hk9
            have hfr9 := hk9.fr (T' := [(7, _), (4, _)]) (.old rfl rfl <| .new rfl <| .nil)
            have hlh9 := hlh8.trans hle9
            clear hst8 hfr8 hk9
            refine hK51 _ _ ?_; clear hK51
            refine wp_ret ?_
            repeat (with_reducible first | refine then_ret ?_ | refine block_ret ?_)
            exact fn_ret hst9 hfr9 rfl (.tmp rfl <| .nil) (⟨_, rfl, trivial⟩)
          · try simp only [nq1, nq2, nq3, nq4, nq5, nq6, nq7, nq8, nq9, u8_eq] at hb83
            refine wp_skip ?_
            refine hK40 _ _ ?_; clear hK40
            refine rp0 hst8 hfr8 (.cons rfl (ob_move rfl) <| .cons rfl (ob_add rfl rfl ⟨by omega, by omega⟩) <| .cons rfl (ob_assign rfl) <| .nil) ?_
            intro a9 w9 m9 hst9 hle9 hk9
            have hfr9 := hk9.fr (T' := [(3, _), (5, _), (7, _)]) (.old rfl rfl <| .old rfl rfl <| .new rfl <| .nil)
            have hlh9 := hlh8.trans hle9
            clear hst8 hfr8 hk9
            have hst9 := hst9.take 1
            exact ⟨y + 1, m9, by show ef.ops.length - (y + 1) < ef.ops.length - y; omega, ⟨hst9, hlh9, hfr9.sub (.cons rfl <| .cons rfl <| .cons rfl <| .nil), by show y + 1 ≤ ef.ops.length; omega⟩⟩
      · try simp only [nq1, nq2, nq3, nq4, nq5, nq6, nq7, nq8, nq9, u8_eq] at hb49
        have hge : y = ef.ops.length := by omega
        refine wp_exit ?_
        refine hK35 _ _ ?_; clear hK35
        refine seq_any fun _ hK53 => ?_
        refine rp0 hst6 hfr6 (.cons rfl (ob_assign rfl) <| .nil) ?_
        intro a7 w7 m7 hst7 hle7 hk7
        have hfr7 := hk7.fr (T' := [(7, _), (4, _)]) (.old rfl rfl <| .new rfl <| .nil)
        have hlh7 := hlh6.trans hle7
        clear hst6 hfr6 hk7
        refine hK53 _ _ ?_; clear hK53
        refine wp_ret ?_
        repeat (with_reducible first | refine then_ret ?_ | refine block_ret ?_)
        exact fn_ret hst7 hfr7 rfl (.tmp rfl <| .nil) (⟨_, rfl, trivial⟩)

set_option maxHeartbeats 800000 in
theorem matches_c {w : World} {m : Mem} {p : Pg} {vs_p : List Value} {t : Tm} {vs_t : List Value} (hA : Agree w m) (h_p : PgR m p vs_p) (h_t : TmR m t vs_t) : FnV Try.prog 71 #[.agg vs_p.toArray, .agg vs_t.toArray] w m (fun _ m v => MP.anyB.p m v) := by
  obtain ⟨oE_p, cE_p, oD_p, cD_p, bs_p, rfl, hef_p, hda_p, hpb_p⟩ := id h_p
  have hbe_p := hef_p.big; have hce_p := hef_p.cap; have hbda_p := hda_p.big; have hcd_p := hda_p.cap
  obtain ⟨⟨oK_pb, cK_pb, oA_pb, cA_pb, oR_pb, cR_pb, t0_pb, t1_pb, t2_pb, t3_pb, t4_pb, t5_pb, u0_pb, u1_pb, u2_pb, u3_pb, u4_pb, u5_pb⟩, rfl, hon_pb, hkk_pb, haa_pb, hrr_pb⟩ := hpb_p.open_
  dsimp only at hkk_pb haa_pb hrr_pb
  have hbg_pb := hkk_pb.big; have hcp_pb := hkk_pb.cap; have hbh_pb := haa_pb.big; have hcq_pb := haa_pb.cap
  obtain ⟨⟨oK_t, cK_t, oA_t, cA_t, oR_t, cR_t, t0_t, t1_t, t2_t, t3_t, t4_t, t5_t, u0_t, u1_t, u2_t, u3_t, u4_t, u5_t⟩, rfl, hon_t, hkk_t, haa_t, hrr_t⟩ := h_t.open_
  dsimp only at hkk_t haa_t hrr_t
  have hbg_t := hkk_t.big; have hcp_t := hkk_t.cap; have hbh_t := haa_t.big; have hcq_t := haa_t.cap
  refine fn_enter (vs := [_, _]) Try.func71 rfl rfl rfl fun a0 hfr0 => ?_
  have hst0 := st_enter hA (loc_nil [] _ w m)
  have hM : MLe m m := MLe.refl m
  refine seq_any fun _ hK1 => ?_
  refine rp0 hst0 hfr0 (.cons rfl (ob_box rfl rfl) <| .cons rfl (ob_box rfl rfl) <| .cons rfl (ob_assign rfl) <| .nil) ?_
  intro a1 w1 m1 hst1 hle1 hk1
  have hfr1 := hk1.fr (T' := []) (.nil)
  obtain ⟨g2, e2, hc2⟩ := hk1.ex 2 rfl
  replace hfr1 := hfr1.cons e2
  obtain ⟨g3, e3, hc3⟩ := hk1.ex 3 rfl
  replace hfr1 := hfr1.cons e3
  replace h_p := h_p.mono hle1
  replace hef_p := hef_p.mono hle1
  replace hda_p := hda_p.mono hle1
  replace hpb_p := hpb_p.mono hle1
  replace hkk_pb := hkk_pb.mono hle1
  replace haa_pb := haa_pb.mono hle1
  replace hrr_pb := hrr_pb.mono hle1
  replace h_t := h_t.mono hle1
  replace hkk_t := hkk_t.mono hle1
  replace haa_t := haa_t.mono hle1
  replace hrr_t := hrr_t.mono hle1
  clear hst0 hfr0 hk1
  refine hK1 _ _ ?_; clear hK1
  refine seq_any fun _ hK4 => ?_
  refine seq_any fun _ hK5 => ?_
  refine rp0 hst1 hfr1 (.cons rfl (ob_fieldAddrO (off := 6) rfl Try.underlying33 rfl rfl Try.sizeOf25 rfl) <| .cons rfl (ob_load1 rfl hc3 Try.isAgg25 rfl) <| .cons rfl (ob_len rfl Try.underlying25) <| .cons rfl (ob_eql rfl rfl) <| .nil) ?_
  intro a2 w2 m2 hst2 hle2 hk2
  have hfr2 := hk2.fr (T' := [(2, _), (3, _), (12, _)]) (.old rfl rfl <| .old rfl rfl <| .new rfl <| .nil)
  replace h_p := h_p.mono hle2
  replace hef_p := hef_p.mono hle2
  replace hda_p := hda_p.mono hle2
  replace hpb_p := hpb_p.mono hle2
  replace hkk_pb := hkk_pb.mono hle2
  replace haa_pb := haa_pb.mono hle2
  replace hrr_pb := hrr_pb.mono hle2
  replace h_t := h_t.mono hle2
  replace hkk_t := hkk_t.mono hle2
  replace haa_t := haa_t.mono hle2
  replace hrr_t := hrr_t.mono hle2
  replace hc2 := hc2.mono hle2
  replace hc3 := hc3.mono hle2
  clear hst1 hfr1 hk2
  refine hK5 _ _ ?_; clear hK5
  refine cond_any hfr2 rfl rfl (fun hb12 => ?_) (fun hb12 => ?_)
  · try simp only [nq1, nq2, nq3, nq4, nq5, nq6, nq7, nq8, nq9, u8_eq] at hb12
    refine seq_any fun _ hK6 => ?_
    refine rp0 hst2 hfr2 (.cons rfl (ob_assign rfl) <| .nil) ?_
    intro a3 w3 m3 hst3 hle3 hk3
    have hfr3 := hk3.fr (T' := [(4, _)]) (.new rfl <| .nil)
    clear hst2 hfr2 hk3
    refine hK6 _ _ ?_; clear hK6
    refine wp_ret ?_
    repeat (with_reducible first | refine then_ret ?_ | refine block_ret ?_)
    exact fn_ret hst3 hfr3 rfl (.tmp rfl <| .nil) (⟨_, rfl, trivial⟩)
  · try simp only [nq1, nq2, nq3, nq4, nq5, nq6, nq7, nq8, nq9, u8_eq] at hb12
    refine wp_skip ?_
    refine hK4 _ _ ?_; clear hK4
    refine seq_any fun _ hK8 => ?_
    obtain ⟨p9, vs9, x9, ho9, hd9, hm_x9, ht9, hcv9, hl9, hv9⟩ := haa_t.nth (k := 0) (by omega)
    cases ho9
    obtain ⟨oV9, cV9, bs9, rfl, hva9, hbd9⟩ := hv9.open_
    have hbv9 := hva9.big; have hcv9_ := hva9.cap
    obtain ⟨⟨oK9b, cK9b, oA9b, cA9b, oR9b, cR9b, t09b, t19b, t29b, t39b, t49b, t59b, u09b, u19b, u29b, u39b, u49b, u59b⟩, rfl, hon9b, hkk9b, haa9b, hrr9b⟩ := hbd9.open_
    dsimp only at hkk9b haa9b hrr9b
    have hbg9b := hkk9b.big; have hcp9b := hkk9b.cap; have hbh9b := haa9b.big; have hcq9b := haa9b.cap
    replace hst2 := hst2.more (r := .free) trivial List.nodup_nil (by simp [Res.blocks])
    replace hst2 := hst2.more (r := .free) trivial List.nodup_nil (by simp [Res.blocks])
    refine region_any (tch := [(11, 0, (fun v => .blk v _)), (12, 1, (fun v => .blk v _)), (13, 0, (fun v => .blkx v _ _)), (14, 1, (fun v => .blkx v _ _))]) (fun _ => mixed) hst2 hfr2 (by kernel_rfl) (by kernel_rfl) (by kernel_rfl) (.cons rfl (ob_loadS' rfl hc2 Try.isAgg35 Try.sizeOf35 rfl rfl) <| .cons rfl (ob_fieldAddrO (off := 6) rfl Try.underlying33 rfl rfl Try.sizeOf25 rfl) <| .cons rfl (ob_load1 rfl hc3 Try.isAgg25 rfl) <| .cons rfl (ob_indexAddr (k := 0) rfl rfl Try.underlying25 Try.sizeOf40 rfl (by omega)) <| .cons rfl (ob_fieldAddrO (off := 0) rfl Try.underlying40 rfl rfl Try.sizeOf9 rfl) <| .cons rfl (ob_load1 rfl hcv9 Try.isAgg9 rfl) <| .cons rfl (ob_call (φ := MP.daB) rfl (.cons rfl <| .cons rfl <| .nil) Try.call73 (fun w m hK => by have hle_ := KC.le hK; have hA := KC.agree hK; have h_p := h_p.mono hle_; exact FnG.mono (con_c hA h_p) fun _ _ _ _ h => h)) <| .cons rfl (ob_imgV 20 rfl rfl rfl fun y20 => ob_move rfl) <| .cons rfl (ob_imgV 13 rfl rfl rfl fun y13 => ob_extract rfl rfl) <| .cons rfl (ob_imgV 13 rfl rfl rfl fun y13 => ob_extract rfl rfl) <| .cons rfl (ob_imgV 13 rfl rfl rfl fun y13 => ob_extract rfl rfl) <| .consT rfl rfl (fun _ => rfl) rfl (ob_allocL Try.zeroValue89 rfl) <| .consT rfl rfl (fun _ => rfl) rfl (ob_allocL Try.zeroValue91 rfl) <| .consT rfl rfl (fun _ => rfl) rfl (ob_imgT 5 rfl rfl rfl fun y5 => ob_imgTX 21 rfl rfl rfl fun y21 => ob_storeF rfl rfl rfl rfl rfl Try.sizeOf89 rfl rfl rfl) <| .consT rfl rfl (fun _ => rfl) rfl (ob_imgT 6 rfl rfl rfl fun y6 => ob_imgTX 22 rfl rfl rfl fun y22 => ob_storeF rfl rfl rfl rfl rfl Try.sizeOf91 rfl rfl rfl) <| .consA 23 rfl rfl <| .nil) ?_
    intro a3 w3 m3 hst3 hle3 hk3
    have hfr3 := hk3.fr (T' := [(3, _)]) (.old rfl rfl <| .nil)
    obtain ⟨⟨yq, yr, b0⟩, e10, _⟩ := hk3.ex 23 rfl
    obtain ⟨g11, e11, _⟩ := hk3.ex 5 rfl
    replace hfr3 := hfr3.cons e11
    obtain ⟨g12, e12, _⟩ := hk3.ex 6 rfl
    replace hfr3 := hfr3.cons (hk3.same 7 rfl e10)
    replace hst3 := hst3.fin (L' := [_, _]) (.cons e11 <| .cons e12 <| .cons e11 <| .cons e12 <| .nil)
    obtain ⟨⟨⟨da, oa9, ca9⟩, cs9, bb9⟩, ⟨hda9, hcs9⟩, hst3⟩ := hst3.unx (k := 0) rfl (fun _ => rfl)
    obtain ⟨⟨ya9, cs8, bc9⟩, ⟨hda8, hcs8⟩, hst3⟩ := hst3.unx (k := 1) rfl (fun _ => rfl)
    replace h_p := h_p.mono hle3
    replace hef_p := hef_p.mono hle3
    replace hda_p := hda_p.mono hle3
    replace hpb_p := hpb_p.mono hle3
    replace hkk_pb := hkk_pb.mono hle3
    replace haa_pb := haa_pb.mono hle3
    replace hrr_pb := hrr_pb.mono hle3
    replace h_t := h_t.mono hle3
    replace hkk_t := hkk_t.mono hle3
    replace haa_t := haa_t.mono hle3
    replace hrr_t := hrr_t.mono hle3
    replace hc2 := hc2.mono hle3
    replace hc3 := hc3.mono hle3
    replace hcv9 := hcv9.mono hle3
    replace hv9 := hv9.mono hle3
    replace hva9 := hva9.mono hle3
    replace hbd9 := hbd9.mono hle3
    replace hkk9b := hkk9b.mono hle3
    replace haa9b := haa9b.mono hle3
    replace hrr9b := hrr9b.mono hle3
    clear hst2 hfr2 hk3
    dsimp only at hst3
    have hcons : Css m3 oa9 da.cons.length ca9 da.cons := by obtain ⟨_, _, e, h⟩ := hda9; simp only [List.cons.injEq, Value.slice.injEq, and_true, true_and] at e; obtain ⟨rfl, rfl⟩ := e; exact h
    have hbo := hcons.big
    refine hK8 _ _ ?_; clear hK8
    refine seq_any fun _ hK15 => ?_
    refine seq_any fun _ hK16 => ?_
    refine rp0 hst3 hfr3 (.cons rfl (ob_move rfl) <| .cons rfl (ob_not rfl) <| .cons rfl (ob_move rfl) <| .cons rfl (ob_fieldAddrO (off := 1) rfl Try.underlying89 rfl rfl Try.sizeOf87 rfl) <| .cons rfl (ob_loadL (j := 0) rfl rfl Try.isAgg87 rfl) <| .cons rfl (ob_len rfl Try.underlying87) <| .cons rfl (ob_fieldAddrO (off := 6) rfl Try.underlying33 rfl rfl Try.sizeOf25 rfl) <| .cons rfl (ob_load1 rfl hc3 Try.isAgg25 rfl) <| .cons rfl (ob_len rfl Try.underlying25) <| .cons rfl (ob_neq rfl rfl) <| .cons rfl (ob_or rfl rfl rfl) <| .nil) ?_
    intro a4 w4 m4 hst4 hle4 hk4
    have hfr4 := hk4.fr (T' := [(3, _), (5, _), (34, _)]) (.old rfl rfl <| .old rfl rfl <| .new rfl <| .nil)
    replace h_p := h_p.mono hle4
    replace hef_p := hef_p.mono hle4
    replace hda_p := hda_p.mono hle4
    replace hpb_p := hpb_p.mono hle4
    replace hkk_pb := hkk_pb.mono hle4
    replace haa_pb := haa_pb.mono hle4
    replace hrr_pb := hrr_pb.mono hle4
    replace h_t := h_t.mono hle4
    replace hkk_t := hkk_t.mono hle4
    replace haa_t := haa_t.mono hle4
    replace hrr_t := hrr_t.mono hle4
    replace hc2 := hc2.mono hle4
    replace hc3 := hc3.mono hle4
    replace hcv9 := hcv9.mono hle4
    replace hv9 := hv9.mono hle4
    replace hva9 := hva9.mono hle4
    replace hbd9 := hbd9.mono hle4
    replace hkk9b := hkk9b.mono hle4
    replace haa9b := haa9b.mono hle4
    replace hrr9b := hrr9b.mono hle4
    replace hda9 := hda9.mono hle4
    replace hcons := hcons.mono hle4
    clear hst3 hfr3 hk4
    refine hK16 _ _ ?_; clear hK16
    refine cond_any hfr4 rfl rfl (fun hb34 => ?_) (fun hb34 => ?_)
    · try simp only [nq1, nq2, nq3, nq4, nq5, nq6, nq7, nq8, nq9, u8_eq] at hb34
      refine seq_any fun _ hK17 => ?_
      refine rp0 hst4 hfr4 (.cons rfl (ob_assign rfl) <| .nil) ?_
      intro a5 w5 m5 hst5 hle5 hk5
      have hfr5 := hk5.fr (T' := [(4, _)]) (.new rfl <| .nil)
      clear hst4 hfr4 hk5
      refine hK17 _ _ ?_; clear hK17
      refine wp_ret ?_
      repeat (with_reducible first | refine then_ret ?_ | refine block_ret ?_)
      exact fn_ret hst5 hfr5 rfl (.tmp rfl <| .nil) (⟨_, rfl, trivial⟩)
    · try simp only [nq1, nq2, nq3, nq4, nq5, nq6, nq7, nq8, nq9, u8_eq] at hb34
      have hal : t.arms.length = da.cons.length := by omega
      refine wp_skip ?_
      refine hK15 _ _ ?_; clear hK15
      refine seq_any fun _ hK19 => ?_
      refine seq_any fun _ hK20 => ?_
      refine rp0 hst4 hfr4 (.cons rfl (ob_assign rfl) <| .nil) ?_
      intro a5 w5 m5 hst5 hle5 hk5
      have hfr5 := hk5.fr (T' := [(3, _), (5, _), (8, _)]) (.old rfl rfl <| .old rfl rfl <| .new rfl <| .nil)
      replace h_p := h_p.mono hle5
      replace hef_p := hef_p.mono hle5
      replace hda_p := hda_p.mono hle5
      replace hpb_p := hpb_p.mono hle5
      replace hkk_pb := hkk_pb.mono hle5
      replace haa_pb := haa_pb.mono hle5
      replace hrr_pb := hrr_pb.mono hle5
      replace h_t := h_t.mono hle5
      replace hkk_t := hkk_t.mono hle5
      replace haa_t := haa_t.mono hle5
      replace hrr_t := hrr_t.mono hle5
      replace hc2 := hc2.mono hle5
      replace hc3 := hc3.mono hle5
      replace hcv9 := hcv9.mono hle5
      replace hv9 := hv9.mono hle5
      replace hva9 := hva9.mono hle5
      replace hbd9 := hbd9.mono hle5
      replace hkk9b := hkk9b.mono hle5
      replace haa9b := haa9b.mono hle5
      replace hrr9b := hrr9b.mono hle5
      replace hda9 := hda9.mono hle5
      replace hcons := hcons.mono hle5
      clear hst4 hfr4 hk5
      refine hK20 _ _ ?_; clear hK20
      refine wp_block ?_
      refine loop_any (T := [(3, _), (5, _)]) (fun (y : Nat) => ([(8, .int .i64 (y : Int))] : List (Nat × Value))) (fun _ => _) (fun (y : Nat) m => (y ≤ da.cons.length)) (fun y => da.cons.length - y) (0) ⟨hst5, MLe.refl _, hfr5.sub (.cons rfl <| .cons rfl <| .cons rfl <| .nil), Nat.zero_le _⟩ fun y a6 w6 m6 hh6 => ?_
      have hst6 := hh6.st; have hle6 := hh6.le; have hfr6 := hh6.fr; have hrel := hh6.rel; clear hh6
      replace h_p := h_p.mono hle6
      replace hef_p := hef_p.mono hle6
      replace hda_p := hda_p.mono hle6
      replace hpb_p := hpb_p.mono hle6
      replace hkk_pb := hkk_pb.mono hle6
      replace haa_pb := haa_pb.mono hle6
      replace hrr_pb := hrr_pb.mono hle6
      replace h_t := h_t.mono hle6
      replace hkk_t := hkk_t.mono hle6
      replace haa_t := haa_t.mono hle6
      replace hrr_t := hrr_t.mono hle6
      replace hc2 := hc2.mono hle6
      replace hc3 := hc3.mono hle6
      replace hcv9 := hcv9.mono hle6
      replace hv9 := hv9.mono hle6
      replace hva9 := hva9.mono hle6
      replace hbd9 := hbd9.mono hle6
      replace hkk9b := hkk9b.mono hle6
      replace haa9b := haa9b.mono hle6
      replace hrr9b := hrr9b.mono hle6
      replace hda9 := hda9.mono hle6
      replace hcons := hcons.mono hle6
      clear hst5 hfr5
      have hyn := hrel
      have hlh6 := hle6
      refine seq_any fun _ hK22 => ?_
      refine seq_any fun _ hK23 => ?_
      refine rp0 hst6 hfr6 (.cons rfl (ob_move rfl) <| .cons rfl (ob_fieldAddrO (off := 1) rfl Try.underlying89 rfl rfl Try.sizeOf87 rfl) <| .cons rfl (ob_loadL (j := 0) rfl rfl Try.isAgg87 rfl) <| .cons rfl (ob_len rfl Try.underlying87) <| .cons rfl (ob_lss rfl rfl) <| .nil) ?_
      intro a7 w7 m7 hst7 hle7 hk7
      have hfr7 := hk7.fr (T' := [(8, _), (3, _), (5, _), (39, _)]) (.old rfl rfl <| .old rfl rfl <| .old rfl rfl <| .new rfl <| .nil)
      replace h_p := h_p.mono hle7
      replace hef_p := hef_p.mono hle7
      replace hda_p := hda_p.mono hle7
      replace hpb_p := hpb_p.mono hle7
      replace hkk_pb := hkk_pb.mono hle7
      replace haa_pb := haa_pb.mono hle7
      replace hrr_pb := hrr_pb.mono hle7
      replace h_t := h_t.mono hle7
      replace hkk_t := hkk_t.mono hle7
      replace haa_t := haa_t.mono hle7
      replace hrr_t := hrr_t.mono hle7
      replace hc2 := hc2.mono hle7
      replace hc3 := hc3.mono hle7
      replace hcv9 := hcv9.mono hle7
      replace hv9 := hv9.mono hle7
      replace hva9 := hva9.mono hle7
      replace hbd9 := hbd9.mono hle7
      replace hkk9b := hkk9b.mono hle7
      replace haa9b := haa9b.mono hle7
      replace hrr9b := hrr9b.mono hle7
      replace hda9 := hda9.mono hle7
      replace hcons := hcons.mono hle7
      have hlh7 := hlh6.trans hle7
      clear hst6 hfr6 hk7
      refine hK23 _ _ ?_; clear hK23
      refine cond_any hfr7 rfl rfl (fun hb39 => ?_) (fun hb39 => ?_)
      · try simp only [nq1, nq2, nq3, nq4, nq5, nq6, nq7, nq8, nq9, u8_eq] at hb39
        refine wp_skip ?_
        refine hK22 _ _ ?_; clear hK22
        refine seq_any fun _ hK24 => ?_
        refine wp_block ?_
        refine seq_any fun _ hK25 => ?_
        obtain ⟨p26, vs26, x26, ho26, hd26, hm_x26, ht26, hcv26, hl26, hv26⟩ := haa_t.nth (k := y) (by omega)
        cases ho26
        obtain ⟨oV26, cV26, bs26, rfl, hva26, hbd26⟩ := hv26.open_
        have hbv26 := hva26.big; have hcv26_ := hva26.cap
        obtain ⟨⟨oK26b, cK26b, oA26b, cA26b, oR26b, cR26b, t026b, t126b, t226b, t326b, t426b, t526b, u026b, u126b, u226b, u326b, u426b, u526b⟩, rfl, hon26b, hkk26b, haa26b, hrr26b⟩ := hbd26.open_
        dsimp only at hkk26b haa26b hrr26b
        have hbg26b := hkk26b.big; have hcp26b := hkk26b.cap; have hbh26b := haa26b.big; have hcq26b := haa26b.cap
        obtain ⟨p27, vs27, x27, ho27, hd27, hm_x27, ht27, hcv27, hl27, hv27⟩ := hcons.nth (k := y) (by omega)
        cases ho27
        obtain ⟨oF27, cF27, rfl, hfl27⟩ := id hv27
        have hbf27 := hfl27.big; have hcf27 := hfl27.cap
        refine region_plain (fun _ => mixed) hst7 hfr7 (by kernel_rfl) (by kernel_rfl) (.cons rfl (ob_fieldAddrO (off := 6) rfl Try.underlying33 rfl rfl Try.sizeOf25 rfl) <| .cons rfl (ob_load1 rfl hc3 Try.isAgg25 rfl) <| .cons rfl (ob_move rfl) <| .cons rfl (ob_indexAddr (k := y) rfl rfl Try.underlying25 Try.sizeOf40 rfl (by omega)) <| .cons rfl (ob_fieldAddrO (off := 0) rfl Try.underlying40 rfl rfl Try.sizeOf9 rfl) <| .cons rfl (ob_load1 rfl hcv26 Try.isAgg9 rfl) <| .cons rfl (ob_fieldAddrO (off := 1) rfl Try.underlying89 rfl rfl Try.sizeOf87 rfl) <| .cons rfl (ob_loadL (j := 0) rfl rfl Try.isAgg87 rfl) <| .cons rfl (ob_move rfl) <| .cons rfl (ob_indexAddr (k := y) rfl rfl Try.underlying87 Try.sizeOf91 rfl (by omega)) <| .cons rfl (ob_fieldAddrO (off := 0) rfl Try.underlying91 rfl rfl Try.sizeOf9 rfl) <| .cons rfl (ob_load1 rfl hcv27 Try.isAgg9 rfl) <| .cons rfl (ob_sneq rfl rfl) <| .cons rfl (ob_move rfl) <| .cons rfl (ob_fieldAddrO (off := 6) rfl Try.underlying33 rfl rfl Try.sizeOf25 rfl) <| .cons rfl (ob_load1 rfl hc3 Try.isAgg25 rfl) <| .cons rfl (ob_move rfl) <| .cons rfl (ob_indexAddr (k := y) rfl rfl Try.underlying25 Try.sizeOf40 rfl (by omega)) <| .cons rfl (ob_fieldAddrO (off := 1) rfl Try.underlying40 rfl rfl Try.sizeOf27 rfl) <| .cons rfl (ob_load1 rfl hcv26 Try.isAgg27 rfl) <| .cons rfl (ob_len rfl Try.underlying27) <| .cons rfl (ob_fieldAddrO (off := 1) rfl Try.underlying89 rfl rfl Try.sizeOf87 rfl) <| .cons rfl (ob_loadL (j := 0) rfl rfl Try.isAgg87 rfl) <| .cons rfl (ob_move rfl) <| .cons rfl (ob_indexAddr (k := y) rfl rfl Try.underlying87 Try.sizeOf91 rfl (by omega)) <| .cons rfl (ob_fieldAddrO (off := 1) rfl Try.underlying91 rfl rfl Try.sizeOf26 rfl) <| .cons rfl (ob_load1 rfl hcv27 Try.isAgg26 rfl) <| .cons rfl (ob_len rfl Try.underlying26) <| .cons rfl (ob_neq rfl rfl) <| .cons rfl (ob_or rfl rfl rfl) <| .cons rfl (ob_move rfl) <| .cons rfl (ob_fieldAddrO (off := 6) rfl Try.underlying33 rfl rfl Try.sizeOf25 rfl) <| .cons rfl (ob_load1 rfl hc3 Try.isAgg25 rfl) <| .cons rfl (ob_move rfl) <| .cons rfl (ob_indexAddr (k := y) rfl rfl Try.underlying25 Try.sizeOf40 rfl (by omega)) <| .cons rfl (ob_fieldAddrO (off := 1) rfl Try.underlying40 rfl rfl Try.sizeOf27 rfl) <| .cons rfl (ob_load1 rfl hcv26 Try.isAgg27 rfl) <| .cons rfl (ob_call (φ := MP.anyB) rfl (.cons rfl <| .nil) Try.call82 (fun w m hK => by have hle_ := KC.le hK; have hA := KC.agree hK; have h_p := h_p.mono hle_; have hef_p := hef_p.mono hle_; have hda_p := hda_p.mono hle_; have hpb_p := hpb_p.mono hle_; have hkk_pb := hkk_pb.mono hle_; have haa_pb := haa_pb.mono hle_; have hrr_pb := hrr_pb.mono hle_; have h_t := h_t.mono hle_; have hkk_t := hkk_t.mono hle_; have haa_t := haa_t.mono hle_; have hrr_t := hrr_t.mono hle_; have hc2 := hc2.mono hle_; have hc3 := hc3.mono hle_; have hcv9 := hcv9.mono hle_; have hv9 := hv9.mono hle_; have hva9 := hva9.mono hle_; have hbd9 := hbd9.mono hle_; have hkk9b := hkk9b.mono hle_; have haa9b := haa9b.mono hle_; have hrr9b := hrr9b.mono hle_; have hda9 := hda9.mono hle_; have hcons := hcons.mono hle_; have hcv26 := hcv26.mono hle_; have hv26 := hv26.mono hle_; have hva26 := hva26.mono hle_; have hbd26 := hbd26.mono hle_; have hkk26b := hkk26b.mono hle_; have haa26b := haa26b.mono hle_; have hrr26b := hrr26b.mono hle_; have hcv27 := hcv27.mono hle_; have hv27 := hv27.mono hle_; have hfl27 := hfl27.mono hle_; exact FnG.mono (twice_c hA (by assumption)) fun _ _ _ _ h => h)) <| .cons rfl (ob_orX (fun y => ⟨_, rfl⟩) rfl rfl rfl) <| .nil) ?_
        intro a8 w8 m8 hst8 hle8 hk8
        have hfr8 := hk8.fr (T' := [(8, _), (3, _), (5, _)]) (.old rfl rfl <| .old rfl rfl <| .old rfl rfl <| .nil)
        obtain ⟨y28, e28, hy28⟩ := hk8.ex 80 rfl
        replace hfr8 := hfr8.cons e28
        have hlh8 := hlh7.trans hle8
        clear hst7 hfr7 hk8
        refine hK25 _ _ ?_; clear hK25
        refine cond_any hfr8 rfl rfl (fun hb80 => ?_) (fun hb80 => ?_)
        · try simp only [nq1, nq2, nq3, nq4, nq5, nq6, nq7, nq8, nq9, u8_eq] at hb80
          refine seq_any fun _ hK29 => ?_
          refine rp0 hst8 hfr8 (.cons rfl (ob_assign rfl) <| .nil) ?_
          intro a9 w9 m9 hst9 hle9 hk9
          have hfr9 := hk9.fr (T' := [(8, _), (4, _)]) (.old rfl rfl <| .new rfl <| .nil)
          have hlh9 := hlh8.trans hle9
          clear hst8 hfr8 hk9
          refine hK29 _ _ ?_; clear hK29
          refine wp_ret ?_
          repeat (with_reducible first | refine then_ret ?_ | refine block_ret ?_)
          exact fn_ret hst9 hfr9 rfl (.tmp rfl <| .nil) (⟨_, rfl, trivial⟩)
        · try simp only [nq1, nq2, nq3, nq4, nq5, nq6, nq7, nq8, nq9, u8_eq] at hb80
          refine wp_skip ?_
          refine hK24 _ _ ?_; clear hK24
          refine rp0 hst8 hfr8 (.cons rfl (ob_move rfl) <| .cons rfl (ob_add rfl rfl ⟨by omega, by omega⟩) <| .cons rfl (ob_assign rfl) <| .nil) ?_
          intro a9 w9 m9 hst9 hle9 hk9
          have hfr9 := hk9.fr (T' := [(3, _), (5, _), (8, _)]) (.old rfl rfl <| .old rfl rfl <| .new rfl <| .nil)
          have hlh9 := hlh8.trans hle9
          clear hst8 hfr8 hk9
          exact ⟨y + 1, m9, by show da.cons.length - (y + 1) < da.cons.length - y; omega, ⟨hst9, hlh9, hfr9.sub (.cons rfl <| .cons rfl <| .cons rfl <| .nil), by show y + 1 ≤ da.cons.length; omega⟩⟩
      · try simp only [nq1, nq2, nq3, nq4, nq5, nq6, nq7, nq8, nq9, u8_eq] at hb39
        have hge : y = da.cons.length := by omega
        refine wp_exit ?_
        refine hK19 _ _ ?_; clear hK19
        refine seq_any fun _ hK31 => ?_
        refine rp0 hst7 hfr7 (.cons rfl (ob_assign rfl) <| .nil) ?_
        intro a8 w8 m8 hst8 hle8 hk8
        have hfr8 := hk8.fr (T' := [(8, _), (4, _)]) (.old rfl rfl <| .new rfl <| .nil)
        have hlh8 := hlh7.trans hle8
        clear hst7 hfr7 hk8
        refine hK31 _ _ ?_; clear hK31
        refine wp_ret ?_
        repeat (with_reducible first | refine then_ret ?_ | refine block_ret ?_)
        exact fn_ret hst8 hfr8 rfl (.tmp rfl <| .nil) (⟨_, rfl, trivial⟩)

set_option maxHeartbeats 400000 in
theorem kids_c {w : World} {m : Mem} {k : Int} (hA : Agree w m)  : FnV Try.prog 69 #[.int .i64 k] w m (fun _ _ v => v = .int .i64 (kidsM k)) := by
  refine fn_enter (vs := [_]) Try.func69 rfl rfl rfl fun a0 hfr0 => ?_
  have hst0 := st_enter hA (loc_nil [] _ w m)
  have hM : MLe m m := MLe.refl m
  refine seq_any fun _ hK1 => ?_
  refine rp0 hst0 hfr0 (.cons rfl (ob_assign rfl) <| .nil) ?_
  intro a1 w1 m1 hst1 hle1 hk1
  have hfr1 := hk1.fr (T' := [(0, _)]) (.old rfl rfl <| .nil)
  clear hst0 hfr0 hk1
  refine hK1 _ _ ?_; clear hK1
  refine seq_any fun _ hK2 => ?_
  refine seq_any fun _ hK3 => ?_
  refine rp0 hst1 hfr1 (.cons rfl (ob_move rfl) <| .nil) ?_
  intro a2 w2 m2 hst2 hle2 hk2
  have hfr2 := hk2.fr (T' := [(3, _)]) (.new rfl <| .nil)
  clear hst1 hfr1 hk2
  refine hK3 _ _ ?_; clear hK3
  refine wp_block ?_
  refine seq_any fun _ hK4 => ?_
  refine seq_any fun _ hK5 => ?_
  refine rp0 hst2 hfr2 (.cons rfl (ob_eql rfl rfl) <| .cons rfl (ob_assign rfl) <| .nil) ?_
  intro a3 w3 m3 hst3 hle3 hk3
  have hfr3 := hk3.fr (T' := [(3, _), (4, _)]) (.old rfl rfl <| .new rfl <| .nil)
  clear hst2 hfr2 hk3
  refine hK5 _ _ ?_; clear hK5
  refine cond_any hfr3 rfl rfl (fun hb4 => ?_) (fun hb4 => ?_)
  · try simp only [nq1, nq2, nq3, nq4, nq5, nq6, nq7, nq8, nq9, u8_eq] at hb4
    refine wp_skip ?_
    refine hK4 _ _ ?_; clear hK4
    refine cond_any hfr3 rfl rfl (fun hb4x => ?_) (fun hb4x => ?_)
    · try simp only [nq1, nq2, nq3, nq4, nq5, nq6, nq7, nq8, nq9, u8_eq] at hb4x
      refine seq_any fun _ hK6 => ?_
      refine rp0 hst3 hfr3 (.cons rfl (ob_assign rfl) <| .nil) ?_
      intro a4 w4 m4 hst4 hle4 hk4
      have hfr4 := hk4.fr (T' := [(2, _)]) (.new rfl <| .nil)
      clear hst3 hfr3 hk4
      refine hK6 _ _ ?_; clear hK6
      refine wp_ret ?_
      repeat (with_reducible first | refine then_ret ?_ | refine block_ret ?_)
      exact fn_ret hst4 hfr4 rfl (.tmp rfl <| .nil) (by refine congrArg (Value.int _) ?_; unfold kidsM; simp_all)
    · exfalso; try simp only [nq1, nq2, nq3, nq4, nq5, nq6, nq7, nq8, nq9, u8_eq] at hb4x
      first | exact absurd hb4x hb4 | exact absurd hb4 hb4x | simp_all
  · try simp only [nq1, nq2, nq3, nq4, nq5, nq6, nq7, nq8, nq9, u8_eq] at hb4
    refine seq_any fun _ hK8 => ?_
    refine rp0 hst3 hfr3 (.cons rfl (ob_eql rfl rfl) <| .cons rfl (ob_assign rfl) <| .nil) ?_
    intro a4 w4 m4 hst4 hle4 hk4
    have hfr4 := hk4.fr (T' := [(3, _), (4, _)]) (.old rfl rfl <| .new rfl <| .nil)
    clear hst3 hfr3 hk4
    refine hK8 _ _ ?_; clear hK8
    refine cond_any hfr4 rfl rfl (fun hb4 => ?_) (fun hb4 => ?_)
    · try simp only [nq1, nq2, nq3, nq4, nq5, nq6, nq7, nq8, nq9, u8_eq] at hb4
      refine wp_skip ?_
      refine hK4 _ _ ?_; clear hK4
      refine cond_any hfr4 rfl rfl (fun hb4x => ?_) (fun hb4x => ?_)
      · try simp only [nq1, nq2, nq3, nq4, nq5, nq6, nq7, nq8, nq9, u8_eq] at hb4x
        refine seq_any fun _ hK9 => ?_
        refine rp0 hst4 hfr4 (.cons rfl (ob_assign rfl) <| .nil) ?_
        intro a5 w5 m5 hst5 hle5 hk5
        have hfr5 := hk5.fr (T' := [(2, _)]) (.new rfl <| .nil)
        clear hst4 hfr4 hk5
        refine hK9 _ _ ?_; clear hK9
        refine wp_ret ?_
        repeat (with_reducible first | refine then_ret ?_ | refine block_ret ?_)
        exact fn_ret hst5 hfr5 rfl (.tmp rfl <| .nil) (by refine congrArg (Value.int _) ?_; unfold kidsM; simp_all)
      · exfalso; try simp only [nq1, nq2, nq3, nq4, nq5, nq6, nq7, nq8, nq9, u8_eq] at hb4x
        first | exact absurd hb4x hb4 | exact absurd hb4 hb4x | simp_all
    · try simp only [nq1, nq2, nq3, nq4, nq5, nq6, nq7, nq8, nq9, u8_eq] at hb4
      refine seq_any fun _ hK11 => ?_
      refine rp0 hst4 hfr4 (.cons rfl (ob_eql rfl rfl) <| .cons rfl (ob_assign rfl) <| .nil) ?_
      intro a5 w5 m5 hst5 hle5 hk5
      have hfr5 := hk5.fr (T' := [(3, _), (4, _)]) (.old rfl rfl <| .new rfl <| .nil)
      clear hst4 hfr4 hk5
      refine hK11 _ _ ?_; clear hK11
      refine cond_any hfr5 rfl rfl (fun hb4 => ?_) (fun hb4 => ?_)
      · try simp only [nq1, nq2, nq3, nq4, nq5, nq6, nq7, nq8, nq9, u8_eq] at hb4
        refine wp_skip ?_
        refine hK4 _ _ ?_; clear hK4
        refine cond_any hfr5 rfl rfl (fun hb4x => ?_) (fun hb4x => ?_)
        · try simp only [nq1, nq2, nq3, nq4, nq5, nq6, nq7, nq8, nq9, u8_eq] at hb4x
          refine seq_any fun _ hK12 => ?_
          refine rp0 hst5 hfr5 (.cons rfl (ob_assign rfl) <| .nil) ?_
          intro a6 w6 m6 hst6 hle6 hk6
          have hfr6 := hk6.fr (T' := [(2, _)]) (.new rfl <| .nil)
          clear hst5 hfr5 hk6
          refine hK12 _ _ ?_; clear hK12
          refine wp_ret ?_
          repeat (with_reducible first | refine then_ret ?_ | refine block_ret ?_)
          exact fn_ret hst6 hfr6 rfl (.tmp rfl <| .nil) (by refine congrArg (Value.int _) ?_; unfold kidsM; simp_all)
        · exfalso; try simp only [nq1, nq2, nq3, nq4, nq5, nq6, nq7, nq8, nq9, u8_eq] at hb4x
          first | exact absurd hb4x hb4 | exact absurd hb4 hb4x | simp_all
      · try simp only [nq1, nq2, nq3, nq4, nq5, nq6, nq7, nq8, nq9, u8_eq] at hb4
        refine rp0 hst5 hfr5 (.cons rfl (ob_eql rfl rfl) <| .cons rfl (ob_assign rfl) <| .nil) ?_
        intro a6 w6 m6 hst6 hle6 hk6
        have hfr6 := hk6.fr (T' := [(3, _), (4, _)]) (.old rfl rfl <| .new rfl <| .nil)
        clear hst5 hfr5 hk6
        refine hK4 _ _ ?_; clear hK4
        refine cond_any hfr6 rfl rfl (fun hb4 => ?_) (fun hb4 => ?_)
        · try simp only [nq1, nq2, nq3, nq4, nq5, nq6, nq7, nq8, nq9, u8_eq] at hb4
          refine seq_any fun _ hK14 => ?_
          refine rp0 hst6 hfr6 (.cons rfl (ob_assign rfl) <| .nil) ?_
          intro a7 w7 m7 hst7 hle7 hk7
          have hfr7 := hk7.fr (T' := [(2, _)]) (.new rfl <| .nil)
          clear hst6 hfr6 hk7
          refine hK14 _ _ ?_; clear hK14
          refine wp_ret ?_
          repeat (with_reducible first | refine then_ret ?_ | refine block_ret ?_)
          exact fn_ret hst7 hfr7 rfl (.tmp rfl <| .nil) (by refine congrArg (Value.int _) ?_; unfold kidsM; simp_all)
        · try simp only [nq1, nq2, nq3, nq4, nq5, nq6, nq7, nq8, nq9, u8_eq] at hb4
          refine seq_any fun _ hK16 => ?_
          refine seq_any fun _ hK17 => ?_
          refine rp0 hst6 hfr6 (.cons rfl (ob_eql rfl rfl) <| .cons rfl (ob_assign rfl) <| .nil) ?_
          intro a7 w7 m7 hst7 hle7 hk7
          have hfr7 := hk7.fr (T' := [(3, _), (9, _)]) (.old rfl rfl <| .new rfl <| .nil)
          clear hst6 hfr6 hk7
          refine hK17 _ _ ?_; clear hK17
          refine cond_any hfr7 rfl rfl (fun hb9 => ?_) (fun hb9 => ?_)
          · try simp only [nq1, nq2, nq3, nq4, nq5, nq6, nq7, nq8, nq9, u8_eq] at hb9
            refine wp_skip ?_
            refine hK16 _ _ ?_; clear hK16
            refine cond_any hfr7 rfl rfl (fun hb9x => ?_) (fun hb9x => ?_)
            · try simp only [nq1, nq2, nq3, nq4, nq5, nq6, nq7, nq8, nq9, u8_eq] at hb9x
              refine seq_any fun _ hK18 => ?_
              refine rp0 hst7 hfr7 (.cons rfl (ob_assign rfl) <| .nil) ?_
              intro a8 w8 m8 hst8 hle8 hk8
              have hfr8 := hk8.fr (T' := [(2, _)]) (.new rfl <| .nil)
              clear hst7 hfr7 hk8
              refine hK18 _ _ ?_; clear hK18
              refine wp_ret ?_
              repeat (with_reducible first | refine then_ret ?_ | refine block_ret ?_)
              exact fn_ret hst8 hfr8 rfl (.tmp rfl <| .nil) (by refine congrArg (Value.int _) ?_; unfold kidsM; simp_all)
            · exfalso; try simp only [nq1, nq2, nq3, nq4, nq5, nq6, nq7, nq8, nq9, u8_eq] at hb9x
              first | exact absurd hb9x hb9 | exact absurd hb9 hb9x | simp_all
          · try simp only [nq1, nq2, nq3, nq4, nq5, nq6, nq7, nq8, nq9, u8_eq] at hb9
            refine seq_any fun _ hK20 => ?_
            refine rp0 hst7 hfr7 (.cons rfl (ob_eql rfl rfl) <| .cons rfl (ob_assign rfl) <| .nil) ?_
            intro a8 w8 m8 hst8 hle8 hk8
            have hfr8 := hk8.fr (T' := [(3, _), (9, _)]) (.old rfl rfl <| .new rfl <| .nil)
            clear hst7 hfr7 hk8
            refine hK20 _ _ ?_; clear hK20
            refine cond_any hfr8 rfl rfl (fun hb9 => ?_) (fun hb9 => ?_)
            · try simp only [nq1, nq2, nq3, nq4, nq5, nq6, nq7, nq8, nq9, u8_eq] at hb9
              refine wp_skip ?_
              refine hK16 _ _ ?_; clear hK16
              refine cond_any hfr8 rfl rfl (fun hb9x => ?_) (fun hb9x => ?_)
              · try simp only [nq1, nq2, nq3, nq4, nq5, nq6, nq7, nq8, nq9, u8_eq] at hb9x
                refine seq_any fun _ hK21 => ?_
                refine rp0 hst8 hfr8 (.cons rfl (ob_assign rfl) <| .nil) ?_
                intro a9 w9 m9 hst9 hle9 hk9
                have hfr9 := hk9.fr (T' := [(2, _)]) (.new rfl <| .nil)
                clear hst8 hfr8 hk9
                refine hK21 _ _ ?_; clear hK21
                refine wp_ret ?_
                repeat (with_reducible first | refine then_ret ?_ | refine block_ret ?_)
                exact fn_ret hst9 hfr9 rfl (.tmp rfl <| .nil) (by refine congrArg (Value.int _) ?_; unfold kidsM; simp_all)
              · exfalso; try simp only [nq1, nq2, nq3, nq4, nq5, nq6, nq7, nq8, nq9, u8_eq] at hb9x
                first | exact absurd hb9x hb9 | exact absurd hb9 hb9x | simp_all
            · try simp only [nq1, nq2, nq3, nq4, nq5, nq6, nq7, nq8, nq9, u8_eq] at hb9
              refine seq_any fun _ hK23 => ?_
              refine rp0 hst8 hfr8 (.cons rfl (ob_eql rfl rfl) <| .cons rfl (ob_assign rfl) <| .nil) ?_
              intro a9 w9 m9 hst9 hle9 hk9
              have hfr9 := hk9.fr (T' := [(3, _), (9, _)]) (.old rfl rfl <| .new rfl <| .nil)
              clear hst8 hfr8 hk9
              refine hK23 _ _ ?_; clear hK23
              refine cond_any hfr9 rfl rfl (fun hb9 => ?_) (fun hb9 => ?_)
              · try simp only [nq1, nq2, nq3, nq4, nq5, nq6, nq7, nq8, nq9, u8_eq] at hb9
                refine wp_skip ?_
                refine hK16 _ _ ?_; clear hK16
                refine cond_any hfr9 rfl rfl (fun hb9x => ?_) (fun hb9x => ?_)
                · try simp only [nq1, nq2, nq3, nq4, nq5, nq6, nq7, nq8, nq9, u8_eq] at hb9x
                  refine seq_any fun _ hK24 => ?_
                  refine rp0 hst9 hfr9 (.cons rfl (ob_assign rfl) <| .nil) ?_
                  intro a10 w10 m10 hst10 hle10 hk10
                  have hfr10 := hk10.fr (T' := [(2, _)]) (.new rfl <| .nil)
                  clear hst9 hfr9 hk10
                  refine hK24 _ _ ?_; clear hK24
                  refine wp_ret ?_
                  repeat (with_reducible first | refine then_ret ?_ | refine block_ret ?_)
                  exact fn_ret hst10 hfr10 rfl (.tmp rfl <| .nil) (by refine congrArg (Value.int _) ?_; unfold kidsM; simp_all)
                · exfalso; try simp only [nq1, nq2, nq3, nq4, nq5, nq6, nq7, nq8, nq9, u8_eq] at hb9x
                  first | exact absurd hb9x hb9 | exact absurd hb9 hb9x | simp_all
              · try simp only [nq1, nq2, nq3, nq4, nq5, nq6, nq7, nq8, nq9, u8_eq] at hb9
                refine rp0 hst9 hfr9 (.cons rfl (ob_eql rfl rfl) <| .cons rfl (ob_assign rfl) <| .nil) ?_
                intro a10 w10 m10 hst10 hle10 hk10
                have hfr10 := hk10.fr (T' := [(3, _), (9, _)]) (.old rfl rfl <| .new rfl <| .nil)
                clear hst9 hfr9 hk10
                refine hK16 _ _ ?_; clear hK16
                refine cond_any hfr10 rfl rfl (fun hb9 => ?_) (fun hb9 => ?_)
                · try simp only [nq1, nq2, nq3, nq4, nq5, nq6, nq7, nq8, nq9, u8_eq] at hb9
                  refine seq_any fun _ hK26 => ?_
                  refine rp0 hst10 hfr10 (.cons rfl (ob_assign rfl) <| .nil) ?_
                  intro a11 w11 m11 hst11 hle11 hk11
                  have hfr11 := hk11.fr (T' := [(2, _)]) (.new rfl <| .nil)
                  clear hst10 hfr10 hk11
                  refine hK26 _ _ ?_; clear hK26
                  refine wp_ret ?_
                  repeat (with_reducible first | refine then_ret ?_ | refine block_ret ?_)
                  exact fn_ret hst11 hfr11 rfl (.tmp rfl <| .nil) (by refine congrArg (Value.int _) ?_; unfold kidsM; simp_all)
                · try simp only [nq1, nq2, nq3, nq4, nq5, nq6, nq7, nq8, nq9, u8_eq] at hb9
                  refine seq_any fun _ hK28 => ?_
                  refine seq_any fun _ hK29 => ?_
                  refine rp0 hst10 hfr10 (.cons rfl (ob_eql rfl rfl) <| .cons rfl (ob_assign rfl) <| .nil) ?_
                  intro a11 w11 m11 hst11 hle11 hk11
                  have hfr11 := hk11.fr (T' := [(3, _), (14, _)]) (.old rfl rfl <| .new rfl <| .nil)
                  clear hst10 hfr10 hk11
                  refine hK29 _ _ ?_; clear hK29
                  refine cond_any hfr11 rfl rfl (fun hb14 => ?_) (fun hb14 => ?_)
                  · try simp only [nq1, nq2, nq3, nq4, nq5, nq6, nq7, nq8, nq9, u8_eq] at hb14
                    refine wp_skip ?_
                    refine hK28 _ _ ?_; clear hK28
                    refine cond_any hfr11 rfl rfl (fun hb14x => ?_) (fun hb14x => ?_)
                    · try simp only [nq1, nq2, nq3, nq4, nq5, nq6, nq7, nq8, nq9, u8_eq] at hb14x
                      refine seq_any fun _ hK30 => ?_
                      refine rp0 hst11 hfr11 (.cons rfl (ob_assign rfl) <| .nil) ?_
                      intro a12 w12 m12 hst12 hle12 hk12
                      have hfr12 := hk12.fr (T' := [(2, _)]) (.new rfl <| .nil)
                      clear hst11 hfr11 hk12
                      refine hK30 _ _ ?_; clear hK30
                      refine wp_ret ?_
                      repeat (with_reducible first | refine then_ret ?_ | refine block_ret ?_)
                      exact fn_ret hst12 hfr12 rfl (.tmp rfl <| .nil) (by refine congrArg (Value.int _) ?_; unfold kidsM; simp_all)
                    · exfalso; try simp only [nq1, nq2, nq3, nq4, nq5, nq6, nq7, nq8, nq9, u8_eq] at hb14x
                      first | exact absurd hb14x hb14 | exact absurd hb14 hb14x | simp_all
                  · try simp only [nq1, nq2, nq3, nq4, nq5, nq6, nq7, nq8, nq9, u8_eq] at hb14
                    refine seq_any fun _ hK32 => ?_
                    refine rp0 hst11 hfr11 (.cons rfl (ob_eql rfl rfl) <| .cons rfl (ob_assign rfl) <| .nil) ?_
                    intro a12 w12 m12 hst12 hle12 hk12
                    have hfr12 := hk12.fr (T' := [(3, _), (14, _)]) (.old rfl rfl <| .new rfl <| .nil)
                    clear hst11 hfr11 hk12
                    refine hK32 _ _ ?_; clear hK32
                    refine cond_any hfr12 rfl rfl (fun hb14 => ?_) (fun hb14 => ?_)
                    · try simp only [nq1, nq2, nq3, nq4, nq5, nq6, nq7, nq8, nq9, u8_eq] at hb14
                      refine wp_skip ?_
                      refine hK28 _ _ ?_; clear hK28
                      refine cond_any hfr12 rfl rfl (fun hb14x => ?_) (fun hb14x => ?_)
                      · try simp only [nq1, nq2, nq3, nq4, nq5, nq6, nq7, nq8, nq9, u8_eq] at hb14x
                        refine seq_any fun _ hK33 => ?_
                        refine rp0 hst12 hfr12 (.cons rfl (ob_assign rfl) <| .nil) ?_
                        intro a13 w13 m13 hst13 hle13 hk13
                        have hfr13 := hk13.fr (T' := [(2, _)]) (.new rfl <| .nil)
                        clear hst12 hfr12 hk13
                        refine hK33 _ _ ?_; clear hK33
                        refine wp_ret ?_
                        repeat (with_reducible first | refine then_ret ?_ | refine block_ret ?_)
                        exact fn_ret hst13 hfr13 rfl (.tmp rfl <| .nil) (by refine congrArg (Value.int _) ?_; unfold kidsM; simp_all)
                      · exfalso; try simp only [nq1, nq2, nq3, nq4, nq5, nq6, nq7, nq8, nq9, u8_eq] at hb14x
                        first | exact absurd hb14x hb14 | exact absurd hb14 hb14x | simp_all
                    · try simp only [nq1, nq2, nq3, nq4, nq5, nq6, nq7, nq8, nq9, u8_eq] at hb14
                      refine rp0 hst12 hfr12 (.cons rfl (ob_eql rfl rfl) <| .cons rfl (ob_assign rfl) <| .nil) ?_
                      intro a13 w13 m13 hst13 hle13 hk13
                      have hfr13 := hk13.fr (T' := [(3, _), (14, _)]) (.old rfl rfl <| .new rfl <| .nil)
                      clear hst12 hfr12 hk13
                      refine hK28 _ _ ?_; clear hK28
                      refine cond_any hfr13 rfl rfl (fun hb14 => ?_) (fun hb14 => ?_)
                      · try simp only [nq1, nq2, nq3, nq4, nq5, nq6, nq7, nq8, nq9, u8_eq] at hb14
                        refine seq_any fun _ hK35 => ?_
                        refine rp0 hst13 hfr13 (.cons rfl (ob_assign rfl) <| .nil) ?_
                        intro a14 w14 m14 hst14 hle14 hk14
                        have hfr14 := hk14.fr (T' := [(2, _)]) (.new rfl <| .nil)
                        clear hst13 hfr13 hk14
                        refine hK35 _ _ ?_; clear hK35
                        refine wp_ret ?_
                        repeat (with_reducible first | refine then_ret ?_ | refine block_ret ?_)
                        exact fn_ret hst14 hfr14 rfl (.tmp rfl <| .nil) (by refine congrArg (Value.int _) ?_; unfold kidsM; simp_all)
                      · try simp only [nq1, nq2, nq3, nq4, nq5, nq6, nq7, nq8, nq9, u8_eq] at hb14
                        refine seq_any fun _ hK37 => ?_
                        refine rp0 hst13 hfr13 (.cons rfl (ob_eql rfl rfl) <| .cons rfl (ob_assign rfl) <| .nil) ?_
                        intro a14 w14 m14 hst14 hle14 hk14
                        have hfr14 := hk14.fr (T' := [(3, _), (18, _)]) (.old rfl rfl <| .new rfl <| .nil)
                        clear hst13 hfr13 hk14
                        refine hK37 _ _ ?_; clear hK37
                        refine cond_any hfr14 rfl rfl (fun hb18 => ?_) (fun hb18 => ?_)
                        · try simp only [nq1, nq2, nq3, nq4, nq5, nq6, nq7, nq8, nq9, u8_eq] at hb18
                          refine seq_any fun _ hK38 => ?_
                          refine rp0 hst14 hfr14 (.cons rfl (ob_assign rfl) <| .nil) ?_
                          intro a15 w15 m15 hst15 hle15 hk15
                          have hfr15 := hk15.fr (T' := [(2, _)]) (.new rfl <| .nil)
                          clear hst14 hfr14 hk15
                          refine hK38 _ _ ?_; clear hK38
                          refine wp_ret ?_
                          repeat (with_reducible first | refine then_ret ?_ | refine block_ret ?_)
                          exact fn_ret hst15 hfr15 rfl (.tmp rfl <| .nil) (by refine congrArg (Value.int _) ?_; unfold kidsM; simp_all)
                        · try simp only [nq1, nq2, nq3, nq4, nq5, nq6, nq7, nq8, nq9, u8_eq] at hb18
                          refine seq_any fun _ hK40 => ?_
                          refine seq_any fun _ hK41 => ?_
                          refine rp0 hst14 hfr14 (.cons rfl (ob_eql rfl rfl) <| .cons rfl (ob_assign rfl) <| .nil) ?_
                          intro a15 w15 m15 hst15 hle15 hk15
                          have hfr15 := hk15.fr (T' := [(3, _), (20, _)]) (.old rfl rfl <| .new rfl <| .nil)
                          clear hst14 hfr14 hk15
                          refine hK41 _ _ ?_; clear hK41
                          refine cond_any hfr15 rfl rfl (fun hb20 => ?_) (fun hb20 => ?_)
                          · try simp only [nq1, nq2, nq3, nq4, nq5, nq6, nq7, nq8, nq9, u8_eq] at hb20
                            refine wp_skip ?_
                            refine hK40 _ _ ?_; clear hK40
                            refine cond_any hfr15 rfl rfl (fun hb20x => ?_) (fun hb20x => ?_)
                            · try simp only [nq1, nq2, nq3, nq4, nq5, nq6, nq7, nq8, nq9, u8_eq] at hb20x
                              refine seq_any fun _ hK42 => ?_
                              refine rp0 hst15 hfr15 (.cons rfl (ob_assign rfl) <| .nil) ?_
                              intro a16 w16 m16 hst16 hle16 hk16
                              have hfr16 := hk16.fr (T' := [(2, _)]) (.new rfl <| .nil)
                              clear hst15 hfr15 hk16
                              refine hK42 _ _ ?_; clear hK42
                              refine wp_ret ?_
                              repeat (with_reducible first | refine then_ret ?_ | refine block_ret ?_)
                              exact fn_ret hst16 hfr16 rfl (.tmp rfl <| .nil) (by refine congrArg (Value.int _) ?_; unfold kidsM; simp_all)
                            · exfalso; try simp only [nq1, nq2, nq3, nq4, nq5, nq6, nq7, nq8, nq9, u8_eq] at hb20x
                              first | exact absurd hb20x hb20 | exact absurd hb20 hb20x | simp_all
                          · try simp only [nq1, nq2, nq3, nq4, nq5, nq6, nq7, nq8, nq9, u8_eq] at hb20
                            refine rp0 hst15 hfr15 (.cons rfl (ob_eql rfl rfl) <| .cons rfl (ob_assign rfl) <| .nil) ?_
                            intro a16 w16 m16 hst16 hle16 hk16
                            have hfr16 := hk16.fr (T' := [(20, _)]) (.new rfl <| .nil)
                            clear hst15 hfr15 hk16
                            refine hK40 _ _ ?_; clear hK40
                            refine cond_any hfr16 rfl rfl (fun hb20 => ?_) (fun hb20 => ?_)
                            · try simp only [nq1, nq2, nq3, nq4, nq5, nq6, nq7, nq8, nq9, u8_eq] at hb20
                              refine seq_any fun _ hK44 => ?_
                              refine rp0 hst16 hfr16 (.cons rfl (ob_assign rfl) <| .nil) ?_
                              intro a17 w17 m17 hst17 hle17 hk17
                              have hfr17 := hk17.fr (T' := [(2, _)]) (.new rfl <| .nil)
                              clear hst16 hfr16 hk17
                              refine hK44 _ _ ?_; clear hK44
                              refine wp_ret ?_
                              repeat (with_reducible first | refine then_ret ?_ | refine block_ret ?_)
                              exact fn_ret hst17 hfr17 rfl (.tmp rfl <| .nil) (by refine congrArg (Value.int _) ?_; unfold kidsM; simp_all)
                            · try simp only [nq1, nq2, nq3, nq4, nq5, nq6, nq7, nq8, nq9, u8_eq] at hb20
                              refine wp_skip ?_
                              refine hK2 _ _ ?_; clear hK2
                              refine seq_any fun _ hK46 => ?_
                              refine rp0 hst16 hfr16 (.cons rfl (ob_assign rfl) <| .nil) ?_
                              intro a17 w17 m17 hst17 hle17 hk17
                              have hfr17 := hk17.fr (T' := [(2, _)]) (.new rfl <| .nil)
                              clear hst16 hfr16 hk17
                              refine hK46 _ _ ?_; clear hK46
                              refine wp_ret ?_
                              repeat (with_reducible first | refine then_ret ?_ | refine block_ret ?_)
                              exact fn_ret hst17 hfr17 rfl (.tmp rfl <| .nil) (by refine congrArg (Value.int _) ?_; unfold kidsM; simp_all)

set_option maxHeartbeats 800000 in
theorem one_c {w : World} {m : Mem} {p : Pg} {vs_p : List Value} {t : Tm} {vs_t : List Value} {o_l : Option Addr} {c_l : Nat} {l : List Str} (hA : Agree w m) (h_p : PgR m p vs_p) (h_t : TmR m t vs_t) (h_l : Strs m o_l l.length c_l l) (hbo : opsN p.effects ≤ 1000000000) : FnV Try.prog 51 #[.agg vs_p.toArray, .agg vs_t.toArray, .slice o_l l.length c_l] w m (fun _ m v => (MP.oneB t).p m v) := by
  obtain ⟨oE_p, cE_p, oD_p, cD_p, bs_p, rfl, hef_p, hda_p, hpb_p⟩ := id h_p
  have hbe_p := hef_p.big; have hce_p := hef_p.cap; have hbda_p := hda_p.big; have hcd_p := hda_p.cap
  obtain ⟨⟨oK_pb, cK_pb, oA_pb, cA_pb, oR_pb, cR_pb, t0_pb, t1_pb, t2_pb, t3_pb, t4_pb, t5_pb, u0_pb, u1_pb, u2_pb, u3_pb, u4_pb, u5_pb⟩, rfl, hon_pb, hkk_pb, haa_pb, hrr_pb⟩ := hpb_p.open_
  dsimp only at hkk_pb haa_pb hrr_pb
  have hbg_pb := hkk_pb.big; have hcp_pb := hkk_pb.cap; have hbh_pb := haa_pb.big; have hcq_pb := haa_pb.cap
  obtain ⟨⟨oK_t, cK_t, oA_t, cA_t, oR_t, cR_t, t0_t, t1_t, t2_t, t3_t, t4_t, t5_t, u0_t, u1_t, u2_t, u3_t, u4_t, u5_t⟩, rfl, hon_t, hkk_t, haa_t, hrr_t⟩ := h_t.open_
  dsimp only at hkk_t haa_t hrr_t
  have hbg_t := hkk_t.big; have hcp_t := hkk_t.cap; have hbh_t := haa_t.big; have hcq_t := haa_t.cap
  have hb_l := h_l.big; have hc_l := h_l.cap
  refine fn_enter (vs := [_, _, _]) Try.func51 rfl rfl rfl fun a0 hfr0 => ?_
  have hst0 := st_enter hA (loc_nil [] _ w m)
  have hM : MLe m m := MLe.refl m
  refine seq_any fun _ hK1 => ?_
  refine rp0 hst0 hfr0 (.cons rfl (ob_box rfl rfl) <| .cons rfl (ob_box rfl rfl) <| .cons rfl (ob_assign rfl) <| .nil) ?_
  intro a1 w1 m1 hst1 hle1 hk1
  have hfr1 := hk1.fr (T' := [(2, _)]) (.old rfl rfl <| .nil)
  obtain ⟨g2, e2, hc3⟩ := hk1.ex 3 rfl
  replace hfr1 := hfr1.cons e2
  obtain ⟨g3, e3, hc4⟩ := hk1.ex 4 rfl
  replace hfr1 := hfr1.cons e3
  replace h_p := h_p.mono hle1
  replace hef_p := hef_p.mono hle1
  replace hda_p := hda_p.mono hle1
  replace hpb_p := hpb_p.mono hle1
  replace hkk_pb := hkk_pb.mono hle1
  replace haa_pb := haa_pb.mono hle1
  replace hrr_pb := hrr_pb.mono hle1
  replace h_t := h_t.mono hle1
  replace hkk_t := hkk_t.mono hle1
  replace haa_t := haa_t.mono hle1
  replace hrr_t := hrr_t.mono hle1
  replace h_l := h_l.mono hle1
  clear hst0 hfr0 hk1
  refine hK1 _ _ ?_; clear hK1
  refine seq_any fun _ hK4 => ?_
  refine rp0 hst1 hfr1 (.cons rfl (ob_fieldAddrO (off := 0) rfl Try.underlying33 rfl rfl Try.sizeOf3 rfl) <| .cons rfl (ob_load1 rfl hc4 Try.isAgg3 rfl) <| .cons rfl (ob_callE rfl (.cons rfl <| .nil) Try.call69 (fun w m hK => by have hle_ := KC.le hK; have hA := KC.agree hK; exact kids_c hA)) <| .cons rfl (ob_assign rfl) <| .nil) ?_
  intro a2 w2 m2 hst2 hle2 hk2
  have hfr2 := hk2.fr (T' := [(2, _), (3, _), (4, _), (7, _)]) (.old rfl rfl <| .old rfl rfl <| .old rfl rfl <| .new rfl <| .nil)
  replace h_p := h_p.mono hle2
  replace hef_p := hef_p.mono hle2
  replace hda_p := hda_p.mono hle2
  replace hpb_p := hpb_p.mono hle2
  replace hkk_pb := hkk_pb.mono hle2
  replace haa_pb := haa_pb.mono hle2
  replace hrr_pb := hrr_pb.mono hle2
  replace h_t := h_t.mono hle2
  replace hkk_t := hkk_t.mono hle2
  replace haa_t := haa_t.mono hle2
  replace hrr_t := hrr_t.mono hle2
  replace h_l := h_l.mono hle2
  replace hc3 := hc3.mono hle2
  replace hc4 := hc4.mono hle2
  clear hst1 hfr1 hk2
  refine hK4 _ _ ?_; clear hK4
  refine seq_any fun _ hK5 => ?_
  refine seq_any fun _ hK6 => ?_
  refine rp0 hst2 hfr2 (.cons rfl (ob_move rfl) <| .cons rfl (ob_fieldAddrO (off := 5) rfl Try.underlying33 rfl rfl Try.sizeOf24 rfl) <| .cons rfl (ob_load1 rfl hc4 Try.isAgg24 rfl) <| .cons rfl (ob_len rfl Try.underlying24) <| .cons rfl (ob_neq rfl rfl) <| .cons rfl (ob_move rfl) <| .cons rfl (ob_move rfl) <| .cons rfl (ob_neq rfl rfl) <| .cons rfl (ob_and rfl rfl rfl) <| .nil) ?_
  intro a3 w3 m3 hst3 hle3 hk3
  have hfr3 := hk3.fr (T' := [(2, _), (3, _), (4, _), (27, _)]) (.old rfl rfl <| .old rfl rfl <| .old rfl rfl <| .new rfl <| .nil)
  replace h_p := h_p.mono hle3
  replace hef_p := hef_p.mono hle3
  replace hda_p := hda_p.mono hle3
  replace hpb_p := hpb_p.mono hle3
  replace hkk_pb := hkk_pb.mono hle3
  replace haa_pb := haa_pb.mono hle3
  replace hrr_pb := hrr_pb.mono hle3
  replace h_t := h_t.mono hle3
  replace hkk_t := hkk_t.mono hle3
  replace haa_t := haa_t.mono hle3
  replace hrr_t := hrr_t.mono hle3
  replace h_l := h_l.mono hle3
  replace hc3 := hc3.mono hle3
  replace hc4 := hc4.mono hle3
  clear hst2 hfr2 hk3
  refine hK6 _ _ ?_; clear hK6
  refine cond_any hfr3 rfl rfl (fun hb27 => ?_) (fun hb27 => ?_)
  · try simp only [nq1, nq2, nq3, nq4, nq5, nq6, nq7, nq8, nq9, u8_eq] at hb27
    refine seq_any fun _ hK7 => ?_
    refine rp0 hst3 hfr3 (.cons rfl (ob_assign rfl) <| .nil) ?_
    intro a4 w4 m4 hst4 hle4 hk4
    have hfr4 := hk4.fr (T' := [(6, _)]) (.new rfl <| .nil)
    clear hst3 hfr3 hk4
    refine hK7 _ _ ?_; clear hK7
    refine wp_ret ?_
    repeat (with_reducible first | refine then_ret ?_ | refine block_ret ?_)
    exact fn_ret hst4 hfr4 rfl (.tmp rfl <| .nil) (⟨false, rfl, fun h => by cases h⟩)
  · try simp only [nq1, nq2, nq3, nq4, nq5, nq6, nq7, nq8, nq9, u8_eq] at hb27
    have hk : kidsM t.kind = (t.kids.length : Int) ∨ kidsM t.kind = -1 := by omega
    refine wp_skip ?_
    refine hK5 _ _ ?_; clear hK5
    refine seq_any fun _ hK9 => ?_
    refine seq_any fun _ hK10 => ?_
    refine rp0 hst3 hfr3 (.cons rfl (ob_fieldAddrO (off := 0) rfl Try.underlying33 rfl rfl Try.sizeOf3 rfl) <| .cons rfl (ob_load1 rfl hc4 Try.isAgg3 rfl) <| .nil) ?_
    intro a4 w4 m4 hst4 hle4 hk4
    have hfr4 := hk4.fr (T' := [(2, _), (3, _), (4, _), (29, _)]) (.old rfl rfl <| .old rfl rfl <| .old rfl rfl <| .new rfl <| .nil)
    replace h_p := h_p.mono hle4
    replace hef_p := hef_p.mono hle4
    replace hda_p := hda_p.mono hle4
    replace hpb_p := hpb_p.mono hle4
    replace hkk_pb := hkk_pb.mono hle4
    replace haa_pb := haa_pb.mono hle4
    replace hrr_pb := hrr_pb.mono hle4
    replace h_t := h_t.mono hle4
    replace hkk_t := hkk_t.mono hle4
    replace haa_t := haa_t.mono hle4
    replace hrr_t := hrr_t.mono hle4
    replace h_l := h_l.mono hle4
    replace hc3 := hc3.mono hle4
    replace hc4 := hc4.mono hle4
    clear hst3 hfr3 hk4
    refine hK10 _ _ ?_; clear hK10
    refine wp_block ?_
    refine seq_any fun _ hK11 => ?_
    refine rp0 hst4 hfr4 (.cons rfl (ob_eql rfl rfl) <| .cons rfl (ob_assign rfl) <| .nil) ?_
    intro a5 w5 m5 hst5 hle5 hk5
    have hfr5 := hk5.fr (T' := [(2, _), (3, _), (4, _), (29, _), (30, _)]) (.old rfl rfl <| .old rfl rfl <| .old rfl rfl <| .old rfl rfl <| .new rfl <| .nil)
    replace h_p := h_p.mono hle5
    replace hef_p := hef_p.mono hle5
    replace hda_p := hda_p.mono hle5
    replace hpb_p := hpb_p.mono hle5
    replace hkk_pb := hkk_pb.mono hle5
    replace haa_pb := haa_pb.mono hle5
    replace hrr_pb := hrr_pb.mono hle5
    replace h_t := h_t.mono hle5
    replace hkk_t := hkk_t.mono hle5
    replace haa_t := haa_t.mono hle5
    replace hrr_t := hrr_t.mono hle5
    replace h_l := h_l.mono hle5
    replace hc3 := hc3.mono hle5
    replace hc4 := hc4.mono hle5
    clear hst4 hfr4 hk5
    refine hK11 _ _ ?_; clear hK11
    refine cond_any hfr5 rfl rfl (fun hb30 => ?_) (fun hb30 => ?_)
    · try simp only [nq1, nq2, nq3, nq4, nq5, nq6, nq7, nq8, nq9, u8_eq] at hb30
      refine seq_any fun _ hK12 => ?_
      refine ra0 (tch := []) hst5 hfr5 (.cons rfl (ob_loadS' rfl hc3 Try.isAgg35 Try.sizeOf35 rfl rfl) <| .cons rfl (ob_loadS' rfl hc4 Try.isAgg33 Try.sizeOf33 rfl rfl) <| .cons rfl (ob_call (φ := MP.anyB) rfl (.cons rfl <| .cons rfl <| .nil) Try.call70 (fun w m hK => by have hle_ := KC.le hK; have hA := KC.agree hK; have h_p := h_p.mono hle_; have h_t := h_t.mono hle_; exact FnG.mono (handles_c hA h_p h_t hbo) fun _ _ _ _ h => h)) <| .consA 34 rfl rfl <| .nil) ?_
      intro a6 w6 m6 hst6 hle6 hk6
      have hfr6 := hk6.fr (T' := []) (.nil)
      obtain ⟨y13, e13, hy13⟩ := hk6.ex 34 rfl
      replace hfr6 := hfr6.cons (hk6.same 6 rfl e13)
      clear hst5 hfr5 hk6
      refine hK12 _ _ ?_; clear hK12
      refine wp_ret ?_
      repeat (with_reducible first | refine then_ret ?_ | refine block_ret ?_)
      exact fn_ret hst6 hfr6 rfl (.tmp rfl <| .nil) (⟨_, rfl, fun _ => ⟨hk, fun h12 h14 => by first | (exfalso; omega) | exact List.eq_nil_of_length_eq_zero (by omega)⟩⟩)
    · try simp only [nq1, nq2, nq3, nq4, nq5, nq6, nq7, nq8, nq9, u8_eq] at hb30
      refine seq_any fun _ hK15 => ?_
      refine rp0 hst5 hfr5 (.cons rfl (ob_eql rfl rfl) <| .cons rfl (ob_assign rfl) <| .nil) ?_
      intro a6 w6 m6 hst6 hle6 hk6
      have hfr6 := hk6.fr (T' := [(2, _), (3, _), (4, _), (35, _)]) (.old rfl rfl <| .old rfl rfl <| .old rfl rfl <| .new rfl <| .nil)
      replace h_p := h_p.mono hle6
      replace hef_p := hef_p.mono hle6
      replace hda_p := hda_p.mono hle6
      replace hpb_p := hpb_p.mono hle6
      replace hkk_pb := hkk_pb.mono hle6
      replace haa_pb := haa_pb.mono hle6
      replace hrr_pb := hrr_pb.mono hle6
      replace h_t := h_t.mono hle6
      replace hkk_t := hkk_t.mono hle6
      replace haa_t := haa_t.mono hle6
      replace hrr_t := hrr_t.mono hle6
      replace h_l := h_l.mono hle6
      replace hc3 := hc3.mono hle6
      replace hc4 := hc4.mono hle6
      clear hst5 hfr5 hk6
      refine hK15 _ _ ?_; clear hK15
      refine cond_any hfr6 rfl rfl (fun hb35 => ?_) (fun hb35 => ?_)
      · try simp only [nq1, nq2, nq3, nq4, nq5, nq6, nq7, nq8, nq9, u8_eq] at hb35
        refine seq_any fun _ hK16 => ?_
        refine ra0 (tch := []) hst6 hfr6 (.cons rfl (ob_loadS' rfl hc3 Try.isAgg35 Try.sizeOf35 rfl rfl) <| .cons rfl (ob_loadS' rfl hc4 Try.isAgg33 Try.sizeOf33 rfl rfl) <| .cons rfl (ob_call (φ := MP.anyB) rfl (.cons rfl <| .cons rfl <| .nil) Try.call71 (fun w m hK => by have hle_ := KC.le hK; have hA := KC.agree hK; have h_p := h_p.mono hle_; have h_t := h_t.mono hle_; exact FnG.mono (matches_c hA h_p h_t) fun _ _ _ _ h => h)) <| .consA 39 rfl rfl <| .nil) ?_
        intro a7 w7 m7 hst7 hle7 hk7
        have hfr7 := hk7.fr (T' := []) (.nil)
        obtain ⟨y17, e17, hy17⟩ := hk7.ex 39 rfl
        replace hfr7 := hfr7.cons (hk7.same 6 rfl e17)
        clear hst6 hfr6 hk7
        refine hK16 _ _ ?_; clear hK16
        refine wp_ret ?_
        repeat (with_reducible first | refine then_ret ?_ | refine block_ret ?_)
        exact fn_ret hst7 hfr7 rfl (.tmp rfl <| .nil) (⟨_, rfl, fun _ => ⟨hk, fun h12 h14 => by first | (exfalso; omega) | exact List.eq_nil_of_length_eq_zero (by omega)⟩⟩)
      · try simp only [nq1, nq2, nq3, nq4, nq5, nq6, nq7, nq8, nq9, u8_eq] at hb35
        refine wp_skip ?_
        refine hK9 _ _ ?_; clear hK9
        refine seq_any fun _ hK19 => ?_
        refine seq_any fun _ hK20 => ?_
        refine rp0 hst6 hfr6 (.cons rfl (ob_fieldAddrO (off := 6) rfl Try.underlying33 rfl rfl Try.sizeOf25 rfl) <| .cons rfl (ob_load1 rfl hc4 Try.isAgg25 rfl) <| .cons rfl (ob_len rfl Try.underlying25) <| .cons rfl (ob_gtr rfl rfl) <| .nil) ?_
        intro a7 w7 m7 hst7 hle7 hk7
        have hfr7 := hk7.fr (T' := [(2, _), (3, _), (4, _), (43, _)]) (.old rfl rfl <| .old rfl rfl <| .old rfl rfl <| .new rfl <| .nil)
        replace h_p := h_p.mono hle7
        replace hef_p := hef_p.mono hle7
        replace hda_p := hda_p.mono hle7
        replace hpb_p := hpb_p.mono hle7
        replace hkk_pb := hkk_pb.mono hle7
        replace haa_pb := haa_pb.mono hle7
        replace hrr_pb := hrr_pb.mono hle7
        replace h_t := h_t.mono hle7
        replace hkk_t := hkk_t.mono hle7
        replace haa_t := haa_t.mono hle7
        replace hrr_t := hrr_t.mono hle7
        replace h_l := h_l.mono hle7
        replace hc3 := hc3.mono hle7
        replace hc4 := hc4.mono hle7
        clear hst6 hfr6 hk7
        refine hK20 _ _ ?_; clear hK20
        refine cond_any hfr7 rfl rfl (fun hb43 => ?_) (fun hb43 => ?_)
        · try simp only [nq1, nq2, nq3, nq4, nq5, nq6, nq7, nq8, nq9, u8_eq] at hb43
          refine seq_any fun _ hK21 => ?_
          refine rp0 hst7 hfr7 (.cons rfl (ob_assign rfl) <| .nil) ?_
          intro a8 w8 m8 hst8 hle8 hk8
          have hfr8 := hk8.fr (T' := [(6, _)]) (.new rfl <| .nil)
          clear hst7 hfr7 hk8
          refine hK21 _ _ ?_; clear hK21
          refine wp_ret ?_
          repeat (with_reducible first | refine then_ret ?_ | refine block_ret ?_)
          exact fn_ret hst8 hfr8 rfl (.tmp rfl <| .nil) (⟨false, rfl, fun h => by cases h⟩)
        · try simp only [nq1, nq2, nq3, nq4, nq5, nq6, nq7, nq8, nq9, u8_eq] at hb43
          refine wp_skip ?_
          refine hK19 _ _ ?_; clear hK19
          refine seq_any fun _ hK23 => ?_
          refine seq_any fun _ hK24 => ?_
          refine rp0 hst7 hfr7 (.cons rfl (ob_fieldAddrO (off := 0) rfl Try.underlying33 rfl rfl Try.sizeOf3 rfl) <| .cons rfl (ob_load1 rfl hc4 Try.isAgg3 rfl) <| .nil) ?_
          intro a8 w8 m8 hst8 hle8 hk8
          have hfr8 := hk8.fr (T' := [(2, _), (3, _), (4, _), (45, _)]) (.old rfl rfl <| .old rfl rfl <| .old rfl rfl <| .new rfl <| .nil)
          replace h_p := h_p.mono hle8
          replace hef_p := hef_p.mono hle8
          replace hda_p := hda_p.mono hle8
          replace hpb_p := hpb_p.mono hle8
          replace hkk_pb := hkk_pb.mono hle8
          replace haa_pb := haa_pb.mono hle8
          replace hrr_pb := hrr_pb.mono hle8
          replace h_t := h_t.mono hle8
          replace hkk_t := hkk_t.mono hle8
          replace haa_t := haa_t.mono hle8
          replace hrr_t := hrr_t.mono hle8
          replace h_l := h_l.mono hle8
          replace hc3 := hc3.mono hle8
          replace hc4 := hc4.mono hle8
          clear hst7 hfr7 hk8
          refine hK24 _ _ ?_; clear hK24
          refine wp_block ?_
          refine seq_any fun _ hK25 => ?_
          refine rp0 hst8 hfr8 (.cons rfl (ob_eql rfl rfl) <| .cons rfl (ob_assign rfl) <| .nil) ?_
          intro a9 w9 m9 hst9 hle9 hk9
          have hfr9 := hk9.fr (T' := [(2, _), (3, _), (4, _), (45, _), (46, _)]) (.old rfl rfl <| .old rfl rfl <| .old rfl rfl <| .old rfl rfl <| .new rfl <| .nil)
          replace h_p := h_p.mono hle9
          replace hef_p := hef_p.mono hle9
          replace hda_p := hda_p.mono hle9
          replace hpb_p := hpb_p.mono hle9
          replace hkk_pb := hkk_pb.mono hle9
          replace haa_pb := haa_pb.mono hle9
          replace hrr_pb := hrr_pb.mono hle9
          replace h_t := h_t.mono hle9
          replace hkk_t := hkk_t.mono hle9
          replace haa_t := haa_t.mono hle9
          replace hrr_t := hrr_t.mono hle9
          replace h_l := h_l.mono hle9
          replace hc3 := hc3.mono hle9
          replace hc4 := hc4.mono hle9
          clear hst8 hfr8 hk9
          refine hK25 _ _ ?_; clear hK25
          refine cond_any hfr9 rfl rfl (fun hb46 => ?_) (fun hb46 => ?_)
          · try simp only [nq1, nq2, nq3, nq4, nq5, nq6, nq7, nq8, nq9, u8_eq] at hb46
            refine seq_any fun _ hK26 => ?_
            refine rp0 hst9 hfr9 (.cons rfl (ob_fieldAddrO (off := 2) rfl Try.underlying33 rfl rfl Try.sizeOf9 rfl) <| .cons rfl (ob_load1 rfl hc4 Try.isAgg9 rfl) <| .cons rfl (ob_sneq rfl rfl) <| .cons rfl (ob_move rfl) <| .cons rfl (ob_move rfl) <| .cons rfl (ob_fieldAddrO (off := 2) rfl Try.underlying33 rfl rfl Try.sizeOf9 rfl) <| .cons rfl (ob_load1 rfl hc4 Try.isAgg9 rfl) <| .cons rfl (ob_callE rfl (.cons rfl <| .cons rfl <| .nil) Try.call15 (fun w m hK => by have hle_ := KC.le hK; have hA := KC.agree hK; have h_p := h_p.mono hle_; have hef_p := hef_p.mono hle_; have hda_p := hda_p.mono hle_; have hpb_p := hpb_p.mono hle_; have hkk_pb := hkk_pb.mono hle_; have haa_pb := haa_pb.mono hle_; have hrr_pb := hrr_pb.mono hle_; have h_t := h_t.mono hle_; have hkk_t := hkk_t.mono hle_; have haa_t := haa_t.mono hle_; have hrr_t := hrr_t.mono hle_; have h_l := h_l.mono hle_; have hc3 := hc3.mono hle_; have hc4 := hc4.mono hle_; exact in_c hA (by first | assumption | omega | simp_all))) <| .cons rfl (ob_and rfl rfl rfl) <| .cons rfl (ob_assign rfl) <| .nil) ?_
            intro a10 w10 m10 hst10 hle10 hk10
            have hfr10 := hk10.fr (T' := [(6, _)]) (.new rfl <| .nil)
            clear hst9 hfr9 hk10
            refine hK26 _ _ ?_; clear hK26
            refine wp_ret ?_
            repeat (with_reducible first | refine then_ret ?_ | refine block_ret ?_)
            exact fn_ret hst10 hfr10 rfl (.tmp rfl <| .nil) (⟨_, rfl, fun _ => ⟨hk, fun h12 h14 => by first | (exfalso; omega) | exact List.eq_nil_of_length_eq_zero (by omega)⟩⟩)
          · try simp only [nq1, nq2, nq3, nq4, nq5, nq6, nq7, nq8, nq9, u8_eq] at hb46
            refine seq_any fun _ hK28 => ?_
            refine rp0 hst9 hfr9 (.cons rfl (ob_eql rfl rfl) <| .cons rfl (ob_assign rfl) <| .nil) ?_
            intro a10 w10 m10 hst10 hle10 hk10
            have hfr10 := hk10.fr (T' := [(3, _), (4, _), (45, _), (57, _)]) (.old rfl rfl <| .old rfl rfl <| .old rfl rfl <| .new rfl <| .nil)
            replace h_p := h_p.mono hle10
            replace hc3 := hc3.mono hle10
            replace hc4 := hc4.mono hle10
            clear hst9 hfr9 hk10
            refine hK28 _ _ ?_; clear hK28
            refine cond_any hfr10 rfl rfl (fun hb57 => ?_) (fun hb57 => ?_)
            · try simp only [nq1, nq2, nq3, nq4, nq5, nq6, nq7, nq8, nq9, u8_eq] at hb57
              refine seq_any fun _ hK29 => ?_
              refine ra0 (tch := []) hst10 hfr10 (.cons rfl (ob_fieldAddrO (off := 2) rfl Try.underlying33 rfl rfl Try.sizeOf9 rfl) <| .cons rfl (ob_load1 rfl hc4 Try.isAgg9 rfl) <| .cons rfl (ob_call (φ := MP.anyIB) rfl (.cons rfl <| .nil) Try.call72 (fun w m hK => by have hle_ := KC.le hK; have hA := KC.agree hK; exact FnG.mono (prims_c hA) fun _ _ _ _ h => h)) <| .cons rfl (ob_imgV 62 rfl rfl rfl fun y62 => ob_move rfl) <| .cons rfl (ob_imgV 59 rfl rfl rfl fun y59 => ob_extract rfl rfl) <| .cons rfl (ob_imgV 59 rfl rfl rfl fun y59 => ob_extract rfl rfl) <| .consA 63 rfl rfl <| .consA 64 rfl rfl <| .nil) ?_
              intro a11 w11 m11 hst11 hle11 hk11
              have hfr11 := hk11.fr (T' := [(4, _)]) (.old rfl rfl <| .nil)
              obtain ⟨y30, e30, hy30⟩ := hk11.ex 63 rfl
              obtain ⟨y31, e31, hy31⟩ := hk11.ex 64 rfl
              replace hfr11 := hfr11.cons (hk11.same 8 rfl e30)
              replace hfr11 := hfr11.cons (hk11.same 9 rfl e31)
              replace hc4 := hc4.mono hle11
              clear hst10 hfr10 hk11
              refine hK29 _ _ ?_; clear hK29
              refine seq_any fun _ hK32 => ?_
              refine rp0 hst11 hfr11 (.cons rfl (ob_move rfl) <| .cons rfl (ob_move rfl) <| .cons rfl (ob_move rfl) <| .cons rfl (ob_fieldAddrO (off := 5) rfl Try.underlying33 rfl rfl Try.sizeOf24 rfl) <| .cons rfl (ob_load1 rfl hc4 Try.isAgg24 rfl) <| .cons rfl (ob_len rfl Try.underlying24) <| .cons rfl (ob_eql rfl rfl) <| .cons rfl (ob_and rfl rfl rfl) <| .cons rfl (ob_assign rfl) <| .nil) ?_
              intro a12 w12 m12 hst12 hle12 hk12
              have hfr12 := hk12.fr (T' := [(6, _)]) (.new rfl <| .nil)
              clear hst11 hfr11 hk12
              refine hK32 _ _ ?_; clear hK32
              refine wp_ret ?_
              repeat (with_reducible first | refine then_ret ?_ | refine block_ret ?_)
              exact fn_ret hst12 hfr12 rfl (.tmp rfl <| .nil) (⟨_, rfl, fun _ => ⟨hk, fun h12 h14 => by first | (exfalso; omega) | exact List.eq_nil_of_length_eq_zero (by omega)⟩⟩)
            · try simp only [nq1, nq2, nq3, nq4, nq5, nq6, nq7, nq8, nq9, u8_eq] at hb57
              refine seq_any fun _ hK34 => ?_
              refine rp0 hst10 hfr10 (.cons rfl (ob_eql rfl rfl) <| .cons rfl (ob_assign rfl) <| .nil) ?_
              intro a11 w11 m11 hst11 hle11 hk11
              have hfr11 := hk11.fr (T' := [(3, _), (4, _), (45, _), (73, _)]) (.old rfl rfl <| .old rfl rfl <| .old rfl rfl <| .new rfl <| .nil)
              replace h_p := h_p.mono hle11
              replace hc3 := hc3.mono hle11
              replace hc4 := hc4.mono hle11
              clear hst10 hfr10 hk11
              refine hK34 _ _ ?_; clear hK34
              refine cond_any hfr11 rfl rfl (fun hb73 => ?_) (fun hb73 => ?_)
              · try simp only [nq1, nq2, nq3, nq4, nq5, nq6, nq7, nq8, nq9, u8_eq] at hb73
                refine seq_any fun _ hK35 => ?_
                replace hst11 := hst11.more (r := .free) trivial List.nodup_nil (by simp [Res.blocks])
                replace hst11 := hst11.more (r := .free) trivial List.nodup_nil (by simp [Res.blocks])
                refine ra0 (tch := [(8, 0, (fun v => .blk v _)), (9, 1, (fun v => .blk v _)), (10, 0, (fun v => .blkx v _ _)), (11, 1, (fun v => .blkx v _ _))]) hst11 hfr11 (.cons rfl (ob_loadS' rfl hc3 Try.isAgg35 Try.sizeOf35 rfl rfl) <| .cons rfl (ob_fieldAddrO (off := 2) rfl Try.underlying33 rfl rfl Try.sizeOf9 rfl) <| .cons rfl (ob_load1 rfl hc4 Try.isAgg9 rfl) <| .cons rfl (ob_call (φ := MP.daB) rfl (.cons rfl <| .cons rfl <| .nil) Try.call73 (fun w m hK => by have hle_ := KC.le hK; have hA := KC.agree hK; have h_p := h_p.mono hle_; exact FnG.mono (con_c hA h_p) fun _ _ _ _ h => h)) <| .cons rfl (ob_imgV 79 rfl rfl rfl fun y79 => ob_move rfl) <| .cons rfl (ob_imgV 75 rfl rfl rfl fun y75 => ob_extract rfl rfl) <| .cons rfl (ob_imgV 75 rfl rfl rfl fun y75 => ob_extract rfl rfl) <| .cons rfl (ob_imgV 75 rfl rfl rfl fun y75 => ob_extract rfl rfl) <| .consT rfl rfl (fun _ => rfl) rfl (ob_allocL Try.zeroValue89 rfl) <| .consT rfl rfl (fun _ => rfl) rfl (ob_allocL Try.zeroValue91 rfl) <| .consT rfl rfl (fun _ => rfl) rfl (ob_imgT 10 rfl rfl rfl fun y10 => ob_imgTX 80 rfl rfl rfl fun y80 => ob_storeF rfl rfl rfl rfl rfl Try.sizeOf89 rfl rfl rfl) <| .consT rfl rfl (fun _ => rfl) rfl (ob_imgT 11 rfl rfl rfl fun y11 => ob_imgTX 81 rfl rfl rfl fun y81 => ob_storeF rfl rfl rfl rfl rfl Try.sizeOf91 rfl rfl rfl) <| .consA 82 rfl rfl <| .nil) ?_
                intro a12 w12 m12 hst12 hle12 hk12
                have hfr12 := hk12.fr (T' := [(4, _)]) (.old rfl rfl <| .nil)
                obtain ⟨y36, e36, hy36⟩ := hk12.ex 82 rfl
                obtain ⟨g37, e37, _⟩ := hk12.ex 10 rfl
                obtain ⟨g38, e38, _⟩ := hk12.ex 11 rfl
                replace hfr12 := hfr12.cons e38
                replace hfr12 := hfr12.cons (hk12.same 12 rfl e36)
                replace hst12 := hst12.fin (L' := [_, _]) (.cons e37 <| .cons e38 <| .cons e37 <| .cons e38 <| .nil)
                obtain ⟨y39, hy39, hst12⟩ := hst12.unx (k := 0) rfl (fun _ => rfl)
                obtain ⟨y40, hy40, hst12⟩ := hst12.unx (k := 1) rfl (fun _ => rfl)
                replace hc4 := hc4.mono hle12
                clear hst11 hfr11 hk12
                refine hK35 _ _ ?_; clear hK35
                refine seq_any fun _ hK41 => ?_
                refine rp0 hst12 hfr12 (.cons rfl (ob_move rfl) <| .cons rfl (ob_move rfl) <| .cons rfl (ob_fieldAddrO (off := 1) rfl Try.underlying91 rfl rfl Try.sizeOf26 rfl) <| .cons rfl (ob_loadL (j := 1) rfl rfl Try.isAgg26 rfl) <| .cons rfl (ob_len rfl Try.underlying26) <| .cons rfl (ob_fieldAddrO (off := 5) rfl Try.underlying33 rfl rfl Try.sizeOf24 rfl) <| .cons rfl (ob_load1 rfl hc4 Try.isAgg24 rfl) <| .cons rfl (ob_len rfl Try.underlying24) <| .cons rfl (ob_eql rfl rfl) <| .cons rfl (ob_and rfl rfl rfl) <| .cons rfl (ob_assign rfl) <| .nil) ?_
                intro a13 w13 m13 hst13 hle13 hk13
                have hfr13 := hk13.fr (T' := [(6, _)]) (.new rfl <| .nil)
                clear hst12 hfr12 hk13
                refine hK41 _ _ ?_; clear hK41
                refine wp_ret ?_
                repeat (with_reducible first | refine then_ret ?_ | refine block_ret ?_)
                exact fn_ret hst13 hfr13 rfl (.tmp rfl <| .nil) (⟨_, rfl, fun _ => ⟨hk, fun h12 h14 => by first | (exfalso; omega) | exact List.eq_nil_of_length_eq_zero (by omega)⟩⟩)
              · try simp only [nq1, nq2, nq3, nq4, nq5, nq6, nq7, nq8, nq9, u8_eq] at hb73
                refine seq_any fun _ hK43 => ?_
                refine rp0 hst11 hfr11 (.cons rfl (ob_eql rfl rfl) <| .cons rfl (ob_assign rfl) <| .nil) ?_
                intro a12 w12 m12 hst12 hle12 hk12
                have hfr12 := hk12.fr (T' := [(3, _), (4, _), (93, _)]) (.old rfl rfl <| .old rfl rfl <| .new rfl <| .nil)
                replace h_p := h_p.mono hle12
                replace hc3 := hc3.mono hle12
                replace hc4 := hc4.mono hle12
                clear hst11 hfr11 hk12
                refine hK43 _ _ ?_; clear hK43
                refine cond_any hfr12 rfl rfl (fun hb93 => ?_) (fun hb93 => ?_)
                · try simp only [nq1, nq2, nq3, nq4, nq5, nq6, nq7, nq8, nq9, u8_eq] at hb93
                  refine seq_any fun _ hK44 => ?_
                  replace hst12 := hst12.more (r := .free) trivial List.nodup_nil (by simp [Res.blocks])
                  replace hst12 := hst12.more (r := .free) trivial List.nodup_nil (by simp [Res.blocks])
                  refine ra0 (tch := [(8, 0, (fun v => .blk v _)), (9, 1, (fun v => .blk v _)), (10, 0, (fun v => .blkx v _ _)), (11, 1, (fun v => .blkx v _ _))]) hst12 hfr12 (.cons rfl (ob_loadS' rfl hc3 Try.isAgg35 Try.sizeOf35 rfl rfl) <| .cons rfl (ob_fieldAddrO (off := 2) rfl Try.underlying33 rfl rfl Try.sizeOf9 rfl) <| .cons rfl (ob_load1 rfl hc4 Try.isAgg9 rfl) <| .cons rfl (ob_call (φ := MP.aaB) rfl (.cons rfl <| .cons rfl <| .nil) Try.call74 (fun w m hK => by have hle_ := KC.le hK; have hA := KC.agree hK; have h_p := h_p.mono hle_; exact FnG.mono (effect_c hA h_p) fun _ _ _ _ h => h)) <| .cons rfl (ob_imgV 99 rfl rfl rfl fun y99 => ob_move rfl) <| .cons rfl (ob_imgV 95 rfl rfl rfl fun y95 => ob_extract rfl rfl) <| .cons rfl (ob_imgV 95 rfl rfl rfl fun y95 => ob_extract rfl rfl) <| .cons rfl (ob_imgV 95 rfl rfl rfl fun y95 => ob_extract rfl rfl) <| .consT rfl rfl (fun _ => rfl) rfl (ob_allocL Try.zeroValue83 rfl) <| .consT rfl rfl (fun _ => rfl) rfl (ob_allocL Try.zeroValue85 rfl) <| .consT rfl rfl (fun _ => rfl) rfl (ob_imgT 13 rfl rfl rfl fun y13 => ob_imgTX 100 rfl rfl rfl fun y100 => ob_storeF rfl rfl rfl rfl rfl Try.sizeOf83 rfl rfl rfl) <| .consT rfl rfl (fun _ => rfl) rfl (ob_imgT 14 rfl rfl rfl fun y14 => ob_imgTX 101 rfl rfl rfl fun y101 => ob_storeF rfl rfl rfl rfl rfl Try.sizeOf85 rfl rfl rfl) <| .consA 102 rfl rfl <| .nil) ?_
                  intro a13 w13 m13 hst13 hle13 hk13
                  have hfr13 := hk13.fr (T' := []) (.nil)
                  obtain ⟨y45, e45, hy45⟩ := hk13.ex 102 rfl
                  obtain ⟨g46, e46, _⟩ := hk13.ex 13 rfl
                  obtain ⟨g47, e47, _⟩ := hk13.ex 14 rfl
                  replace hfr13 := hfr13.cons (hk13.same 15 rfl e45)
                  replace hst13 := hst13.fin (L' := [_, _]) (.cons e46 <| .cons e47 <| .cons e46 <| .cons e47 <| .nil)
                  obtain ⟨y48, hy48, hst13⟩ := hst13.unx (k := 0) rfl (fun _ => rfl)
                  obtain ⟨y49, hy49, hst13⟩ := hst13.unx (k := 1) rfl (fun _ => rfl)
                  clear hst12 hfr12 hk13
                  refine hK44 _ _ ?_; clear hK44
                  refine seq_any fun _ hK50 => ?_
                  refine rp0 hst13 hfr13 (.cons rfl (ob_move rfl) <| .cons rfl (ob_assign rfl) <| .nil) ?_
                  intro a14 w14 m14 hst14 hle14 hk14
                  have hfr14 := hk14.fr (T' := [(6, _)]) (.new rfl <| .nil)
                  clear hst13 hfr13 hk14
                  refine hK50 _ _ ?_; clear hK50
                  refine wp_ret ?_
                  repeat (with_reducible first | refine then_ret ?_ | refine block_ret ?_)
                  exact fn_ret hst14 hfr14 rfl (.tmp rfl <| .nil) (⟨_, rfl, fun _ => ⟨hk, fun h12 h14 => by first | (exfalso; omega) | exact List.eq_nil_of_length_eq_zero (by omega)⟩⟩)
                · try simp only [nq1, nq2, nq3, nq4, nq5, nq6, nq7, nq8, nq9, u8_eq] at hb93
                  refine wp_skip ?_
                  refine hK23 _ _ ?_; clear hK23
                  refine seq_any fun _ hK52 => ?_
                  refine rp0 hst12 hfr12 (.cons rfl (ob_assign rfl) <| .nil) ?_
                  intro a13 w13 m13 hst13 hle13 hk13
                  have hfr13 := hk13.fr (T' := [(6, _)]) (.new rfl <| .nil)
                  clear hst12 hfr12 hk13
                  refine hK52 _ _ ?_; clear hK52
                  refine wp_ret ?_
                  repeat (with_reducible first | refine then_ret ?_ | refine block_ret ?_)
                  exact fn_ret hst13 hfr13 rfl (.tmp rfl <| .nil) (⟨_, rfl, fun _ => ⟨hk, fun h12 h14 => by first | (exfalso; omega) | exact List.eq_nil_of_length_eq_zero (by omega)⟩⟩)

set_option maxHeartbeats 400000 in
theorem withN_c {w : World} {m : Mem} {o_l : Option Addr} {c_l : Nat} {l : List Str} {o_k : Option Addr} {c_k : Nat} {k : List Str} (hA : Agree w m) (h_l : Strs m o_l l.length c_l l) (h_k : Strs m o_k k.length c_k k) (hbig : l.length + k.length ≤ 1073741824) : FnV Try.prog 52 #[.slice o_l l.length c_l, .slice o_k k.length c_k] w m (fun _ m v => (MP.strs (l ++ k)).p m v) := by
  have hb_l := h_l.big; have hc_l := h_l.cap
  have hb_k := h_k.big; have hc_k := h_k.cap
  refine fn_enter (vs := [_, _]) Try.func52 rfl rfl rfl fun a0 hfr0 => ?_
  have hst0 := st_enter hA (loc_nil [] _ w m)
  have hM : MLe m m := MLe.refl m
  refine seq_any fun _ hK1 => ?_
  refine rp0 hst0 hfr0 (.cons rfl (ob_assign rfl) <| .nil) ?_
  intro a1 w1 m1 hst1 hle1 hk1
  have hfr1 := hk1.fr (T' := [(0, _), (1, _)]) (.old rfl rfl <| .old rfl rfl <| .nil)
  replace h_l := h_l.mono hle1
  replace h_k := h_k.mono hle1
  clear hst0 hfr0 hk1
  refine hK1 _ _ ?_; clear hK1
  refine seq_any fun _ hK2 => ?_
  obtain ⟨cs_3, hrw_3, hrd_3, hcl_3⟩ := h_l.reads
  obtain ⟨cs_4, hrw_4, hrd_4, hcl_4⟩ := h_k.reads
  replace hst1 := hst1.more (r := .free) trivial List.nodup_nil (by simp [Res.blocks])
  refine ra0 (tch := [(2, 0, (fun v => .row (nz v) _ _ _ _)), (4, 0, (fun v => .row (nz v) _ _ _ _))]) hst1 hfr1 (.cons rfl (ob_buildSlice0 Try.underlying27 Try.sizeOf9) <| .cons rfl (ob_move rfl) <| .consT rfl rfl (fun _ => rfl) rfl (ob_imgT 5 rfl rfl rfl fun y5 => ob_appendZ (size := 1) (bytes := 16) rfl rfl (fun _ => .inr ⟨rfl, rfl, rfl, rfl⟩) Try.underlying27 Try.type9 rfl rfl rfl rfl (fun w m hK => hrw_3.mono (KC.le hK)) hcl_3 (by decide) hrd_3.one (by simp only [maxLen]; omega) (by omega)) <| .cons rfl (ob_move rfl) <| .consT rfl rfl (fun _ => rfl) rfl (ob_imgT 7 rfl rfl rfl fun y7 => ob_appendZ (size := 1) (bytes := 16) rfl rfl (fun _ => .inl rfl) Try.underlying27 Try.type9 rfl rfl rfl rfl (fun w m hK => hrw_4.mono (KC.le hK)) hcl_4 (by decide) hrd_4.one (by simp only [maxLen]; omega) (by omega)) <| .consA 9 rfl rfl <| .nil) ?_
  intro a2 w2 m2 hst2 hle2 hk2
  have hfr2 := hk2.fr (T' := []) (.nil)
  obtain ⟨⟨oz3, cz3⟩, e5, hrz3, hcz3⟩ := hk2.ex 7 rfl
  replace e5 : envOf a2 7 = .slice oz3 (l).length cz3 := by rw [e5]; refine congrArg (fun q => Value.slice _ q _) ?_; first | omega | (simp only [List.length_append, List.length_cons, List.length_nil, List.nil_append, List.length_take, List.length_drop]; try omega)
  obtain ⟨⟨oz4, cz4⟩, e6, hrz4, hcz4⟩ := hk2.ex 9 rfl
  replace e6 : envOf a2 9 = .slice oz4 ((l ++ k)).length cz4 := by rw [e6]; refine congrArg (fun q => Value.slice _ q _) ?_; first | omega | (simp only [List.length_append, List.length_cons, List.length_nil, List.nil_append, List.length_take, List.length_drop]; try omega)
  replace hfr2 := hfr2.cons (hk2.same 4 rfl e6)
  replace hst2 := hst2.fin (L' := [_]) (.cons e5 <| .cons e6 <| .nil)
  replace hrd_3 := hrd_3.mono hle2
  replace hrd_4 := hrd_4.mono hle2
  clear hst1 hfr1 hk2
  have hsz4 : Strs m2 oz4 ((l ++ k)).length cz4 (l ++ k) := Reads.sl ((Reads.nil.app hrd_3).app hrd_4) hrz4 (by decide) rfl (by have h := hcz4; first | omega | (simp only [List.length_append, List.length_cons, List.length_nil, List.nil_append, List.length_take, List.length_drop] at h ⊢; omega)) (by first | omega | (simp only [List.length_append, List.length_cons, List.length_nil, List.nil_append, List.length_take, List.length_drop]; omega))
  refine hK2 _ _ ?_; clear hK2
  refine wp_ret ?_
  repeat (with_reducible first | refine then_ret ?_ | refine block_ret ?_)
  exact fn_ret hst2 hfr2 rfl (.tmp rfl <| .nil) (⟨(oz4, cz4), rfl, hsz4⟩)

set_option maxHeartbeats 400000 in
theorem bound_c {w : World} {m : Mem} {t : Tm} {vs_t : List Value} {i : Nat} (hA : Agree w m) (h_t : TmR m t vs_t) : FnV Try.prog 34 #[.agg vs_t.toArray, .int .i64 (i : Int)] w m (fun _ m v => (MP.strs (boundR t.kind t.name t.param i)).p m v) := by
  obtain ⟨⟨oK_t, cK_t, oA_t, cA_t, oR_t, cR_t, t0_t, t1_t, t2_t, t3_t, t4_t, t5_t, u0_t, u1_t, u2_t, u3_t, u4_t, u5_t⟩, rfl, hon_t, hkk_t, haa_t, hrr_t⟩ := h_t.open_
  dsimp only at hkk_t haa_t hrr_t
  have hbg_t := hkk_t.big; have hcp_t := hkk_t.cap; have hbh_t := haa_t.big; have hcq_t := haa_t.cap
  refine fn_enter (vs := [_, _]) Try.func34 rfl rfl rfl fun a0 hfr0 => ?_
  have hst0 := st_enter hA (loc_nil [] _ w m)
  have hM : MLe m m := MLe.refl m
  refine seq_any fun _ hK1 => ?_
  refine rp0 hst0 hfr0 (.cons rfl (ob_box rfl rfl) <| .cons rfl (ob_assign rfl) <| .nil) ?_
  intro a1 w1 m1 hst1 hle1 hk1
  have hfr1 := hk1.fr (T' := [(1, _)]) (.old rfl rfl <| .nil)
  obtain ⟨g2, e2, hc2⟩ := hk1.ex 2 rfl
  replace hfr1 := hfr1.cons e2
  clear hst0 hfr0 hk1
  refine hK1 _ _ ?_; clear hK1
  refine seq_any fun _ hK3 => ?_
  refine seq_any fun _ hK4 => ?_
  refine rp0 hst1 hfr1 (.cons rfl (ob_fieldAddrO (off := 0) rfl Try.underlying33 rfl rfl Try.sizeOf3 rfl) <| .cons rfl (ob_load1 rfl hc2 Try.isAgg3 rfl) <| .nil) ?_
  intro a2 w2 m2 hst2 hle2 hk2
  have hfr2 := hk2.fr (T' := [(1, _), (2, _), (6, _)]) (.old rfl rfl <| .old rfl rfl <| .new rfl <| .nil)
  replace hc2 := hc2.mono hle2
  clear hst1 hfr1 hk2
  refine hK4 _ _ ?_; clear hK4
  refine wp_block ?_
  refine seq_any fun _ hK5 => ?_
  refine rp0 hst2 hfr2 (.cons rfl (ob_eql rfl rfl) <| .cons rfl (ob_assign rfl) <| .nil) ?_
  intro a3 w3 m3 hst3 hle3 hk3
  have hfr3 := hk3.fr (T' := [(1, _), (2, _), (6, _), (7, _)]) (.old rfl rfl <| .old rfl rfl <| .old rfl rfl <| .new rfl <| .nil)
  replace hc2 := hc2.mono hle3
  clear hst2 hfr2 hk3
  refine hK5 _ _ ?_; clear hK5
  refine cond_any hfr3 rfl rfl (fun hb7 => ?_) (fun hb7 => ?_)
  · try simp only [nq1, nq2, nq3, nq4, nq5, nq6, nq7, nq8, nq9, u8_eq] at hb7
    refine seq_any fun _ hK6 => ?_
    refine ra0 (tch := []) hst3 hfr3 (.cons rfl (ob_fieldAddrO (off := 2) rfl Try.underlying33 rfl rfl Try.sizeOf9 rfl) <| .cons rfl (ob_load1 rfl hc2 Try.isAgg9 rfl) <| .cons rfl (ob_buildSlice (.cons rfl <| .nil) Try.underlying27 Try.sizeOf9 Try.zeroValue9 rfl rfl rfl rfl) <| .consA 11 rfl rfl <| .nil) ?_
    intro a4 w4 m4 hst4 hle4 hk4
    have hfr4 := hk4.fr (T' := []) (.nil)
    obtain ⟨g9, e7, hg9⟩ := hk4.ex 11 rfl
    replace hfr4 := hfr4.cons (hk4.same 4 rfl e7)
    clear hst3 hfr3 hk4
    refine hK6 _ _ ?_; clear hK6
    refine wp_ret ?_
    repeat (with_reducible first | refine then_ret ?_ | refine block_ret ?_)
    exact fn_ret hst4 hfr4 rfl (.tmp rfl <| .nil) (⟨(some ⟨g9, 0, none⟩, 1), by rw [show boundR t.kind t.name t.param i = [t.name] from by unfold boundR; simp_all]; rfl, by rw [show boundR t.kind t.name t.param i = [t.name] from by unfold boundR; simp_all]; exact Sl.one (vs := [_]) hg9 rfl rfl⟩)
  · try simp only [nq1, nq2, nq3, nq4, nq5, nq6, nq7, nq8, nq9, u8_eq] at hb7
    refine seq_any fun _ hK9 => ?_
    refine rp0 hst3 hfr3 (.cons rfl (ob_eql rfl rfl) <| .cons rfl (ob_assign rfl) <| .nil) ?_
    intro a4 w4 m4 hst4 hle4 hk4
    have hfr4 := hk4.fr (T' := [(1, _), (2, _), (6, _), (12, _)]) (.old rfl rfl <| .old rfl rfl <| .old rfl rfl <| .new rfl <| .nil)
    replace hc2 := hc2.mono hle4
    clear hst3 hfr3 hk4
    refine hK9 _ _ ?_; clear hK9
    refine cond_any hfr4 rfl rfl (fun hb12 => ?_) (fun hb12 => ?_)
    · try simp only [nq1, nq2, nq3, nq4, nq5, nq6, nq7, nq8, nq9, u8_eq] at hb12
      refine seq_any fun _ hK10 => ?_
      refine rp0 hst4 hfr4 (.cons rfl (ob_move rfl) <| .cons rfl (ob_eql rfl rfl) <| .nil) ?_
      intro a5 w5 m5 hst5 hle5 hk5
      have hfr5 := hk5.fr (T' := [(2, _), (15, _)]) (.old rfl rfl <| .new rfl <| .nil)
      replace hc2 := hc2.mono hle5
      clear hst4 hfr4 hk5
      refine hK10 _ _ ?_; clear hK10
      refine cond_any hfr5 rfl rfl (fun hb15 => ?_) (fun hb15 => ?_)
      · try simp only [nq1, nq2, nq3, nq4, nq5, nq6, nq7, nq8, nq9, u8_eq] at hb15
        refine seq_any fun _ hK11 => ?_
        refine ra0 (tch := []) hst5 hfr5 (.cons rfl (ob_fieldAddrO (off := 2) rfl Try.underlying33 rfl rfl Try.sizeOf9 rfl) <| .cons rfl (ob_load1 rfl hc2 Try.isAgg9 rfl) <| .cons rfl (ob_buildSlice (.cons rfl <| .nil) Try.underlying27 Try.sizeOf9 Try.zeroValue9 rfl rfl rfl rfl) <| .consA 18 rfl rfl <| .nil) ?_
        intro a6 w6 m6 hst6 hle6 hk6
        have hfr6 := hk6.fr (T' := []) (.nil)
        obtain ⟨g9, e12, hg9⟩ := hk6.ex 18 rfl
        replace hfr6 := hfr6.cons (hk6.same 4 rfl e12)
        clear hst5 hfr5 hk6
        refine hK11 _ _ ?_; clear hK11
        refine wp_ret ?_
        repeat (with_reducible first | refine then_ret ?_ | refine block_ret ?_)
        exact fn_ret hst6 hfr6 rfl (.tmp rfl <| .nil) (⟨(some ⟨g9, 0, none⟩, 1), by rw [show boundR t.kind t.name t.param i = [t.name] from by unfold boundR; rw [if_neg hb7, if_pos hb12, if_pos (by omega)]]; rfl, by rw [show boundR t.kind t.name t.param i = [t.name] from by unfold boundR; rw [if_neg hb7, if_pos hb12, if_pos (by omega)]]; exact Sl.one (vs := [_]) hg9 rfl rfl⟩)
      · try simp only [nq1, nq2, nq3, nq4, nq5, nq6, nq7, nq8, nq9, u8_eq] at hb15
        refine wp_skip ?_
        refine hK3 _ _ ?_; clear hK3
        refine seq_any fun _ hK14 => ?_
        refine rp0 hst5 hfr5 (.cons rfl (ob_assign rfl) <| .nil) ?_
        intro a6 w6 m6 hst6 hle6 hk6
        have hfr6 := hk6.fr (T' := [(4, _)]) (.new rfl <| .nil)
        clear hst5 hfr5 hk6
        refine hK14 _ _ ?_; clear hK14
        refine wp_ret ?_
        repeat (with_reducible first | refine then_ret ?_ | refine block_ret ?_)
        exact fn_ret hst6 hfr6 rfl (.tmp rfl <| .nil) (⟨(none, 0), by rw [show boundR t.kind t.name t.param i = [] from by unfold boundR; first | rw [if_neg hb7, if_pos hb12, if_neg (by omega)] | rw [if_neg hb7, if_neg hb12, if_neg hb19]]; rfl, by rw [show boundR t.kind t.name t.param i = [] from by unfold boundR; first | rw [if_neg hb7, if_pos hb12, if_neg (by omega)] | rw [if_neg hb7, if_neg hb12, if_neg hb19]]; exact Sl.empty⟩)
    · try simp only [nq1, nq2, nq3, nq4, nq5, nq6, nq7, nq8, nq9, u8_eq] at hb12
      refine seq_any fun _ hK16 => ?_
      refine rp0 hst4 hfr4 (.cons rfl (ob_eql rfl rfl) <| .cons rfl (ob_assign rfl) <| .nil) ?_
      intro a5 w5 m5 hst5 hle5 hk5
      have hfr5 := hk5.fr (T' := [(1, _), (2, _), (19, _)]) (.old rfl rfl <| .old rfl rfl <| .new rfl <| .nil)
      replace hc2 := hc2.mono hle5
      clear hst4 hfr4 hk5
      refine hK16 _ _ ?_; clear hK16
      refine cond_any hfr5 rfl rfl (fun hb19 => ?_) (fun hb19 => ?_)
      · try simp only [nq1, nq2, nq3, nq4, nq5, nq6, nq7, nq8, nq9, u8_eq] at hb19
        refine seq_any fun _ hK17 => ?_
        refine seq_any fun _ hK18 => ?_
        refine rp0 hst5 hfr5 (.cons rfl (ob_move rfl) <| .cons rfl (ob_eql rfl rfl) <| .nil) ?_
        intro a6 w6 m6 hst6 hle6 hk6
        have hfr6 := hk6.fr (T' := [(2, _), (22, _)]) (.old rfl rfl <| .new rfl <| .nil)
        replace hc2 := hc2.mono hle6
        clear hst5 hfr5 hk6
        refine hK18 _ _ ?_; clear hK18
        refine cond_any hfr6 rfl rfl (fun hb22 => ?_) (fun hb22 => ?_)
        · try simp only [nq1, nq2, nq3, nq4, nq5, nq6, nq7, nq8, nq9, u8_eq] at hb22
          refine seq_any fun _ hK19 => ?_
          refine ra0 (tch := []) hst6 hfr6 (.cons rfl (ob_fieldAddrO (off := 2) rfl Try.underlying33 rfl rfl Try.sizeOf9 rfl) <| .cons rfl (ob_load1 rfl hc2 Try.isAgg9 rfl) <| .cons rfl (ob_fieldAddrO (off := 3) rfl Try.underlying33 rfl rfl Try.sizeOf9 rfl) <| .cons rfl (ob_load1 rfl hc2 Try.isAgg9 rfl) <| .cons rfl (ob_buildSlice (.cons rfl <| .cons rfl <| .nil) Try.underlying27 Try.sizeOf9 Try.zeroValue9 rfl rfl rfl rfl) <| .consA 27 rfl rfl <| .nil) ?_
          intro a7 w7 m7 hst7 hle7 hk7
          have hfr7 := hk7.fr (T' := []) (.nil)
          obtain ⟨g9, e20, hg9⟩ := hk7.ex 27 rfl
          replace hfr7 := hfr7.cons (hk7.same 4 rfl e20)
          clear hst6 hfr6 hk7
          refine hK19 _ _ ?_; clear hK19
          refine wp_ret ?_
          repeat (with_reducible first | refine then_ret ?_ | refine block_ret ?_)
          exact fn_ret hst7 hfr7 rfl (.tmp rfl <| .nil) (⟨(some ⟨g9, 0, none⟩, 2), by rw [show boundR t.kind t.name t.param i = [t.name, t.param] from by unfold boundR; rw [if_neg hb7, if_neg hb12, if_pos hb19, if_pos (by omega)]]; rfl, by rw [show boundR t.kind t.name t.param i = [t.name, t.param] from by unfold boundR; rw [if_neg hb7, if_neg hb12, if_pos hb19, if_pos (by omega)]]; exact Sl.two (vs := [_]) (us := [_]) hg9 rfl rfl rfl rfl⟩)
        · try simp only [nq1, nq2, nq3, nq4, nq5, nq6, nq7, nq8, nq9, u8_eq] at hb22
          refine wp_skip ?_
          refine hK17 _ _ ?_; clear hK17
          refine seq_any fun _ hK22 => ?_
          refine ra0 (tch := []) hst6 hfr6 (.cons rfl (ob_fieldAddrO (off := 2) rfl Try.underlying33 rfl rfl Try.sizeOf9 rfl) <| .cons rfl (ob_load1 rfl hc2 Try.isAgg9 rfl) <| .cons rfl (ob_buildSlice (.cons rfl <| .nil) Try.underlying27 Try.sizeOf9 Try.zeroValue9 rfl rfl rfl rfl) <| .consA 30 rfl rfl <| .nil) ?_
          intro a7 w7 m7 hst7 hle7 hk7
          have hfr7 := hk7.fr (T' := []) (.nil)
          obtain ⟨g9, e23, hg9⟩ := hk7.ex 30 rfl
          replace hfr7 := hfr7.cons (hk7.same 4 rfl e23)
          clear hst6 hfr6 hk7
          refine hK22 _ _ ?_; clear hK22
          refine wp_ret ?_
          repeat (with_reducible first | refine then_ret ?_ | refine block_ret ?_)
          exact fn_ret hst7 hfr7 rfl (.tmp rfl <| .nil) (⟨(some ⟨g9, 0, none⟩, 1), by rw [show boundR t.kind t.name t.param i = [t.name] from by unfold boundR; rw [if_neg hb7, if_neg hb12, if_pos hb19, if_neg (by omega)]]; rfl, by rw [show boundR t.kind t.name t.param i = [t.name] from by unfold boundR; rw [if_neg hb7, if_neg hb12, if_pos hb19, if_neg (by omega)]]; exact Sl.one (vs := [_]) hg9 rfl rfl⟩)
      · try simp only [nq1, nq2, nq3, nq4, nq5, nq6, nq7, nq8, nq9, u8_eq] at hb19
        refine wp_skip ?_
        refine hK3 _ _ ?_; clear hK3
        refine seq_any fun _ hK25 => ?_
        refine rp0 hst5 hfr5 (.cons rfl (ob_assign rfl) <| .nil) ?_
        intro a6 w6 m6 hst6 hle6 hk6
        have hfr6 := hk6.fr (T' := [(4, _)]) (.new rfl <| .nil)
        clear hst5 hfr5 hk6
        refine hK25 _ _ ?_; clear hK25
        refine wp_ret ?_
        repeat (with_reducible first | refine then_ret ?_ | refine block_ret ?_)
        exact fn_ret hst6 hfr6 rfl (.tmp rfl <| .nil) (⟨(none, 0), by rw [show boundR t.kind t.name t.param i = [] from by unfold boundR; first | rw [if_neg hb7, if_pos hb12, if_neg (by omega)] | rw [if_neg hb7, if_neg hb12, if_neg hb19]]; rfl, by rw [show boundR t.kind t.name t.param i = [] from by unfold boundR; first | rw [if_neg hb7, if_pos hb12, if_neg (by omega)] | rw [if_neg hb7, if_neg hb12, if_neg hb19]]; exact Sl.empty⟩)

theorem boundR_len (k : Int) (s p : Str) (i : Nat) : (boundR k s p i).length ≤ 2 := by unfold boundR; split; simp; split; split <;> simp; split; split <;> simp; simp
theorem all_take {α : Type} {p : α → Prop} {l : List α} {y : Nat} {x : α} (h : ∀ u ∈ l.take y, p u) (e : l.take (y + 1) = l.take y ++ [x]) (hx : p x) : ∀ u ∈ l.take (y + 1), p u := by
  intro u hu
  rw [e] at hu
  rcases List.mem_append.1 hu with h1 | h1
  · exact h u h1
  · rw [List.mem_singleton] at h1; subst h1; exact hx

abbrev term_G (t : Tm) : Prop := ∀ {w : World} {m : Mem} {p : Pg} {vs_p : List Value} {vs_t : List Value} {o_l : Option Addr} {c_l : Nat} {l : List Str} (hA : Agree w m) (h_p : PgR m p vs_p) (h_t : TmR m t vs_t) (h_l : Strs m o_l l.length c_l l) (hbo : opsN p.effects ≤ 1000000000) (hbig : l.length + bulkM t ≤ 1000000000), FnV Try.prog 40 #[.agg vs_p.toArray, .agg vs_t.toArray, .slice o_l l.length c_l] w m (fun _ m v => (MP.termB t).p m v)
set_option maxHeartbeats 800000 in
theorem term_s {t : Tm} (ihk : ∀ u ∈ t.kids, term_G u) (iha : ∀ a ∈ t.arms, term_G a.body) {w : World} {m : Mem} {p : Pg} {vs_p : List Value} {vs_t : List Value} {o_l : Option Addr} {c_l : Nat} {l : List Str} (hA : Agree w m) (h_p : PgR m p vs_p) (h_t : TmR m t vs_t) (h_l : Strs m o_l l.length c_l l) (hbo : opsN p.effects ≤ 1000000000) (hbig : l.length + bulkM t ≤ 1000000000) : FnV Try.prog 40 #[.agg vs_p.toArray, .agg vs_t.toArray, .slice o_l l.length c_l] w m (fun _ m v => (MP.termB t).p m v) := by
  obtain ⟨oE_p, cE_p, oD_p, cD_p, bs_p, rfl, hef_p, hda_p, hpb_p⟩ := id h_p
  have hbe_p := hef_p.big; have hce_p := hef_p.cap; have hbda_p := hda_p.big; have hcd_p := hda_p.cap
  obtain ⟨⟨oK_pb, cK_pb, oA_pb, cA_pb, oR_pb, cR_pb, t0_pb, t1_pb, t2_pb, t3_pb, t4_pb, t5_pb, u0_pb, u1_pb, u2_pb, u3_pb, u4_pb, u5_pb⟩, rfl, hon_pb, hkk_pb, haa_pb, hrr_pb⟩ := hpb_p.open_
  dsimp only at hkk_pb haa_pb hrr_pb
  have hbg_pb := hkk_pb.big; have hcp_pb := hkk_pb.cap; have hbh_pb := haa_pb.big; have hcq_pb := haa_pb.cap
  obtain ⟨⟨oK_t, cK_t, oA_t, cA_t, oR_t, cR_t, t0_t, t1_t, t2_t, t3_t, t4_t, t5_t, u0_t, u1_t, u2_t, u3_t, u4_t, u5_t⟩, rfl, hon_t, hkk_t, haa_t, hrr_t⟩ := h_t.open_
  dsimp only at hkk_t haa_t hrr_t
  have hbg_t := hkk_t.big; have hcp_t := hkk_t.cap; have hbh_t := haa_t.big; have hcq_t := haa_t.cap
  have hb_l := h_l.big; have hc_l := h_l.cap
  refine fn_enter (vs := [_, _, _]) Try.func40 rfl rfl rfl fun a0 hfr0 => ?_
  have hst0 := st_enter hA (loc_nil [] _ w m)
  have hM : MLe m m := MLe.refl m
  have hbk := fun u (hu : u ∈ t.kids) => bulk_kid hu
  have hba := fun a (ha : a ∈ t.arms) => bulk_arm ha
  refine seq_any fun _ hK1 => ?_
  refine rp0 hst0 hfr0 (.cons rfl (ob_box rfl rfl) <| .cons rfl (ob_box rfl rfl) <| .cons rfl (ob_assign rfl) <| .cons rfl (ob_assign rfl) <| .nil) ?_
  intro a1 w1 m1 hst1 hle1 hk1
  have hfr1 := hk1.fr (T' := [(2, _)]) (.old rfl rfl <| .nil)
  obtain ⟨g2, e2, hc3⟩ := hk1.ex 3 rfl
  replace hfr1 := hfr1.cons e2
  obtain ⟨g3, e3, hc4⟩ := hk1.ex 4 rfl
  replace hfr1 := hfr1.cons e3
  replace h_p := h_p.mono hle1
  replace h_t := h_t.mono hle1
  replace hkk_t := hkk_t.mono hle1
  replace haa_t := haa_t.mono hle1
  replace h_l := h_l.mono hle1
  clear hst0 hfr0 hk1
  refine hK1 _ _ ?_; clear hK1
  refine seq_any fun _ hK4 => ?_
  refine seq_any fun _ hK5 => ?_
  refine rp0 hst1 hfr1 (.cons rfl (ob_loadS' rfl hc3 Try.isAgg35 Try.sizeOf35 rfl rfl) <| .cons rfl (ob_loadS' rfl hc4 Try.isAgg33 Try.sizeOf33 rfl rfl) <| .cons rfl (ob_move rfl) <| .cons rfl (ob_call (φ := MP.oneB t) rfl (.cons rfl <| .cons rfl <| .cons rfl <| .nil) Try.call51 (fun w m hK => by have hle_ := KC.le hK; have hA := KC.agree hK; have h_p := h_p.mono hle_; have h_t := h_t.mono hle_; have h_l := h_l.mono hle_; exact FnG.mono (one_c hA h_p h_t h_l hbo) fun _ _ _ _ h => h)) <| .cons rfl (ob_imgV 17 rfl rfl rfl fun y17 => ob_not rfl) <| .nil) ?_
  intro a2 w2 m2 hst2 hle2 hk2
  have hfr2 := hk2.fr (T' := [(2, _), (3, _), (4, _)]) (.old rfl rfl <| .old rfl rfl <| .old rfl rfl <| .nil)
  obtain ⟨b18, e6, hr18⟩ := hk2.ex 18 rfl
  replace hfr2 := hfr2.cons e6
  replace h_p := h_p.mono hle2
  replace h_t := h_t.mono hle2
  replace hkk_t := hkk_t.mono hle2
  replace haa_t := haa_t.mono hle2
  replace h_l := h_l.mono hle2
  replace hc3 := hc3.mono hle2
  replace hc4 := hc4.mono hle2
  clear hst1 hfr1 hk2
  refine hK5 _ _ ?_; clear hK5
  refine cond_any hfr2 rfl rfl (fun hb18 => ?_) (fun hb18 => ?_)
  · try simp only [nq1, nq2, nq3, nq4, nq5, nq6, nq7, nq8, nq9, u8_eq] at hb18
    refine seq_any fun _ hK7 => ?_
    refine rp0 hst2 hfr2 (.cons rfl (ob_fieldAddrO (off := 1) rfl Try.underlying33 rfl rfl Try.sizeOf3 rfl) <| .cons rfl (ob_load1 rfl hc4 Try.isAgg3 rfl) <| .cons rfl (ob_assign rfl) <| .cons rfl (ob_assign rfl) <| .nil) ?_
    intro a3 w3 m3 hst3 hle3 hk3
    have hfr3 := hk3.fr (T' := [(6, _), (7, _)]) (.new rfl <| .new rfl <| .nil)
    clear hst2 hfr2 hk3
    refine hK7 _ _ ?_; clear hK7
    refine wp_ret ?_
    repeat (with_reducible first | refine then_ret ?_ | refine block_ret ?_)
    exact fn_ret hst3 hfr3 rfl (.tmp rfl <| .tmp rfl <| .nil) (⟨(_, false), rfl, fun h => by cases h⟩)
  · try simp only [nq1, nq2, nq3, nq4, nq5, nq6, nq7, nq8, nq9, u8_eq] at hb18
    have hone9 : kindOk t := hr18 (cast (Bool.not_eq_false' b18) hb18)
    refine wp_skip ?_
    refine hK4 _ _ ?_; clear hK4
    refine seq_any fun _ hK9 => ?_
    refine seq_any fun _ hK10 => ?_
    refine rp0 hst2 hfr2 (.cons rfl (ob_assign rfl) <| .nil) ?_
    intro a3 w3 m3 hst3 hle3 hk3
    have hfr3 := hk3.fr (T' := [(2, _), (3, _), (4, _), (8, _)]) (.old rfl rfl <| .old rfl rfl <| .old rfl rfl <| .new rfl <| .nil)
    replace h_p := h_p.mono hle3
    replace h_t := h_t.mono hle3
    replace hkk_t := hkk_t.mono hle3
    replace haa_t := haa_t.mono hle3
    replace h_l := h_l.mono hle3
    replace hc3 := hc3.mono hle3
    replace hc4 := hc4.mono hle3
    clear hst2 hfr2 hk3
    refine hK10 _ _ ?_; clear hK10
    refine wp_block ?_
    refine loop_any (T := [(2, _), (3, _), (4, _)]) (fun (y : Nat) => ([(8, .int .i64 (y : Int))] : List (Nat × Value))) (fun _ => _) (fun (y : Nat) m => (y ≤ t.kids.length) ∧ (∀ u ∈ t.kids.take y, RtT u)) (fun y => t.kids.length - y) (0) ⟨hst3, MLe.refl _, hfr3.sub (.cons rfl <| .cons rfl <| .cons rfl <| .cons rfl <| .nil), ⟨Nat.zero_le _, by simp⟩⟩ fun y a4 w4 m4 hh4 => ?_
    have hst4 := hh4.st; have hle4 := hh4.le; have hfr4 := hh4.fr; have hrel := hh4.rel; clear hh4
    replace h_p := h_p.mono hle4
    replace h_t := h_t.mono hle4
    replace hkk_t := hkk_t.mono hle4
    replace haa_t := haa_t.mono hle4
    replace h_l := h_l.mono hle4
    replace hc3 := hc3.mono hle4
    replace hc4 := hc4.mono hle4
    clear hst3 hfr3
    obtain ⟨hyn, hall⟩ := hrel
    have hlh4 := hle4
    refine seq_any fun _ hK12 => ?_
    refine seq_any fun _ hK13 => ?_
    refine rp0 hst4 hfr4 (.cons rfl (ob_move rfl) <| .cons rfl (ob_fieldAddrO (off := 5) rfl Try.underlying33 rfl rfl Try.sizeOf24 rfl) <| .cons rfl (ob_load1 rfl hc4 Try.isAgg24 rfl) <| .cons rfl (ob_len rfl Try.underlying24) <| .cons rfl (ob_lss rfl rfl) <| .nil) ?_
    intro a5 w5 m5 hst5 hle5 hk5
    have hfr5 := hk5.fr (T' := [(8, _), (2, _), (3, _), (4, _), (25, _)]) (.old rfl rfl <| .old rfl rfl <| .old rfl rfl <| .old rfl rfl <| .new rfl <| .nil)
    replace h_p := h_p.mono hle5
    replace h_t := h_t.mono hle5
    replace hkk_t := hkk_t.mono hle5
    replace haa_t := haa_t.mono hle5
    replace h_l := h_l.mono hle5
    replace hc3 := hc3.mono hle5
    replace hc4 := hc4.mono hle5
    have hlh5 := hlh4.trans hle5
    clear hst4 hfr4 hk5
    refine hK13 _ _ ?_; clear hK13
    refine cond_any hfr5 rfl rfl (fun hb25 => ?_) (fun hb25 => ?_)
    · try simp only [nq1, nq2, nq3, nq4, nq5, nq6, nq7, nq8, nq9, u8_eq] at hb25
      refine wp_skip ?_
      refine hK12 _ _ ?_; clear hK12
      refine seq_any fun _ hK14 => ?_
      refine wp_block ?_
      refine seq_any fun _ hK15 => ?_
      have hbl9 := boundR_len t.kind t.name t.param y
      obtain ⟨p16, vs16, x16, ho16, hd16, hm_x16, ht16, hcv16, hl16, hv16⟩ := hkk_t.nth (k := y) (by omega)
      cases ho16
      obtain ⟨⟨oK16, cK16, oA16, cA16, oR16, cR16, t016, t116, t216, t316, t416, t516, u016, u116, u216, u316, u416, u516⟩, rfl, hon16, hkk16, haa16, hrr16⟩ := hv16.open_
      dsimp only at hkk16 haa16 hrr16
      have hbg16 := hkk16.big; have hcp16 := hkk16.cap; have hbh16 := haa16.big; have hcq16 := haa16.cap
      refine region_any (tch := []) (fun _ => mixed) hst5 hfr5 (by kernel_rfl) (by kernel_rfl) (by kernel_rfl) (.cons rfl (ob_loadS' rfl hc3 Try.isAgg35 Try.sizeOf35 rfl rfl) <| .cons rfl (ob_fieldAddrO (off := 5) rfl Try.underlying33 rfl rfl Try.sizeOf24 rfl) <| .cons rfl (ob_load1 rfl hc4 Try.isAgg24 rfl) <| .cons rfl (ob_move rfl) <| .cons rfl (ob_indexAddr (k := y) rfl rfl Try.underlying24 Try.sizeOf33 rfl (by omega)) <| .cons rfl (ob_loadS' rfl hcv16 Try.isAgg33 Try.sizeOf33 rfl rfl) <| .cons rfl (ob_move rfl) <| .cons rfl (ob_loadS' rfl hc4 Try.isAgg33 Try.sizeOf33 rfl rfl) <| .cons rfl (ob_move rfl) <| .cons rfl (ob_call (φ := MP.strs (boundR t.kind t.name t.param y)) rfl (.cons rfl <| .cons rfl <| .nil) Try.call34 (fun w m hK => by have hle_ := KC.le hK; have hA := KC.agree hK; have h_t := h_t.mono hle_; exact FnG.mono (bound_c (t := t) (i := y) hA h_t) fun _ _ _ _ h => h)) <| .cons rfl (ob_imgE 38 rfl rfl rfl fun y38 => ob_call (φ := MP.strs (l ++ boundR t.kind t.name t.param y)) rfl (.cons rfl <| .cons rfl <| .nil) Try.call52 (fun w m hK => by have hle_ := KC.le hK; have hA := KC.agree hK; have hr0_ := hK.2; have h_l := h_l.mono hle_; exact FnG.mono (withN_c (l := l) (k := boundR t.kind t.name t.param y) hA h_l hr0_ (by have := hbk _ hm_x16; omega)) fun _ _ _ _ h => h)) <| .cons rfl (ob_imgE 39 rfl rfl rfl fun y39 => ob_call (φ := MP.termB x16) rfl (.cons rfl <| .cons rfl <| .cons rfl <| .nil) Try.call40 (fun w m hK => by have hle_ := KC.le hK; have hA := KC.agree hK; have hr0_ := hK.2; have h_p := h_p.mono hle_; have hv16 := hv16.mono hle_; exact FnG.mono (ihk x16 hm_x16 hA h_p hv16 hr0_ hbo (by have := hbk _ hm_x16; rw [List.length_append]; omega)) fun _ _ _ _ h => h)) <| .cons rfl (ob_imgV 40 rfl rfl rfl fun y40 => ob_move rfl) <| .cons rfl (ob_imgV 28 rfl rfl rfl fun y28 => ob_extract rfl rfl) <| .cons rfl (ob_imgV 28 rfl rfl rfl fun y28 => ob_extract rfl rfl) <| .consA 41 rfl rfl <| .consA 42 rfl rfl <| .nil) ?_
      intro a6 w6 m6 hst6 hle6 hk6
      have hfr6 := hk6.fr (T' := [(8, _), (2, _), (3, _), (4, _)]) (.old rfl rfl <| .old rfl rfl <| .old rfl rfl <| .old rfl rfl <| .nil)
      obtain ⟨⟨a41, b41⟩, e17, _⟩ := hk6.ex 41 rfl
      obtain ⟨⟨a42, b42⟩, e18, hr42⟩ := hk6.ex 42 rfl
      replace hfr6 := hfr6.cons (hk6.same 9 rfl e17)
      replace hfr6 := hfr6.cons (hk6.same 10 rfl e18)
      have hlh6 := hlh5.trans hle6
      clear hst5 hfr5 hk6
      refine hK15 _ _ ?_; clear hK15
      refine seq_any fun _ hK19 => ?_
      refine rp0 hst6 hfr6 (.cons rfl (ob_move rfl) <| .cons rfl (ob_not rfl) <| .nil) ?_
      intro a7 w7 m7 hst7 hle7 hk7
      have hfr7 := hk7.fr (T' := [(8, _), (2, _), (3, _), (4, _), (9, _), (44, _)]) (.old rfl rfl <| .old rfl rfl <| .old rfl rfl <| .old rfl rfl <| .old rfl rfl <| .new rfl <| .nil)
      have hlh7 := hlh6.trans hle7
      clear hst6 hfr6 hk7
      refine hK19 _ _ ?_; clear hK19
      refine cond_any hfr7 rfl rfl (fun hb44 => ?_) (fun hb44 => ?_)
      · try simp only [nq1, nq2, nq3, nq4, nq5, nq6, nq7, nq8, nq9, u8_eq] at hb44
        refine seq_any fun _ hK20 => ?_
        refine rp0 hst7 hfr7 (.cons rfl (ob_move rfl) <| .cons rfl (ob_assign rfl) <| .cons rfl (ob_assign rfl) <| .nil) ?_
        intro a8 w8 m8 hst8 hle8 hk8
        have hfr8 := hk8.fr (T' := [(8, _), (6, _), (7, _)]) (.old rfl rfl <| .new rfl <| .new rfl <| .nil)
        have hlh8 := hlh7.trans hle8
        clear hst7 hfr7 hk8
        refine hK20 _ _ ?_; clear hK20
        refine wp_ret ?_
        repeat (with_reducible first | refine then_ret ?_ | refine block_ret ?_)
        exact fn_ret hst8 hfr8 rfl (.tmp rfl <| .tmp rfl <| .nil) (⟨(_, false), rfl, fun h => by cases h⟩)
      · try simp only [nq1, nq2, nq3, nq4, nq5, nq6, nq7, nq8, nq9, u8_eq] at hb44
        refine wp_skip ?_
        refine hK14 _ _ ?_; clear hK14
        refine rp0 hst7 hfr7 (.cons rfl (ob_move rfl) <| .cons rfl (ob_add rfl rfl ⟨by omega, by omega⟩) <| .cons rfl (ob_assign rfl) <| .nil) ?_
        intro a8 w8 m8 hst8 hle8 hk8
        have hfr8 := hk8.fr (T' := [(2, _), (3, _), (4, _), (8, _)]) (.old rfl rfl <| .old rfl rfl <| .old rfl rfl <| .new rfl <| .nil)
        have hlh8 := hlh7.trans hle8
        clear hst7 hfr7 hk8
        exact ⟨y + 1, m8, by show t.kids.length - (y + 1) < t.kids.length - y; omega, ⟨hst8, hlh8, hfr8.sub (.cons rfl <| .cons rfl <| .cons rfl <| .cons rfl <| .nil), ⟨by show y + 1 ≤ t.kids.length; omega, all_take hall ht16 (hr42 hb44)⟩⟩⟩
    · try simp only [nq1, nq2, nq3, nq4, nq5, nq6, nq7, nq8, nq9, u8_eq] at hb25
      have hge : y = t.kids.length := by omega
      rw [List.take_of_length_le (by omega)] at hall
      have hkk9 := hall
      refine wp_exit ?_
      refine hK9 _ _ ?_; clear hK9
      refine seq_any fun _ hK22 => ?_
      refine seq_any fun _ hK23 => ?_
      refine rp0 hst5 hfr5 (.cons rfl (ob_assign rfl) <| .nil) ?_
      intro a6 w6 m6 hst6 hle6 hk6
      have hfr6 := hk6.fr (T' := [(8, _), (2, _), (3, _), (4, _), (11, _)]) (.old rfl rfl <| .old rfl rfl <| .old rfl rfl <| .old rfl rfl <| .new rfl <| .nil)
      replace h_p := h_p.mono hle6
      replace haa_t := haa_t.mono hle6
      replace h_l := h_l.mono hle6
      replace hc3 := hc3.mono hle6
      replace hc4 := hc4.mono hle6
      have hlh6 := hlh5.trans hle6
      clear hst5 hfr5 hk6
      refine hK23 _ _ ?_; clear hK23
      refine wp_block ?_
      have hlq24 := hlh6
      refine loop_any (T := [(8, _), (2, _), (3, _), (4, _)]) (fun (y : Nat) => ([(11, .int .i64 (y : Int))] : List (Nat × Value))) (fun _ => _) (fun (y : Nat) m => (y ≤ t.arms.length) ∧ (∀ u ∈ t.arms.take y, RtT u.body)) (fun y => t.arms.length - y) (0) ⟨hst6, MLe.refl _, hfr6.sub (.cons rfl <| .cons rfl <| .cons rfl <| .cons rfl <| .cons rfl <| .nil), ⟨Nat.zero_le _, by simp⟩⟩ fun y a7 w7 m7 hh7 => ?_
      have hst7 := hh7.st; have hle7 := hh7.le; have hfr7 := hh7.fr; have hrel := hh7.rel; clear hh7
      replace h_p := h_p.mono hle7
      replace haa_t := haa_t.mono hle7
      replace h_l := h_l.mono hle7
      replace hc3 := hc3.mono hle7
      replace hc4 := hc4.mono hle7
      clear hst6 hfr6
      obtain ⟨hyn, hall⟩ := hrel
      have hlh7 := hle7
      refine seq_any fun _ hK25 => ?_
      refine seq_any fun _ hK26 => ?_
      refine rp0 hst7 hfr7 (.cons rfl (ob_move rfl) <| .cons rfl (ob_fieldAddrO (off := 6) rfl Try.underlying33 rfl rfl Try.sizeOf25 rfl) <| .cons rfl (ob_load1 rfl hc4 Try.isAgg25 rfl) <| .cons rfl (ob_len rfl Try.underlying25) <| .cons rfl (ob_lss rfl rfl) <| .nil) ?_
      intro a8 w8 m8 hst8 hle8 hk8
      have hfr8 := hk8.fr (T' := [(11, _), (8, _), (2, _), (3, _), (4, _), (50, _)]) (.old rfl rfl <| .old rfl rfl <| .old rfl rfl <| .old rfl rfl <| .old rfl rfl <| .new rfl <| .nil)
      replace h_p := h_p.mono hle8
      replace haa_t := haa_t.mono hle8
      replace h_l := h_l.mono hle8
      replace hc3 := hc3.mono hle8
      replace hc4 := hc4.mono hle8
      have hlh8 := hlh7.trans hle8
      clear hst7 hfr7 hk8
      refine hK26 _ _ ?_; clear hK26
      refine cond_any hfr8 rfl rfl (fun hb50 => ?_) (fun hb50 => ?_)
      · try simp only [nq1, nq2, nq3, nq4, nq5, nq6, nq7, nq8, nq9, u8_eq] at hb50
        refine wp_skip ?_
        refine hK25 _ _ ?_; clear hK25
        refine seq_any fun _ hK27 => ?_
        refine wp_block ?_
        refine seq_any fun _ hK28 => ?_
        obtain ⟨p29, vs29, x29, ho29, hd29, hm_x29, ht29, hcv29, hl29, hv29⟩ := haa_t.nth (k := y) (by omega)
        cases ho29
        obtain ⟨oV29, cV29, bs29, rfl, hva29, hbd29⟩ := hv29.open_
        have hbv29 := hva29.big; have hcv29_ := hva29.cap
        obtain ⟨⟨oK29b, cK29b, oA29b, cA29b, oR29b, cR29b, t029b, t129b, t229b, t329b, t429b, t529b, u029b, u129b, u229b, u329b, u429b, u529b⟩, rfl, hon29b, hkk29b, haa29b, hrr29b⟩ := hbd29.open_
        dsimp only at hkk29b haa29b hrr29b
        have hbg29b := hkk29b.big; have hcp29b := hkk29b.cap; have hbh29b := haa29b.big; have hcq29b := haa29b.cap
        refine region_any (tch := []) (fun _ => mixed) hst8 hfr8 (by kernel_rfl) (by kernel_rfl) (by kernel_rfl) (.cons rfl (ob_loadS' rfl hc3 Try.isAgg35 Try.sizeOf35 rfl rfl) <| .cons rfl (ob_fieldAddrO (off := 6) rfl Try.underlying33 rfl rfl Try.sizeOf25 rfl) <| .cons rfl (ob_load1 rfl hc4 Try.isAgg25 rfl) <| .cons rfl (ob_move rfl) <| .cons rfl (ob_indexAddr (k := y) rfl rfl Try.underlying25 Try.sizeOf40 rfl (by omega)) <| .cons rfl (ob_fieldAddrO (off := 2) rfl Try.underlying40 rfl rfl Try.sizeOf33 rfl) <| .cons rfl (ob_loadS rfl hcv29 Try.isAgg33 Try.sizeOf33 rfl rfl) <| .cons rfl (ob_move rfl) <| .cons rfl (ob_fieldAddrO (off := 6) rfl Try.underlying33 rfl rfl Try.sizeOf25 rfl) <| .cons rfl (ob_load1 rfl hc4 Try.isAgg25 rfl) <| .cons rfl (ob_move rfl) <| .cons rfl (ob_indexAddr (k := y) rfl rfl Try.underlying25 Try.sizeOf40 rfl (by omega)) <| .cons rfl (ob_fieldAddrO (off := 1) rfl Try.underlying40 rfl rfl Try.sizeOf27 rfl) <| .cons rfl (ob_load1 rfl hcv29 Try.isAgg27 rfl) <| .cons rfl (ob_call (φ := MP.strs (l ++ x29.vars)) rfl (.cons rfl <| .cons rfl <| .nil) Try.call52 (fun w m hK => by have hle_ := KC.le hK; have hA := KC.agree hK; have h_l := h_l.mono hle_; have hva29 := hva29.mono hle_; exact FnG.mono (withN_c (l := l) (k := x29.vars) hA h_l hva29 (by have := hba _ hm_x29; omega)) fun _ _ _ _ h => h)) <| .cons rfl (ob_imgE 68 rfl rfl rfl fun y68 => ob_call (φ := MP.termB x29.body) rfl (.cons rfl <| .cons rfl <| .cons rfl <| .nil) Try.call40 (fun w m hK => by have hle_ := KC.le hK; have hA := KC.agree hK; have hr0_ := hK.2; have h_p := h_p.mono hle_; have hbd29 := hbd29.mono hle_; exact FnG.mono (iha x29 hm_x29 hA h_p hbd29 hr0_ hbo (by have := hba _ hm_x29; rw [List.length_append]; omega)) fun _ _ _ _ h => h)) <| .cons rfl (ob_imgV 69 rfl rfl rfl fun y69 => ob_move rfl) <| .cons rfl (ob_imgV 53 rfl rfl rfl fun y53 => ob_extract rfl rfl) <| .cons rfl (ob_imgV 53 rfl rfl rfl fun y53 => ob_extract rfl rfl) <| .consA 70 rfl rfl <| .consA 71 rfl rfl <| .nil) ?_
        intro a9 w9 m9 hst9 hle9 hk9
        have hfr9 := hk9.fr (T' := [(11, _), (8, _), (2, _), (3, _), (4, _)]) (.old rfl rfl <| .old rfl rfl <| .old rfl rfl <| .old rfl rfl <| .old rfl rfl <| .nil)
        obtain ⟨⟨a70, b70⟩, e30, _⟩ := hk9.ex 70 rfl
        obtain ⟨⟨a71, b71⟩, e31, hr71⟩ := hk9.ex 71 rfl
        replace hfr9 := hfr9.cons (hk9.same 12 rfl e30)
        replace hfr9 := hfr9.cons (hk9.same 13 rfl e31)
        have hlh9 := hlh8.trans hle9
        clear hst8 hfr8 hk9
        refine hK28 _ _ ?_; clear hK28
        refine seq_any fun _ hK32 => ?_
        refine rp0 hst9 hfr9 (.cons rfl (ob_move rfl) <| .cons rfl (ob_not rfl) <| .nil) ?_
        intro a10 w10 m10 hst10 hle10 hk10
        have hfr10 := hk10.fr (T' := [(11, _), (8, _), (2, _), (3, _), (4, _), (12, _), (73, _)]) (.old rfl rfl <| .old rfl rfl <| .old rfl rfl <| .old rfl rfl <| .old rfl rfl <| .old rfl rfl <| .new rfl <| .nil)
        have hlh10 := hlh9.trans hle10
        clear hst9 hfr9 hk10
        refine hK32 _ _ ?_; clear hK32
        refine cond_any hfr10 rfl rfl (fun hb73 => ?_) (fun hb73 => ?_)
        · try simp only [nq1, nq2, nq3, nq4, nq5, nq6, nq7, nq8, nq9, u8_eq] at hb73
          refine seq_any fun _ hK33 => ?_
          refine rp0 hst10 hfr10 (.cons rfl (ob_move rfl) <| .cons rfl (ob_assign rfl) <| .cons rfl (ob_assign rfl) <| .nil) ?_
          intro a11 w11 m11 hst11 hle11 hk11
          have hfr11 := hk11.fr (T' := [(11, _), (8, _), (6, _), (7, _)]) (.old rfl rfl <| .old rfl rfl <| .new rfl <| .new rfl <| .nil)
          have hlh11 := hlh10.trans hle11
          clear hst10 hfr10 hk11
          refine hK33 _ _ ?_; clear hK33
          refine wp_ret ?_
          repeat (with_reducible first | refine then_ret ?_ | refine block_ret ?_)
          exact fn_ret hst11 hfr11 rfl (.tmp rfl <| .tmp rfl <| .nil) (⟨(_, false), rfl, fun h => by cases h⟩)
        · try simp only [nq1, nq2, nq3, nq4, nq5, nq6, nq7, nq8, nq9, u8_eq] at hb73
          refine wp_skip ?_
          refine hK27 _ _ ?_; clear hK27
          refine rp0 hst10 hfr10 (.cons rfl (ob_move rfl) <| .cons rfl (ob_add rfl rfl ⟨by omega, by omega⟩) <| .cons rfl (ob_assign rfl) <| .nil) ?_
          intro a11 w11 m11 hst11 hle11 hk11
          have hfr11 := hk11.fr (T' := [(8, _), (2, _), (3, _), (4, _), (11, _)]) (.old rfl rfl <| .old rfl rfl <| .old rfl rfl <| .old rfl rfl <| .new rfl <| .nil)
          have hlh11 := hlh10.trans hle11
          clear hst10 hfr10 hk11
          exact ⟨y + 1, m11, by show t.arms.length - (y + 1) < t.arms.length - y; omega, ⟨hst11, hlh11, hfr11.sub (.cons rfl <| .cons rfl <| .cons rfl <| .cons rfl <| .cons rfl <| .nil), ⟨by show y + 1 ≤ t.arms.length; omega, all_take (p := fun a : Ar => RtT a.body) hall ht29 (hr71 hb73)⟩⟩⟩
      · try simp only [nq1, nq2, nq3, nq4, nq5, nq6, nq7, nq8, nq9, u8_eq] at hb50
        have hge : y = t.arms.length := by omega
        rw [List.take_of_length_le (by omega)] at hall
        have haa9 := hall
        refine wp_exit ?_
        refine hK22 _ _ ?_; clear hK22
        refine seq_any fun _ hK35 => ?_
        refine rp0 hst8 hfr8 (.cons rfl (ob_assign rfl) <| .cons rfl (ob_assign rfl) <| .nil) ?_
        intro a9 w9 m9 hst9 hle9 hk9
        have hfr9 := hk9.fr (T' := [(11, _), (8, _), (6, _), (7, _)]) (.old rfl rfl <| .old rfl rfl <| .new rfl <| .new rfl <| .nil)
        have hlh9 := hlh8.trans hle9
        clear hst8 hfr8 hk9
        refine hK35 _ _ ?_; clear hK35
        refine wp_ret ?_
        repeat (with_reducible first | refine then_ret ?_ | refine block_ret ?_)
        exact fn_ret hst9 hfr9 rfl (.tmp rfl <| .tmp rfl <| .nil) (⟨(_, true), rfl, fun _ => .mk hone9 hkk9 haa9⟩)
theorem term_c (t : Tm) : term_G t := Tm.rec_ (p := term_G) (fun t ihk iha => term_s ihk iha) t

set_option maxHeartbeats 400000 in
theorem check_c {w : World} {m : Mem} {p : Pg} {vs_p : List Value} (hA : Agree w m) (h_p : PgR m p vs_p) (hbo : opsN p.effects ≤ 1000000000) (hbc : consN p.datas ≤ 1000000000) (hbd : p.datas.length ≤ 1000000000) (hbig : bulkM p.body ≤ 1000000000) : FnV Try.prog 28 #[.agg vs_p.toArray] w m (fun _ m v => (MP.chkB p.body).p m v) := by
  obtain ⟨oE_p, cE_p, oD_p, cD_p, bs_p, rfl, hef_p, hda_p, hpb_p⟩ := id h_p
  have hbe_p := hef_p.big; have hce_p := hef_p.cap; have hbda_p := hda_p.big; have hcd_p := hda_p.cap
  obtain ⟨⟨oK_pb, cK_pb, oA_pb, cA_pb, oR_pb, cR_pb, t0_pb, t1_pb, t2_pb, t3_pb, t4_pb, t5_pb, u0_pb, u1_pb, u2_pb, u3_pb, u4_pb, u5_pb⟩, rfl, hon_pb, hkk_pb, haa_pb, hrr_pb⟩ := hpb_p.open_
  dsimp only at hkk_pb haa_pb hrr_pb
  have hbg_pb := hkk_pb.big; have hcp_pb := hkk_pb.cap; have hbh_pb := haa_pb.big; have hcq_pb := haa_pb.cap
  refine fn_enter (vs := [_]) Try.func28 rfl rfl rfl fun a0 hfr0 => ?_
  have hst0 := st_enter hA (loc_nil [] _ w m)
  have hM : MLe m m := MLe.refl m
  refine seq_any fun _ hK1 => ?_
  refine rp0 hst0 hfr0 (.cons rfl (ob_box rfl rfl) <| .cons rfl (ob_assign rfl) <| .cons rfl (ob_assign rfl) <| .nil) ?_
  intro a1 w1 m1 hst1 hle1 hk1
  have hfr1 := hk1.fr (T' := []) (.nil)
  obtain ⟨g2, e2, hc1⟩ := hk1.ex 1 rfl
  replace hfr1 := hfr1.cons e2
  replace h_p := h_p.mono hle1
  replace hpb_p := hpb_p.mono hle1
  clear hst0 hfr0 hk1
  refine hK1 _ _ ?_; clear hK1
  refine seq_any fun _ hK3 => ?_
  refine ra0 (tch := []) hst1 hfr1 (.cons rfl (ob_loadS' rfl hc1 Try.isAgg35 Try.sizeOf35 rfl rfl) <| .cons rfl (ob_call (φ := MP.anyI) rfl (.cons rfl <| .nil) Try.call39 (fun w m hK => by have hle_ := KC.le hK; have hA := KC.agree hK; have h_p := h_p.mono hle_; exact FnG.mono (declared_c hA h_p (by omega) (by omega) (by omega)) fun _ _ _ _ h => h)) <| .consA 8 rfl rfl <| .nil) ?_
  intro a2 w2 m2 hst2 hle2 hk2
  have hfr2 := hk2.fr (T' := [(1, _)]) (.old rfl rfl <| .nil)
  obtain ⟨y4, e4, hy4⟩ := hk2.ex 8 rfl
  replace hfr2 := hfr2.cons (hk2.same 4 rfl e4)
  replace h_p := h_p.mono hle2
  replace hpb_p := hpb_p.mono hle2
  replace hc1 := hc1.mono hle2
  clear hst1 hfr1 hk2
  refine hK3 _ _ ?_; clear hK3
  refine seq_any fun _ hK5 => ?_
  refine seq_any fun _ hK6 => ?_
  refine rp0 hst2 hfr2 (.cons rfl (ob_move rfl) <| .cons rfl (ob_neq rfl rfl) <| .nil) ?_
  intro a3 w3 m3 hst3 hle3 hk3
  have hfr3 := hk3.fr (T' := [(1, _), (4, _), (10, _)]) (.old rfl rfl <| .old rfl rfl <| .new rfl <| .nil)
  replace h_p := h_p.mono hle3
  replace hpb_p := hpb_p.mono hle3
  replace hc1 := hc1.mono hle3
  clear hst2 hfr2 hk3
  refine hK6 _ _ ?_; clear hK6
  refine cond_any hfr3 rfl rfl (fun hb10 => ?_) (fun hb10 => ?_)
  · try simp only [nq1, nq2, nq3, nq4, nq5, nq6, nq7, nq8, nq9, u8_eq] at hb10
    refine seq_any fun _ hK7 => ?_
    refine rp0 hst3 hfr3 (.cons rfl (ob_move rfl) <| .cons rfl (ob_assign rfl) <| .cons rfl (ob_assign rfl) <| .nil) ?_
    intro a4 w4 m4 hst4 hle4 hk4
    have hfr4 := hk4.fr (T' := [(2, _), (3, _)]) (.new rfl <| .new rfl <| .nil)
    clear hst3 hfr3 hk4
    refine hK7 _ _ ?_; clear hK7
    refine wp_ret ?_
    repeat (with_reducible first | refine then_ret ?_ | refine block_ret ?_)
    exact fn_ret hst4 hfr4 rfl (.tmp rfl <| .tmp rfl <| .nil) (⟨(_, _), rfl, fun h => absurd h hb10⟩)
  · try simp only [nq1, nq2, nq3, nq4, nq5, nq6, nq7, nq8, nq9, u8_eq] at hb10
    refine wp_skip ?_
    refine hK5 _ _ ?_; clear hK5
    refine seq_any fun _ hK9 => ?_
    refine ra0 (tch := []) hst3 hfr3 (.cons rfl (ob_loadS' rfl hc1 Try.isAgg35 Try.sizeOf35 rfl rfl) <| .cons rfl (ob_fieldAddrO (off := 2) rfl Try.underlying35 rfl rfl Try.sizeOf33 rfl) <| .cons rfl (ob_loadS rfl hc1 Try.isAgg33 Try.sizeOf33 rfl rfl) <| .cons rfl (ob_call (φ := MP.termB p.body) rfl (.cons rfl <| .cons rfl <| .cons rfl <| .nil) Try.call40 (fun w m hK => by have hle_ := KC.le hK; have hA := KC.agree hK; have h_p := h_p.mono hle_; have hpb_p := hpb_p.mono hle_; exact FnG.mono (term_c p.body (l := []) hA h_p hpb_p Sl.empty hbo (by simp only [List.length_nil]; omega)) fun _ _ _ _ h => h)) <| .cons rfl (ob_imgV 16 rfl rfl rfl fun y16 => ob_move rfl) <| .cons rfl (ob_imgV 12 rfl rfl rfl fun y12 => ob_extract rfl rfl) <| .cons rfl (ob_imgV 12 rfl rfl rfl fun y12 => ob_extract rfl rfl) <| .consA 17 rfl rfl <| .consA 18 rfl rfl <| .nil) ?_
    intro a4 w4 m4 hst4 hle4 hk4
    have hfr4 := hk4.fr (T' := []) (.nil)
    obtain ⟨⟨a17, b17⟩, e10, _⟩ := hk4.ex 17 rfl
    obtain ⟨⟨a18, b18⟩, e11, hr18⟩ := hk4.ex 18 rfl
    replace hfr4 := hfr4.cons (hk4.same 5 rfl e10)
    replace hfr4 := hfr4.cons (hk4.same 6 rfl e11)
    clear hst3 hfr3 hk4
    refine hK9 _ _ ?_; clear hK9
    refine seq_any fun _ hK12 => ?_
    refine seq_any fun _ hK13 => ?_
    refine rp0 hst4 hfr4 (.cons rfl (ob_move rfl) <| .cons rfl (ob_not rfl) <| .nil) ?_
    intro a5 w5 m5 hst5 hle5 hk5
    have hfr5 := hk5.fr (T' := [(5, _), (20, _)]) (.old rfl rfl <| .new rfl <| .nil)
    clear hst4 hfr4 hk5
    refine hK13 _ _ ?_; clear hK13
    refine cond_any hfr5 rfl rfl (fun hb20 => ?_) (fun hb20 => ?_)
    · try simp only [nq1, nq2, nq3, nq4, nq5, nq6, nq7, nq8, nq9, u8_eq] at hb20
      refine seq_any fun _ hK14 => ?_
      refine rp0 hst5 hfr5 (.cons rfl (ob_move rfl) <| .cons rfl (ob_assign rfl) <| .cons rfl (ob_assign rfl) <| .nil) ?_
      intro a6 w6 m6 hst6 hle6 hk6
      have hfr6 := hk6.fr (T' := [(2, _), (3, _)]) (.new rfl <| .new rfl <| .nil)
      clear hst5 hfr5 hk6
      refine hK14 _ _ ?_; clear hK14
      refine wp_ret ?_
      repeat (with_reducible first | refine then_ret ?_ | refine block_ret ?_)
      exact fn_ret hst6 hfr6 rfl (.tmp rfl <| .tmp rfl <| .nil) (⟨(_, 4), rfl, fun h => by cases h⟩)
    · try simp only [nq1, nq2, nq3, nq4, nq5, nq6, nq7, nq8, nq9, u8_eq] at hb20
      refine wp_skip ?_
      refine hK12 _ _ ?_; clear hK12
      refine seq_any fun _ hK16 => ?_
      refine rp0 hst5 hfr5 (.cons rfl (ob_assign rfl) <| .cons rfl (ob_assign rfl) <| .nil) ?_
      intro a6 w6 m6 hst6 hle6 hk6
      have hfr6 := hk6.fr (T' := [(2, _), (3, _)]) (.new rfl <| .new rfl <| .nil)
      clear hst5 hfr5 hk6
      refine hK16 _ _ ?_; clear hK16
      refine wp_ret ?_
      repeat (with_reducible first | refine then_ret ?_ | refine block_ret ?_)
      exact fn_ret hst6 hfr6 rfl (.tmp rfl <| .tmp rfl <| .nil) (⟨(_, 0), rfl, fun _ => hr18 hb20⟩)

abbrev count_G (t : Tm) : Prop := ∀ {w : World} {m : Mem} {vs_t : List Value} (hA : Agree w m) (h_t : TmR m t vs_t) (hb : countM t ≤ 1073741824), FnV Try.prog 27 #[.agg vs_t.toArray] w m (fun _ _ v => v = .int .i64 (countM t : Int))
set_option maxHeartbeats 400000 in
theorem count_s {t : Tm} (ihk : ∀ u ∈ t.kids, count_G u) (iha : ∀ a ∈ t.arms, count_G a.body) {w : World} {m : Mem} {vs_t : List Value} (hA : Agree w m) (h_t : TmR m t vs_t) (hb : countM t ≤ 1073741824) : FnV Try.prog 27 #[.agg vs_t.toArray] w m (fun _ _ v => v = .int .i64 (countM t : Int)) := by
  obtain ⟨⟨oK_t, cK_t, oA_t, cA_t, oR_t, cR_t, t0_t, t1_t, t2_t, t3_t, t4_t, t5_t, u0_t, u1_t, u2_t, u3_t, u4_t, u5_t⟩, rfl, hon_t, hkk_t, haa_t, hrr_t⟩ := h_t.open_
  dsimp only at hkk_t haa_t hrr_t
  have hbg_t := hkk_t.big; have hcp_t := hkk_t.cap; have hbh_t := haa_t.big; have hcq_t := haa_t.cap
  refine fn_enter (vs := [_]) Try.func27 rfl rfl rfl fun a0 hfr0 => ?_
  have hst0 := st_enter hA (loc_nil [] _ w m)
  have hM : MLe m m := MLe.refl m
  have hce := countM_eq t
  refine seq_any fun _ hK1 => ?_
  refine rp0 hst0 hfr0 (.cons rfl (ob_box rfl rfl) <| .cons rfl (ob_assign rfl) <| .nil) ?_
  intro a1 w1 m1 hst1 hle1 hk1
  have hfr1 := hk1.fr (T' := []) (.nil)
  obtain ⟨g2, e2, hc1⟩ := hk1.ex 1 rfl
  replace hfr1 := hfr1.cons e2
  replace h_t := h_t.mono hle1
  replace hkk_t := hkk_t.mono hle1
  replace haa_t := haa_t.mono hle1
  replace hrr_t := hrr_t.mono hle1
  clear hst0 hfr0 hk1
  refine hK1 _ _ ?_; clear hK1
  refine seq_any fun _ hK3 => ?_
  refine rp0 hst1 hfr1 (.cons rfl (ob_assign rfl) <| .nil) ?_
  intro a2 w2 m2 hst2 hle2 hk2
  have hfr2 := hk2.fr (T' := [(1, _), (3, _)]) (.old rfl rfl <| .new rfl <| .nil)
  replace h_t := h_t.mono hle2
  replace hkk_t := hkk_t.mono hle2
  replace haa_t := haa_t.mono hle2
  replace hrr_t := hrr_t.mono hle2
  replace hc1 := hc1.mono hle2
  clear hst1 hfr1 hk2
  refine hK3 _ _ ?_; clear hK3
  refine seq_any fun _ hK4 => ?_
  refine seq_any fun _ hK5 => ?_
  refine rp0 hst2 hfr2 (.cons rfl (ob_assign rfl) <| .nil) ?_
  intro a3 w3 m3 hst3 hle3 hk3
  have hfr3 := hk3.fr (T' := [(1, _), (3, _), (4, _)]) (.old rfl rfl <| .old rfl rfl <| .new rfl <| .nil)
  replace h_t := h_t.mono hle3
  replace hkk_t := hkk_t.mono hle3
  replace haa_t := haa_t.mono hle3
  replace hrr_t := hrr_t.mono hle3
  replace hc1 := hc1.mono hle3
  clear hst2 hfr2 hk3
  refine hK5 _ _ ?_; clear hK5
  refine wp_block ?_
  refine loop_any (T := [(1, _)]) (fun (y : Nat × Int) => ([(3, .int .i64 y.2), (4, .int .i64 (y.1 : Int))] : List (Nat × Value))) (fun _ => _) (fun (y : Nat × Int) m => (fun (y : Nat) (a : Int) => (y ≤ t.kids.length) ∧ (a + countKs (t.kids.drop y) = ((1 + countKs t.kids : Nat) : Int)) ∧ (0 ≤ a)) y.1 y.2) (fun y => t.kids.length - y.1) ((0, 1)) ⟨hst3, MLe.refl _, hfr3.sub (.cons rfl <| .cons rfl <| .cons rfl <| .nil), ⟨Nat.zero_le _, by rw [List.drop_zero]; omega, by omega⟩⟩ fun y a4 w4 m4 hh4 => ?_
  have hst4 := hh4.st; have hle4 := hh4.le; have hfr4 := hh4.fr; have hrel := hh4.rel; clear hh4
  replace h_t := h_t.mono hle4
  replace hkk_t := hkk_t.mono hle4
  replace haa_t := haa_t.mono hle4
  replace hrr_t := hrr_t.mono hle4
  replace hc1 := hc1.mono hle4
  clear hst3 hfr3
  obtain ⟨y, a⟩ := y
  dsimp only at hrel hfr4 hst4
  obtain ⟨hyn, ha, ha0⟩ := hrel
  have hlh4 := hle4
  refine seq_any fun _ hK7 => ?_
  refine seq_any fun _ hK8 => ?_
  refine rp0 hst4 hfr4 (.cons rfl (ob_move rfl) <| .cons rfl (ob_fieldAddrO (off := 5) rfl Try.underlying33 rfl rfl Try.sizeOf24 rfl) <| .cons rfl (ob_load1 rfl hc1 Try.isAgg24 rfl) <| .cons rfl (ob_len rfl Try.underlying24) <| .cons rfl (ob_lss rfl rfl) <| .nil) ?_
  intro a5 w5 m5 hst5 hle5 hk5
  have hfr5 := hk5.fr (T' := [(3, _), (4, _), (1, _), (10, _)]) (.old rfl rfl <| .old rfl rfl <| .old rfl rfl <| .new rfl <| .nil)
  replace h_t := h_t.mono hle5
  replace hkk_t := hkk_t.mono hle5
  replace haa_t := haa_t.mono hle5
  replace hrr_t := hrr_t.mono hle5
  replace hc1 := hc1.mono hle5
  have hlh5 := hlh4.trans hle5
  clear hst4 hfr4 hk5
  refine hK8 _ _ ?_; clear hK8
  refine cond_any hfr5 rfl rfl (fun hb10 => ?_) (fun hb10 => ?_)
  · try simp only [nq1, nq2, nq3, nq4, nq5, nq6, nq7, nq8, nq9, u8_eq] at hb10
    refine wp_skip ?_
    refine hK7 _ _ ?_; clear hK7
    refine seq_any fun _ hK9 => ?_
    refine wp_block ?_
    obtain ⟨p10, vs10, x10, ho10, hd10, hm_x10, ht10, hcv10, hl10, hv10⟩ := hkk_t.nth (k := y) (by omega)
    cases ho10
    obtain ⟨⟨oK10, cK10, oA10, cA10, oR10, cR10, t010, t110, t210, t310, t410, t510, u010, u110, u210, u310, u410, u510⟩, rfl, hon10, hkk10, haa10, hrr10⟩ := hv10.open_
    dsimp only at hkk10 haa10 hrr10
    have hbg10 := hkk10.big; have hcp10 := hkk10.cap; have hbh10 := haa10.big; have hcq10 := haa10.cap
    rw [hd10, countKs] at ha
    refine rp0 hst5 hfr5 (.cons rfl (ob_move rfl) <| .cons rfl (ob_fieldAddrO (off := 5) rfl Try.underlying33 rfl rfl Try.sizeOf24 rfl) <| .cons rfl (ob_load1 rfl hc1 Try.isAgg24 rfl) <| .cons rfl (ob_move rfl) <| .cons rfl (ob_indexAddr (k := y) rfl rfl Try.underlying24 Try.sizeOf33 rfl (by omega)) <| .cons rfl (ob_loadS' rfl hcv10 Try.isAgg33 Try.sizeOf33 rfl rfl) <| .cons rfl (ob_callE rfl (.cons rfl <| .nil) Try.call27 (fun w m hK => by have hle_ := KC.le hK; have hA := KC.agree hK; have h_t := h_t.mono hle_; have hkk_t := hkk_t.mono hle_; have haa_t := haa_t.mono hle_; have hrr_t := hrr_t.mono hle_; have hc1 := hc1.mono hle_; have hcv10 := hcv10.mono hle_; have hv10 := hv10.mono hle_; have hkk10 := hkk10.mono hle_; have haa10 := haa10.mono hle_; have hrr10 := hrr10.mono hle_; exact ihk _ (by assumption) hA (by assumption) (by omega))) <| .cons rfl (ob_add rfl rfl ⟨by omega, by omega⟩) <| .cons rfl (ob_assign rfl) <| .nil) ?_
    intro a6 w6 m6 hst6 hle6 hk6
    have hfr6 := hk6.fr (T' := [(4, _), (1, _), (3, _)]) (.old rfl rfl <| .old rfl rfl <| .new rfl <| .nil)
    have hlh6 := hlh5.trans hle6
    clear hst5 hfr5 hk6
    refine hK9 _ _ ?_; clear hK9
    refine rp0 hst6 hfr6 (.cons rfl (ob_move rfl) <| .cons rfl (ob_add rfl rfl ⟨by omega, by omega⟩) <| .cons rfl (ob_assign rfl) <| .nil) ?_
    intro a7 w7 m7 hst7 hle7 hk7
    have hfr7 := hk7.fr (T' := [(1, _), (3, _), (4, _)]) (.old rfl rfl <| .old rfl rfl <| .new rfl <| .nil)
    have hlh7 := hlh6.trans hle7
    clear hst6 hfr6 hk7
    exact ⟨(y + 1, (a + (countM x10 : Int))), m7, by show t.kids.length - (y + 1) < t.kids.length - y; omega, ⟨hst7, hlh7, hfr7.sub (.cons rfl <| .cons rfl <| .cons rfl <| .nil), ⟨by show y + 1 ≤ t.kids.length; omega, by show a + (countM x10 : Int) + ((countKs (t.kids.drop (y + 1)) : Nat) : Int) = ((1 + countKs t.kids : Nat) : Int); omega, by show 0 ≤ a + (countM x10 : Int); omega⟩⟩⟩
  · try simp only [nq1, nq2, nq3, nq4, nq5, nq6, nq7, nq8, nq9, u8_eq] at hb10
    have hge : y = t.kids.length := by omega
    rw [List.drop_of_length_le (by omega), countKs] at ha
    obtain rfl : a = ((1 + countKs t.kids : Nat) : Int) := by omega
    refine wp_exit ?_
    refine hK4 _ _ ?_; clear hK4
    refine seq_any fun _ hK11 => ?_
    refine seq_any fun _ hK12 => ?_
    refine rp0 hst5 hfr5 (.cons rfl (ob_assign rfl) <| .nil) ?_
    intro a6 w6 m6 hst6 hle6 hk6
    have hfr6 := hk6.fr (T' := [(3, _), (4, _), (1, _), (5, _)]) (.old rfl rfl <| .old rfl rfl <| .old rfl rfl <| .new rfl <| .nil)
    replace h_t := h_t.mono hle6
    replace hkk_t := hkk_t.mono hle6
    replace haa_t := haa_t.mono hle6
    replace hrr_t := hrr_t.mono hle6
    replace hc1 := hc1.mono hle6
    have hlh6 := hlh5.trans hle6
    clear hst5 hfr5 hk6
    refine hK12 _ _ ?_; clear hK12
    refine wp_block ?_
    have hlq13 := hlh6
    refine loop_any (T := [(4, _), (1, _)]) (fun (y : Nat × Int) => ([(3, .int .i64 y.2), (5, .int .i64 (y.1 : Int))] : List (Nat × Value))) (fun _ => _) (fun (y : Nat × Int) m => (fun (y : Nat) (b : Int) => (y ≤ t.arms.length) ∧ (b + countAs (t.arms.drop y) = (countM t : Int)) ∧ (0 ≤ b)) y.1 y.2) (fun y => t.arms.length - y.1) ((0, ((1 + countKs t.kids : Nat) : Int))) ⟨hst6, MLe.refl _, hfr6.sub (.cons rfl <| .cons rfl <| .cons rfl <| .cons rfl <| .nil), ⟨Nat.zero_le _, by rw [List.drop_zero]; omega, by omega⟩⟩ fun y a7 w7 m7 hh7 => ?_
    have hst7 := hh7.st; have hle7 := hh7.le; have hfr7 := hh7.fr; have hrel := hh7.rel; clear hh7
    replace h_t := h_t.mono hle7
    replace hkk_t := hkk_t.mono hle7
    replace haa_t := haa_t.mono hle7
    replace hrr_t := hrr_t.mono hle7
    replace hc1 := hc1.mono hle7
    clear hst6 hfr6
    obtain ⟨y, b⟩ := y
    dsimp only at hrel hfr7 hst7
    obtain ⟨hyn, hb_, hb0⟩ := hrel
    have hlh7 := hle7
    refine seq_any fun _ hK14 => ?_
    refine seq_any fun _ hK15 => ?_
    refine rp0 hst7 hfr7 (.cons rfl (ob_move rfl) <| .cons rfl (ob_fieldAddrO (off := 6) rfl Try.underlying33 rfl rfl Try.sizeOf25 rfl) <| .cons rfl (ob_load1 rfl hc1 Try.isAgg25 rfl) <| .cons rfl (ob_len rfl Try.underlying25) <| .cons rfl (ob_lss rfl rfl) <| .nil) ?_
    intro a8 w8 m8 hst8 hle8 hk8
    have hfr8 := hk8.fr (T' := [(3, _), (5, _), (4, _), (1, _), (25, _)]) (.old rfl rfl <| .old rfl rfl <| .old rfl rfl <| .old rfl rfl <| .new rfl <| .nil)
    replace h_t := h_t.mono hle8
    replace hkk_t := hkk_t.mono hle8
    replace haa_t := haa_t.mono hle8
    replace hrr_t := hrr_t.mono hle8
    replace hc1 := hc1.mono hle8
    have hlh8 := hlh7.trans hle8
    clear hst7 hfr7 hk8
    refine hK15 _ _ ?_; clear hK15
    refine cond_any hfr8 rfl rfl (fun hb25 => ?_) (fun hb25 => ?_)
    · try simp only [nq1, nq2, nq3, nq4, nq5, nq6, nq7, nq8, nq9, u8_eq] at hb25
      refine wp_skip ?_
      refine hK14 _ _ ?_; clear hK14
      refine seq_any fun _ hK16 => ?_
      refine wp_block ?_
      obtain ⟨p17, vs17, x17, ho17, hd17, hm_x17, ht17, hcv17, hl17, hv17⟩ := haa_t.nth (k := y) (by omega)
      cases ho17
      obtain ⟨oV17, cV17, bs17, rfl, hva17, hbd17⟩ := hv17.open_
      have hbv17 := hva17.big; have hcv17_ := hva17.cap
      obtain ⟨⟨oK17b, cK17b, oA17b, cA17b, oR17b, cR17b, t017b, t117b, t217b, t317b, t417b, t517b, u017b, u117b, u217b, u317b, u417b, u517b⟩, rfl, hon17b, hkk17b, haa17b, hrr17b⟩ := hbd17.open_
      dsimp only at hkk17b haa17b hrr17b
      have hbg17b := hkk17b.big; have hcp17b := hkk17b.cap; have hbh17b := haa17b.big; have hcq17b := haa17b.cap
      rw [hd17, countAs_cons] at hb_
      refine rp0 hst8 hfr8 (.cons rfl (ob_move rfl) <| .cons rfl (ob_fieldAddrO (off := 6) rfl Try.underlying33 rfl rfl Try.sizeOf25 rfl) <| .cons rfl (ob_load1 rfl hc1 Try.isAgg25 rfl) <| .cons rfl (ob_move rfl) <| .cons rfl (ob_indexAddr (k := y) rfl rfl Try.underlying25 Try.sizeOf40 rfl (by omega)) <| .cons rfl (ob_fieldAddrO (off := 2) rfl Try.underlying40 rfl rfl Try.sizeOf33 rfl) <| .cons rfl (ob_loadS rfl hcv17 Try.isAgg33 Try.sizeOf33 rfl rfl) <| .cons rfl (ob_callE rfl (.cons rfl <| .nil) Try.call27 (fun w m hK => by have hle_ := KC.le hK; have hA := KC.agree hK; have h_t := h_t.mono hle_; have hkk_t := hkk_t.mono hle_; have haa_t := haa_t.mono hle_; have hrr_t := hrr_t.mono hle_; have hc1 := hc1.mono hle_; have hcv17 := hcv17.mono hle_; have hv17 := hv17.mono hle_; have hva17 := hva17.mono hle_; have hbd17 := hbd17.mono hle_; have hkk17b := hkk17b.mono hle_; have haa17b := haa17b.mono hle_; have hrr17b := hrr17b.mono hle_; exact iha _ (by assumption) hA (by assumption) (by omega))) <| .cons rfl (ob_add rfl rfl ⟨by omega, by omega⟩) <| .cons rfl (ob_assign rfl) <| .nil) ?_
      intro a9 w9 m9 hst9 hle9 hk9
      have hfr9 := hk9.fr (T' := [(5, _), (4, _), (1, _), (3, _)]) (.old rfl rfl <| .old rfl rfl <| .old rfl rfl <| .new rfl <| .nil)
      have hlh9 := hlh8.trans hle9
      clear hst8 hfr8 hk9
      refine hK16 _ _ ?_; clear hK16
      refine rp0 hst9 hfr9 (.cons rfl (ob_move rfl) <| .cons rfl (ob_add rfl rfl ⟨by omega, by omega⟩) <| .cons rfl (ob_assign rfl) <| .nil) ?_
      intro a10 w10 m10 hst10 hle10 hk10
      have hfr10 := hk10.fr (T' := [(4, _), (1, _), (3, _), (5, _)]) (.old rfl rfl <| .old rfl rfl <| .old rfl rfl <| .new rfl <| .nil)
      have hlh10 := hlh9.trans hle10
      clear hst9 hfr9 hk10
      exact ⟨(y + 1, (b + (countM x17.body : Int))), m10, by show t.arms.length - (y + 1) < t.arms.length - y; omega, ⟨hst10, hlh10, hfr10.sub (.cons rfl <| .cons rfl <| .cons rfl <| .cons rfl <| .nil), ⟨by show y + 1 ≤ t.arms.length; omega, by show b + (countM x17.body : Int) + ((countAs (t.arms.drop (y + 1)) : Nat) : Int) = _; omega, by show 0 ≤ b + (countM x17.body : Int); omega⟩⟩⟩
    · try simp only [nq1, nq2, nq3, nq4, nq5, nq6, nq7, nq8, nq9, u8_eq] at hb25
      have hge : y = t.arms.length := by omega
      rw [List.drop_of_length_le (by omega), countAs] at hb_
      refine wp_exit ?_
      refine hK11 _ _ ?_; clear hK11
      refine seq_any fun _ hK18 => ?_
      refine rp0 hst8 hfr8 (.cons rfl (ob_move rfl) <| .cons rfl (ob_assign rfl) <| .nil) ?_
      intro a9 w9 m9 hst9 hle9 hk9
      have hfr9 := hk9.fr (T' := [(3, _), (5, _), (4, _), (2, _)]) (.old rfl rfl <| .old rfl rfl <| .old rfl rfl <| .new rfl <| .nil)
      have hlh9 := hlh8.trans hle9
      clear hst8 hfr8 hk9
      refine hK18 _ _ ?_; clear hK18
      refine wp_ret ?_
      repeat (with_reducible first | refine then_ret ?_ | refine block_ret ?_)
      exact fn_ret hst9 hfr9 rfl (.tmp rfl <| .nil) (by refine congrArg (Value.int _) ?_; omega)
theorem count_c (t : Tm) : count_G t := Tm.rec_ (p := count_G) (fun t ihk iha => count_s ihk iha) t

end Go.Proofs.Ytppmbhjacjmfkaa
