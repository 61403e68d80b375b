/-
  A law of chapter 14, walked. Conditions: those of the theorem.
-/
import Derived.Test.YteamjgbhcjojaaaDoorShown1
namespace Go.Proofs.YteamjgbhcjojaaaDoor
set_option linter.all false
set_option maxRecDepth 4000
open Go.RowKit
theorem nodup_take {α : Type} {l : List α} {y : Nat} {x : α} (h : l.Nodup) (e : l.drop y = x :: l.drop (y + 1)) (hx : x ∈ l.take y) : False := by
  rw [← List.take_append_drop y l, e] at h
  exact (List.nodup_append.1 h).2.2 x hx x (.head _) rfl
theorem flag_ok {q : Bool} (h : (!q) = false) : q = true := by cases q; cases h; rfl
set_option maxHeartbeats 3200000 in
theorem rewriteEqual_c {w : World} {m : Mem} {p : Pg} {vs_p : List Value} {q : Pg} {vs_q : List Value} {n : Int} {k : Int} {j : Int} (hA : Agree w m) (h_p : PgR m p vs_p) (h_q : PgR m q vs_q) (hT : Tab w) (hbo : opsN p.effects ≤ 1000000000) (hbc : consN p.datas ≤ 1000000000) (hbd : p.datas.length ≤ 1000000000) (hB : bulkM p.body ≤ 2100000) (hboq : opsN q.effects ≤ 1000000000) (hbcq : consN q.datas ≤ 1000000000) (hbdq : q.datas.length ≤ 1000000000) (hBq : bulkM q.body ≤ 2100000) : FnV Tryd.prog 6 #[.agg vs_p.toArray, .agg vs_q.toArray, .int .i64 n, .int .i64 k, .int .i64 j] w m (fun _ _ v => v = .bool true) := by
  obtain ⟨oE_p, cE_p, oD_p, cD_p, bs_p, rfl, hef_p, hda_p, hpb_p⟩ := id h_p
  have hbe_p := hef_p.big; have hce_p := hef_p.cap; have hbda_p := hda_p.big; have hcd_p := hda_p.cap
  obtain ⟨⟨oK_pb, cK_pb, oA_pb, cA_pb, oR_pb, cR_pb, t0_pb, t1_pb, t2_pb, t3_pb, t4_pb, t5_pb, u0_pb, u1_pb, u2_pb, u3_pb, u4_pb, u5_pb⟩, rfl, hon_pb, hkk_pb, haa_pb, hrr_pb⟩ := hpb_p.open_
  dsimp only at hkk_pb haa_pb hrr_pb
  have hbg_pb := hkk_pb.big; have hcp_pb := hkk_pb.cap; have hbh_pb := haa_pb.big; have hcq_pb := haa_pb.cap
  obtain ⟨oE_q, cE_q, oD_q, cD_q, bs_q, rfl, hef_q, hda_q, hpb_q⟩ := id h_q
  have hbe_q := hef_q.big; have hce_q := hef_q.cap; have hbda_q := hda_q.big; have hcd_q := hda_q.cap
  obtain ⟨⟨oK_qb, cK_qb, oA_qb, cA_qb, oR_qb, cR_qb, t0_qb, t1_qb, t2_qb, t3_qb, t4_qb, t5_qb, u0_qb, u1_qb, u2_qb, u3_qb, u4_qb, u5_qb⟩, rfl, hon_qb, hkk_qb, haa_qb, hrr_qb⟩ := hpb_q.open_
  dsimp only at hkk_qb haa_qb hrr_qb
  have hbg_qb := hkk_qb.big; have hcp_qb := hkk_qb.cap; have hbh_qb := haa_qb.big; have hcq_qb := haa_qb.cap
  refine fn_enter (vs := [_, _, _, _, _]) Tryd.func6 rfl rfl rfl fun a0 hfr0 => ?_
  have hst0 := st_enter hA (loc_nil [] _ w m)
  have hM : MLe m m := MLe.refl m
  refine seq_any fun _ hK1 => ?_
  refine rp0 hst0 hfr0 (.cons rfl (ob_box rfl rfl) <| .cons rfl (ob_box rfl rfl) <| .cons rfl (ob_assign rfl) <| .nil) ?_
  intro a1 w1 m1 hst1 hle1 hk1
  have hfr1 := hk1.fr (T' := [(2, _), (3, _), (4, _)]) (.old rfl rfl <| .old rfl rfl <| .old rfl rfl <| .nil)
  obtain ⟨g2, e2, hc5⟩ := hk1.ex 5 rfl
  replace hfr1 := hfr1.cons e2
  obtain ⟨g3, e3, hc6⟩ := hk1.ex 6 rfl
  replace hfr1 := hfr1.cons e3
  replace h_p := h_p.mono hle1
  replace hef_p := hef_p.mono hle1
  replace hda_p := hda_p.mono hle1
  replace hpb_p := hpb_p.mono hle1
  replace hkk_pb := hkk_pb.mono hle1
  replace haa_pb := haa_pb.mono hle1
  replace hrr_pb := hrr_pb.mono hle1
  replace h_q := h_q.mono hle1
  replace hef_q := hef_q.mono hle1
  replace hda_q := hda_q.mono hle1
  replace hpb_q := hpb_q.mono hle1
  replace hkk_qb := hkk_qb.mono hle1
  replace haa_qb := haa_qb.mono hle1
  replace hrr_qb := hrr_qb.mono hle1
  clear hst0 hfr0 hk1
  refine hK1 _ _ ?_; clear hK1
  refine seq_any fun _ hK4 => ?_
  refine rp0 hst1 hfr1 (.cons rfl (ob_callE rfl (.nil) Tryd.call7 (fun w m hK => by have hle_ := KC.le hK; have hA := KC.agree hK; have hT := tab_keep hT hK.st.ext; have h_p := h_p.mono hle_; have hef_p := hef_p.mono hle_; have hda_p := hda_p.mono hle_; have hpb_p := hpb_p.mono hle_; have hkk_pb := hkk_pb.mono hle_; have haa_pb := haa_pb.mono hle_; have hrr_pb := hrr_pb.mono hle_; have h_q := h_q.mono hle_; have hef_q := hef_q.mono hle_; have hda_q := hda_q.mono hle_; have hpb_q := hpb_q.mono hle_; have hkk_qb := hkk_qb.mono hle_; have haa_qb := haa_qb.mono hle_; have hrr_qb := hrr_qb.mono hle_; have hc5 := hc5.mono hle_; have hc6 := hc6.mono hle_; exact shown_c hA (by first | assumption | omega | simp_all))) <| .cons rfl (ob_assign rfl) <| .nil) ?_
  intro a2 w2 m2 hst2 hle2 hk2
  have hfr2 := hk2.fr (T' := [(2, _), (3, _), (4, _), (5, _), (6, _), (11, _)]) (.old rfl rfl <| .old rfl rfl <| .old rfl rfl <| .old rfl rfl <| .old rfl rfl <| .new rfl <| .nil)
  replace h_p := h_p.mono hle2
  replace hef_p := hef_p.mono hle2
  replace hda_p := hda_p.mono hle2
  replace hpb_p := hpb_p.mono hle2
  replace hkk_pb := hkk_pb.mono hle2
  replace haa_pb := haa_pb.mono hle2
  replace hrr_pb := hrr_pb.mono hle2
  replace h_q := h_q.mono hle2
  replace hef_q := hef_q.mono hle2
  replace hda_q := hda_q.mono hle2
  replace hpb_q := hpb_q.mono hle2
  replace hkk_qb := hkk_qb.mono hle2
  replace haa_qb := haa_qb.mono hle2
  replace hrr_qb := hrr_qb.mono hle2
  replace hc5 := hc5.mono hle2
  replace hc6 := hc6.mono hle2
  clear hst1 hfr1 hk2
  refine hK4 _ _ ?_; clear hK4
  refine seq_any fun _ hK5 => ?_
  replace hst2 := hst2.more (r := .free) trivial List.nodup_nil (by simp [Res.blocks])
  refine ra0 (tch := [(6, 0, (fun v => .blk v _)), (7, 0, (fun v => .blkx v _ _))]) hst2 hfr2 (.cons rfl (ob_loadS' rfl hc5 Tryd.isAgg35 Tryd.sizeOf35 rfl rfl) <| .cons rfl (ob_move rfl) <| .cons rfl (ob_call (φ := MP.partB 2100000) rfl (.cons rfl <| .cons rfl <| .nil) Tryd.call8 (fun w m hK => by have hle_ := KC.le hK; have hA := KC.agree hK; have h_p := h_p.mono hle_; exact FnG.mono (part_c hA h_p hbo hbc hbd 2100000 hB (by omega)) fun _ _ _ _ h => h)) <| .cons rfl (ob_imgV 24 rfl rfl rfl fun y24 => ob_move rfl) <| .cons rfl (ob_imgV 21 rfl rfl rfl fun y21 => ob_extract rfl rfl) <| .cons rfl (ob_imgV 21 rfl rfl rfl fun y21 => ob_extract rfl rfl) <| .consT rfl rfl (fun _ => rfl) rfl (ob_allocL Tryd.zeroValue33 rfl) <| .consT rfl rfl (fun _ => rfl) rfl (ob_imgT 12 rfl rfl rfl fun y12 => ob_imgTX 25 rfl rfl rfl fun y25 => ob_storeKF rfl rfl rfl rfl rfl Tryd.sizeOf33 rfl rfl (fun w m hK => hK.2.1.one)) <| .consA 26 rfl rfl <| .nil) ?_
  intro a3 w3 m3 hst3 hle3 hk3
  have hfr3 := hk3.fr (T' := [(3, _), (4, _), (5, _), (6, _), (11, _)]) (.old rfl rfl <| .old rfl rfl <| .old rfl rfl <| .old rfl rfl <| .old rfl rfl <| .nil)
  obtain ⟨⟨⟨xbta, ybta⟩, qta⟩, e6, _⟩ := hk3.ex 26 rfl
  obtain ⟨g7, e7, _⟩ := hk3.ex 12 rfl
  replace hfr3 := hfr3.cons e7
  replace hfr3 := hfr3.cons (hk3.same 13 rfl e6)
  replace hst3 := hst3.fin (L' := [_]) (.cons e7 <| .cons e7 <| .nil)
  try simp only [List.take_succ_cons, List.take_zero, List.drop_succ_cons, List.drop_zero, List.cons_append, List.nil_append, List.append_nil, List.length_cons, List.length_nil, Nat.zero_add, Nat.reduceAdd] at hst3
  obtain ⟨⟨⟨ta, yta⟩, bta⟩, ⟨hta, hsta, hcta, hbta, hrta⟩, hst3⟩ := hst3.unx (k := 0) rfl (fun _ => rfl)
  replace h_p := h_p.mono hle3
  replace hef_p := hef_p.mono hle3
  replace hda_p := hda_p.mono hle3
  replace hpb_p := hpb_p.mono hle3
  replace hkk_pb := hkk_pb.mono hle3
  replace haa_pb := haa_pb.mono hle3
  replace hrr_pb := hrr_pb.mono hle3
  replace h_q := h_q.mono hle3
  replace hef_q := hef_q.mono hle3
  replace hda_q := hda_q.mono hle3
  replace hpb_q := hpb_q.mono hle3
  replace hkk_qb := hkk_qb.mono hle3
  replace haa_qb := haa_qb.mono hle3
  replace hrr_qb := hrr_qb.mono hle3
  replace hc5 := hc5.mono hle3
  replace hc6 := hc6.mono hle3
  clear hst2 hfr2 hk3
  dsimp only at hta hsta hcta hbta hrta
  refine hK5 _ _ ?_; clear hK5
  refine seq_any fun _ hK9 => ?_
  replace hst3 := hst3.more (r := .free) trivial List.nodup_nil (by simp [Res.blocks])
  refine ra0 (tch := [(6, 1, (fun v => .blk v _)), (7, 1, (fun v => .blkx v _ _))]) hst3 hfr3 (.cons rfl (ob_loadS' rfl hc6 Tryd.isAgg35 Tryd.sizeOf35 rfl rfl) <| .cons rfl (ob_move rfl) <| .cons rfl (ob_call (φ := MP.partB 2100000) rfl (.cons rfl <| .cons rfl <| .nil) Tryd.call8 (fun w m hK => by have hle_ := KC.le hK; have hA := KC.agree hK; have h_q := h_q.mono hle_; exact FnG.mono (part_c hA h_q hboq hbcq hbdq 2100000 hBq (by omega)) fun _ _ _ _ h => h)) <| .cons rfl (ob_imgV 30 rfl rfl rfl fun y30 => ob_move rfl) <| .cons rfl (ob_imgV 27 rfl rfl rfl fun y27 => ob_extract rfl rfl) <| .cons rfl (ob_imgV 27 rfl rfl rfl fun y27 => ob_extract rfl rfl) <| .consT rfl rfl (fun _ => rfl) rfl (ob_allocL Tryd.zeroValue33 rfl) <| .consT rfl rfl (fun _ => rfl) rfl (ob_imgT 14 rfl rfl rfl fun y14 => ob_imgTX 31 rfl rfl rfl fun y31 => ob_storeKF rfl rfl rfl rfl rfl Tryd.sizeOf33 rfl rfl (fun w m hK => hK.2.1.one)) <| .consA 32 rfl rfl <| .nil) ?_
  intro a4 w4 m4 hst4 hle4 hk4
  have hfr4 := hk4.fr (T' := [(4, _), (5, _), (11, _), (12, _), (13, _)]) (.old rfl rfl <| .old rfl rfl <| .old rfl rfl <| .old rfl rfl <| .old rfl rfl <| .nil)
  obtain ⟨⟨⟨xbtb, ybtb⟩, qtb⟩, e10, _⟩ := hk4.ex 32 rfl
  obtain ⟨g11, e11, _⟩ := hk4.ex 14 rfl
  replace hfr4 := hfr4.cons e11
  replace hfr4 := hfr4.cons (hk4.same 15 rfl e10)
  replace hst4 := hst4.fin (L' := [_, _]) (.cons e11 <| .cons e11 <| .nil)
  try simp only [List.take_succ_cons, List.take_zero, List.drop_succ_cons, List.drop_zero, List.cons_append, List.nil_append, List.append_nil, List.length_cons, List.length_nil, Nat.zero_add, Nat.reduceAdd] at hst4
  obtain ⟨⟨⟨tb, ytb⟩, btb⟩, ⟨htb, hstb, hctb, hbtb, hrtb⟩, hst4⟩ := hst4.unx (k := 1) rfl (fun _ => rfl)
  replace h_p := h_p.mono hle4
  replace hef_p := hef_p.mono hle4
  replace hda_p := hda_p.mono hle4
  replace hpb_p := hpb_p.mono hle4
  replace hkk_pb := hkk_pb.mono hle4
  replace haa_pb := haa_pb.mono hle4
  replace hrr_pb := hrr_pb.mono hle4
  replace h_q := h_q.mono hle4
  replace hef_q := hef_q.mono hle4
  replace hda_q := hda_q.mono hle4
  replace hpb_q := hpb_q.mono hle4
  replace hkk_qb := hkk_qb.mono hle4
  replace haa_qb := haa_qb.mono hle4
  replace hrr_qb := hrr_qb.mono hle4
  replace hc5 := hc5.mono hle4
  replace hc6 := hc6.mono hle4
  replace hta := hta.mono hle4
  clear hst3 hfr3 hk4
  dsimp only at htb hstb hctb hbtb hrtb
  refine hK9 _ _ ?_; clear hK9
  refine seq_any fun _ hK13 => ?_
  replace hst4 := hst4.more (r := .free) trivial List.nodup_nil (by simp [Res.blocks])
  refine ra0 (tch := [(6, 2, (fun v => .blk v _)), (7, 2, (fun v => .blkx v _ _))]) hst4 hfr4 (.cons rfl (ob_loadS' rfl hc5 Tryd.isAgg35 Tryd.sizeOf35 rfl rfl) <| .cons rfl (ob_move rfl) <| .cons rfl (ob_call (φ := MP.partB 2100000) rfl (.cons rfl <| .cons rfl <| .nil) Tryd.call8 (fun w m hK => by have hle_ := KC.le hK; have hA := KC.agree hK; have h_p := h_p.mono hle_; exact FnG.mono (part_c hA h_p hbo hbc hbd 2100000 hB (by omega)) fun _ _ _ _ h => h)) <| .cons rfl (ob_imgV 36 rfl rfl rfl fun y36 => ob_move rfl) <| .cons rfl (ob_imgV 33 rfl rfl rfl fun y33 => ob_extract rfl rfl) <| .cons rfl (ob_imgV 33 rfl rfl rfl fun y33 => ob_extract rfl rfl) <| .consT rfl rfl (fun _ => rfl) rfl (ob_allocL Tryd.zeroValue33 rfl) <| .consT rfl rfl (fun _ => rfl) rfl (ob_imgT 16 rfl rfl rfl fun y16 => ob_imgTX 37 rfl rfl rfl fun y37 => ob_storeKF rfl rfl rfl rfl rfl Tryd.sizeOf33 rfl rfl (fun w m hK => hK.2.1.one)) <| .consA 38 rfl rfl <| .nil) ?_
  intro a5 w5 m5 hst5 hle5 hk5
  have hfr5 := hk5.fr (T' := [(11, _), (12, _), (13, _), (14, _), (15, _)]) (.old rfl rfl <| .old rfl rfl <| .old rfl rfl <| .old rfl rfl <| .old rfl rfl <| .nil)
  obtain ⟨⟨⟨xbtc, ybtc⟩, qtc⟩, e14, _⟩ := hk5.ex 38 rfl
  obtain ⟨g15, e15, _⟩ := hk5.ex 16 rfl
  replace hfr5 := hfr5.cons e15
  replace hfr5 := hfr5.cons (hk5.same 17 rfl e14)
  replace hst5 := hst5.fin (L' := [_, _, _]) (.cons e15 <| .cons e15 <| .nil)
  try simp only [List.take_succ_cons, List.take_zero, List.drop_succ_cons, List.drop_zero, List.cons_append, List.nil_append, List.append_nil, List.length_cons, List.length_nil, Nat.zero_add, Nat.reduceAdd] at hst5
  obtain ⟨⟨⟨tc, ytc⟩, btc⟩, ⟨htc, hstc, hctc, hbtc, hrtc⟩, hst5⟩ := hst5.unx (k := 2) rfl (fun _ => rfl)
  replace h_p := h_p.mono hle5
  replace hef_p := hef_p.mono hle5
  replace hda_p := hda_p.mono hle5
  replace hpb_p := hpb_p.mono hle5
  replace hkk_pb := hkk_pb.mono hle5
  replace haa_pb := haa_pb.mono hle5
  replace hrr_pb := hrr_pb.mono hle5
  replace h_q := h_q.mono hle5
  replace hef_q := hef_q.mono hle5
  replace hda_q := hda_q.mono hle5
  replace hpb_q := hpb_q.mono hle5
  replace hkk_qb := hkk_qb.mono hle5
  replace haa_qb := haa_qb.mono hle5
  replace hrr_qb := hrr_qb.mono hle5
  replace hc5 := hc5.mono hle5
  replace hc6 := hc6.mono hle5
  replace hta := hta.mono hle5
  replace htb := htb.mono hle5
  clear hst4 hfr4 hk5
  dsimp only at htc hstc hctc hbtc hrtc
  refine hK13 _ _ ?_; clear hK13
  refine seq_any fun _ hK17 => ?_
  refine seq_any fun _ hK18 => ?_
  refine rp0 hst5 hfr5 (.cons rfl (ob_move rfl) <| .cons rfl (ob_not rfl) <| .cons rfl (ob_move rfl) <| .cons rfl (ob_move rfl) <| .cons rfl (ob_not rfl) <| .cons rfl (ob_or rfl rfl rfl) <| .cons rfl (ob_move rfl) <| .cons rfl (ob_move rfl) <| .cons rfl (ob_not rfl) <| .cons rfl (ob_or rfl rfl rfl) <| .cons rfl (ob_move rfl) <| .cons rfl (ob_loadLA (j := 0) rfl rfl Tryd.isAgg33 Tryd.sizeOf33 rfl) <| .cons rfl (ob_callE rfl (.cons rfl <| .nil) Tryd.call9 (fun w m hK => by have hle_ := KC.le hK; have hA := KC.agree hK; have hta := hta.mono hle_; exact quotes_c ta hA hta (by omega))) <| .cons rfl (ob_or rfl rfl rfl) <| .cons rfl (ob_move rfl) <| .cons rfl (ob_loadLA (j := 1) rfl rfl Tryd.isAgg33 Tryd.sizeOf33 rfl) <| .cons rfl (ob_callE rfl (.cons rfl <| .nil) Tryd.call9 (fun w m hK => by have hle_ := KC.le hK; have hA := KC.agree hK; have htb := htb.mono hle_; exact quotes_c tb hA htb (by omega))) <| .cons rfl (ob_or rfl rfl rfl) <| .cons rfl (ob_move rfl) <| .cons rfl (ob_loadLA (j := 2) rfl rfl Tryd.isAgg33 Tryd.sizeOf33 rfl) <| .cons rfl (ob_callE rfl (.cons rfl <| .nil) Tryd.call9 (fun w m hK => by have hle_ := KC.le hK; have hA := KC.agree hK; have htc := htc.mono hle_; exact quotes_c tc hA htc (by omega))) <| .cons rfl (ob_or rfl rfl rfl) <| .nil) ?_
  intro a6 w6 m6 hst6 hle6 hk6
  have hfr6 := hk6.fr (T' := [(11, _), (12, _), (14, _), (16, _), (60, _)]) (.old rfl rfl <| .old rfl rfl <| .old rfl rfl <| .old rfl rfl <| .new rfl <| .nil)
  replace h_p := h_p.mono hle6
  replace hef_p := hef_p.mono hle6
  replace hda_p := hda_p.mono hle6
  replace hpb_p := hpb_p.mono hle6
  replace hkk_pb := hkk_pb.mono hle6
  replace haa_pb := haa_pb.mono hle6
  replace hrr_pb := hrr_pb.mono hle6
  replace h_q := h_q.mono hle6
  replace hef_q := hef_q.mono hle6
  replace hda_q := hda_q.mono hle6
  replace hpb_q := hpb_q.mono hle6
  replace hkk_qb := hkk_qb.mono hle6
  replace haa_qb := haa_qb.mono hle6
  replace hrr_qb := hrr_qb.mono hle6
  replace hc5 := hc5.mono hle6
  replace hc6 := hc6.mono hle6
  replace hta := hta.mono hle6
  replace htb := htb.mono hle6
  replace htc := htc.mono hle6
  clear hst5 hfr5 hk6
  refine hK18 _ _ ?_; clear hK18
  refine cond_any hfr6 rfl rfl (fun hb60 => ?_) (fun hb60 => ?_)
  · try simp only [nq1, nq2, nq3, nq4, nq5, nq6, nq7, nq8, nq9, u8_eq] at hb60
    refine seq_any fun _ hK19 => ?_
    refine rp0 hst6 hfr6 (.cons rfl (ob_move rfl) <| .cons rfl (ob_assign rfl) <| .nil) ?_
    intro a7 w7 m7 hst7 hle7 hk7
    have hfr7 := hk7.fr (T' := [(10, _)]) (.new rfl <| .nil)
    clear hst6 hfr6 hk7
    refine hK19 _ _ ?_; clear hK19
    refine wp_ret ?_
    repeat (with_reducible first | refine then_ret ?_ | refine block_ret ?_)
    exact fn_ret hst7 hfr7 rfl (.tmp rfl <| .nil) (rfl)
  · try simp only [nq1, nq2, nq3, nq4, nq5, nq6, nq7, nq8, nq9, u8_eq] at hb60
    refine wp_skip ?_
    refine hK17 _ _ ?_; clear hK17
    refine seq_any fun _ hK21 => ?_
    refine rp0 hst6 hfr6 (.cons rfl (ob_loadLA (j := 0) rfl rfl Tryd.isAgg33 Tryd.sizeOf33 rfl) <| .cons rfl (ob_loadLA (j := 1) rfl rfl Tryd.isAgg33 Tryd.sizeOf33 rfl) <| .cons rfl (ob_callE rfl (.cons rfl <| .cons rfl <| .nil) Tryd.call11 (fun w m hK => by have hle_ := KC.le hK; have hA := KC.agree hK; have hta := hta.mono hle_; have htb := htb.mono hle_; exact alikeF_c (a := ta) (b := tb) hA hta htb (by omega) (by omega))) <| .cons rfl (ob_assign rfl) <| .nil) ?_
    intro a7 w7 m7 hst7 hle7 hk7
    have hfr7 := hk7.fr (T' := [(11, _), (12, _), (14, _), (16, _), (18, _)]) (.old rfl rfl <| .old rfl rfl <| .old rfl rfl <| .old rfl rfl <| .new rfl <| .nil)
    replace h_p := h_p.mono hle7
    replace hef_p := hef_p.mono hle7
    replace hda_p := hda_p.mono hle7
    replace hpb_p := hpb_p.mono hle7
    replace hkk_pb := hkk_pb.mono hle7
    replace haa_pb := haa_pb.mono hle7
    replace hrr_pb := hrr_pb.mono hle7
    replace h_q := h_q.mono hle7
    replace hef_q := hef_q.mono hle7
    replace hda_q := hda_q.mono hle7
    replace hpb_q := hpb_q.mono hle7
    replace hkk_qb := hkk_qb.mono hle7
    replace haa_qb := haa_qb.mono hle7
    replace hrr_qb := hrr_qb.mono hle7
    replace hc5 := hc5.mono hle7
    replace hc6 := hc6.mono hle7
    replace hta := hta.mono hle7
    replace htb := htb.mono hle7
    replace htc := htc.mono hle7
    clear hst6 hfr6 hk7
    refine hK21 _ _ ?_; clear hK21
    refine seq_any fun _ hK22 => ?_
    refine rp0 hst7 hfr7 (.cons rfl (ob_loadLA (j := 1) rfl rfl Tryd.isAgg33 Tryd.sizeOf33 rfl) <| .cons rfl (ob_loadLA (j := 2) rfl rfl Tryd.isAgg33 Tryd.sizeOf33 rfl) <| .cons rfl (ob_callE rfl (.cons rfl <| .cons rfl <| .nil) Tryd.call11 (fun w m hK => by have hle_ := KC.le hK; have hA := KC.agree hK; have htb := htb.mono hle_; have htc := htc.mono hle_; exact alikeF_c (a := tb) (b := tc) hA htb htc (by omega) (by omega))) <| .cons rfl (ob_assign rfl) <| .nil) ?_
    intro a8 w8 m8 hst8 hle8 hk8
    have hfr8 := hk8.fr (T' := [(11, _), (12, _), (14, _), (16, _), (18, _), (19, _)]) (.old rfl rfl <| .old rfl rfl <| .old rfl rfl <| .old rfl rfl <| .old rfl rfl <| .new rfl <| .nil)
    replace h_p := h_p.mono hle8
    replace hef_p := hef_p.mono hle8
    replace hda_p := hda_p.mono hle8
    replace hpb_p := hpb_p.mono hle8
    replace hkk_pb := hkk_pb.mono hle8
    replace haa_pb := haa_pb.mono hle8
    replace hrr_pb := hrr_pb.mono hle8
    replace h_q := h_q.mono hle8
    replace hef_q := hef_q.mono hle8
    replace hda_q := hda_q.mono hle8
    replace hpb_q := hpb_q.mono hle8
    replace hkk_qb := hkk_qb.mono hle8
    replace haa_qb := haa_qb.mono hle8
    replace hrr_qb := hrr_qb.mono hle8
    replace hc5 := hc5.mono hle8
    replace hc6 := hc6.mono hle8
    replace hta := hta.mono hle8
    replace htb := htb.mono hle8
    replace htc := htc.mono hle8
    clear hst7 hfr7 hk8
    refine hK22 _ _ ?_; clear hK22
    refine seq_any fun _ hK23 => ?_
    refine region_plain (fun _ => mixed) hst8 hfr8 (by kernel_rfl) (by kernel_rfl) (.cons rfl (ob_move rfl) <| .cons rfl (ob_move rfl) <| .cons rfl (ob_loadLA (j := 0) rfl rfl Tryd.isAgg33 Tryd.sizeOf33 rfl) <| .cons rfl (ob_loadLA (j := 0) rfl rfl Tryd.isAgg33 Tryd.sizeOf33 rfl) <| .cons rfl (ob_callE rfl (.cons rfl <| .cons rfl <| .nil) Tryd.call11 (fun w m hK => by have hle_ := KC.le hK; have hA := KC.agree hK; have hta := hta.mono hle_; exact alikeF_c (a := ta) (b := ta) hA hta hta (by omega) (by omega))) <| .cons rfl (ob_and rfl rfl rfl) <| .cons rfl (ob_move rfl) <| .cons rfl (ob_move rfl) <| .cons rfl (ob_loadLA (j := 1) rfl rfl Tryd.isAgg33 Tryd.sizeOf33 rfl) <| .cons rfl (ob_loadLA (j := 0) rfl rfl Tryd.isAgg33 Tryd.sizeOf33 rfl) <| .cons rfl (ob_callE rfl (.cons rfl <| .cons rfl <| .nil) Tryd.call11 (fun w m hK => by have hle_ := KC.le hK; have hA := KC.agree hK; have hta := hta.mono hle_; have htb := htb.mono hle_; exact alikeF_c (a := tb) (b := ta) hA htb hta (by omega) (by omega))) <| .cons rfl (ob_beql rfl rfl Tryd.underlying4) <| .cons rfl (ob_and rfl rfl rfl) <| .cons rfl (ob_move rfl) <| .cons rfl (ob_move rfl) <| .cons rfl (ob_not rfl) <| .cons rfl (ob_move rfl) <| .cons rfl (ob_move rfl) <| .cons rfl (ob_not rfl) <| .cons rfl (ob_or rfl rfl rfl) <| .cons rfl (ob_move rfl) <| .cons rfl (ob_loadLA (j := 0) rfl rfl Tryd.isAgg33 Tryd.sizeOf33 rfl) <| .cons rfl (ob_loadLA (j := 2) rfl rfl Tryd.isAgg33 Tryd.sizeOf33 rfl) <| .cons rfl (ob_callE rfl (.cons rfl <| .cons rfl <| .nil) Tryd.call11 (fun w m hK => by have hle_ := KC.le hK; have hA := KC.agree hK; have hta := hta.mono hle_; have htc := htc.mono hle_; exact alikeF_c (a := ta) (b := tc) hA hta htc (by omega) (by omega))) <| .cons rfl (ob_or rfl rfl rfl) <| .cons rfl (ob_and rfl rfl rfl) <| .cons rfl (ob_move rfl) <| .cons rfl (ob_move rfl) <| .cons rfl (ob_not rfl) <| .cons rfl (ob_move rfl) <| .cons rfl (ob_loadLA (j := 0) rfl rfl Tryd.isAgg33 Tryd.sizeOf33 rfl) <| .cons rfl (ob_call (φ := MP.strs (freeT (ta))) rfl (.cons rfl <| .nil) Tryd.call13 (fun w m hK => by have hle_ := KC.le hK; have hA := KC.agree hK; have hta := hta.mono hle_; exact FnG.mono (free_c (t := ta) hA hta (by have := countM_bulk (ta); omega)) fun _ _ _ _ h => h)) <| .cons rfl (ob_loadLA (j := 1) rfl rfl Tryd.isAgg33 Tryd.sizeOf33 rfl) <| .cons rfl (ob_call (φ := MP.strs (freeT (tb))) rfl (.cons rfl <| .nil) Tryd.call13 (fun w m hK => by have hle_ := KC.le hK; have hA := KC.agree hK; have htb := htb.mono hle_; exact FnG.mono (free_c (t := tb) hA htb (by have := countM_bulk (tb); omega)) fun _ _ _ _ h => h)) <| .cons rfl (ob_imgE 99 rfl rfl rfl fun y99 => ob_imgE 101 rfl rfl rfl fun y101 => ob_callE rfl (.cons rfl <| .cons rfl <| .nil) Tryd.call12 (fun w m hK => by have hle_ := KC.le hK; have hA := KC.agree hK; have hT := tab_keep hT hK.1.1.st.ext; have hr0_ := hK.2; have hr1_ := hK.1.2; have h_p := h_p.mono hle_; have hef_p := hef_p.mono hle_; have hda_p := hda_p.mono hle_; have hpb_p := hpb_p.mono hle_; have hkk_pb := hkk_pb.mono hle_; have haa_pb := haa_pb.mono hle_; have hrr_pb := hrr_pb.mono hle_; have h_q := h_q.mono hle_; have hef_q := hef_q.mono hle_; have hda_q := hda_q.mono hle_; have hpb_q := hpb_q.mono hle_; have hkk_qb := hkk_qb.mono hle_; have haa_qb := haa_qb.mono hle_; have hrr_qb := hrr_qb.mono hle_; have hc5 := hc5.mono hle_; have hc6 := hc6.mono hle_; have hta := hta.mono hle_; have htb := htb.mono hle_; have htc := htc.mono hle_; exact sameNames_c hA (by first | assumption | omega | simp_all) (by first | assumption | omega | simp_all))) <| .cons rfl (ob_move rfl) <| .cons rfl (ob_loadLA (j := 0) rfl rfl Tryd.isAgg33 Tryd.sizeOf33 rfl) <| .cons rfl (ob_callE rfl (.cons rfl <| .nil) Tryd.call20 (fun w m hK => by have hle_ := KC.le hK; have hA := KC.agree hK; have hta := hta.mono hle_; exact count_c ta hA hta (by omega))) <| .cons rfl (ob_loadLA (j := 1) rfl rfl Tryd.isAgg33 Tryd.sizeOf33 rfl) <| .cons rfl (ob_callE rfl (.cons rfl <| .nil) Tryd.call20 (fun w m hK => by have hle_ := KC.le hK; have hA := KC.agree hK; have htb := htb.mono hle_; exact count_c tb hA htb (by omega))) <| .cons rfl (ob_eql rfl rfl) <| .cons rfl (ob_and rfl rfl rfl) <| .cons rfl (ob_or rfl rfl rfl) <| .cons rfl (ob_and rfl rfl rfl) <| .cons rfl (ob_assign rfl) <| .nil) ?_
    intro a9 w9 m9 hst9 hle9 hk9
    have hfr9 := hk9.fr (T' := [(10, _)]) (.new rfl <| .nil)
    clear hst8 hfr8 hk9
    refine hK23 _ _ ?_; clear hK23
    refine wp_ret ?_
    repeat (with_reducible first | refine then_ret ?_ | refine block_ret ?_)
    exact fn_ret hst9 hfr9 rfl (.tmp rfl <| .nil) (by refine congrArg Value.bool ?_; obtain ⟨l1, l2, l3, l4⟩ := equal_law (c := tc) hsta hstb; rw [l1, ← l2]; cases h1 : alikeT ta [] [] tb <;> cases h2 : alikeT tb [] [] tc <;> simp [h1, h2] at l3 l4 ⊢ <;> simp_all)

end Go.Proofs.YteamjgbhcjojaaaDoor
