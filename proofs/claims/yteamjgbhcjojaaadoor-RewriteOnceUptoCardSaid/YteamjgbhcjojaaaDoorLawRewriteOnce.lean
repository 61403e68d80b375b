/-
  A law of chapter 14, walked. Conditions: those of the theorem.
-/
import Derived.Test.YteamjgbhcjojaaaDoorShown1
namespace Go.Proofs.YteamjgbhcjojaaaDoor
set_option linter.all false
set_option maxRecDepth 4000
open Go.RowKit
theorem nodup_take {α : Type} {l : List α} {y : Nat} {x : α} (h : l.Nodup) (e : l.drop y = x :: l.drop (y + 1)) (hx : x ∈ l.take y) : False := by
  rw [← List.take_append_drop y l, e] at h
  exact (List.nodup_append.1 h).2.2 x hx x (.head _) rfl
theorem flag_ok {q : Bool} (h : (!q) = false) : q = true := by cases q; cases h; rfl
set_option maxHeartbeats 1600000 in
theorem rewriteOnce_c {w : World} {m : Mem} {p : Pg} {vs_p : List Value} {n : Int} (hA : Agree w m) (h_p : PgR m p vs_p) (hT : Tab w) (hbo : opsN p.effects ≤ 1000000000) (hbc : consN p.datas ≤ 1000000000) (hbd : p.datas.length ≤ 1000000000) (hB : bulkM p.body ≤ 2100000) : FnV Tryd.prog 4 #[.agg vs_p.toArray, .int .i64 n] w m (fun _ _ v => v = .bool true) := by
  obtain ⟨oE_p, cE_p, oD_p, cD_p, bs_p, rfl, hef_p, hda_p, hpb_p⟩ := id h_p
  have hbe_p := hef_p.big; have hce_p := hef_p.cap; have hbda_p := hda_p.big; have hcd_p := hda_p.cap
  obtain ⟨⟨oK_pb, cK_pb, oA_pb, cA_pb, oR_pb, cR_pb, t0_pb, t1_pb, t2_pb, t3_pb, t4_pb, t5_pb, u0_pb, u1_pb, u2_pb, u3_pb, u4_pb, u5_pb⟩, rfl, hon_pb, hkk_pb, haa_pb, hrr_pb⟩ := hpb_p.open_
  dsimp only at hkk_pb haa_pb hrr_pb
  have hbg_pb := hkk_pb.big; have hcp_pb := hkk_pb.cap; have hbh_pb := haa_pb.big; have hcq_pb := haa_pb.cap
  refine fn_enter (vs := [_, _]) Tryd.func4 rfl rfl rfl fun a0 hfr0 => ?_
  have hst0 := st_enter hA (loc_nil [] _ w m)
  have hM : MLe m m := MLe.refl m
  refine seq_any fun _ hK1 => ?_
  refine rp0 hst0 hfr0 (.cons rfl (ob_box rfl rfl) <| .cons rfl (ob_assign rfl) <| .nil) ?_
  intro a1 w1 m1 hst1 hle1 hk1
  have hfr1 := hk1.fr (T' := [(1, _)]) (.old rfl rfl <| .nil)
  obtain ⟨g2, e2, hc2⟩ := hk1.ex 2 rfl
  replace hfr1 := hfr1.cons e2
  replace h_p := h_p.mono hle1
  replace hef_p := hef_p.mono hle1
  replace hda_p := hda_p.mono hle1
  replace hpb_p := hpb_p.mono hle1
  replace hkk_pb := hkk_pb.mono hle1
  replace haa_pb := haa_pb.mono hle1
  replace hrr_pb := hrr_pb.mono hle1
  clear hst0 hfr0 hk1
  refine hK1 _ _ ?_; clear hK1
  refine seq_any fun _ hK3 => ?_
  refine rp0 hst1 hfr1 (.cons rfl (ob_callE rfl (.nil) Tryd.call7 (fun w m hK => by have hle_ := KC.le hK; have hA := KC.agree hK; have hT := tab_keep hT hK.st.ext; have h_p := h_p.mono hle_; have hef_p := hef_p.mono hle_; have hda_p := hda_p.mono hle_; have hpb_p := hpb_p.mono hle_; have hkk_pb := hkk_pb.mono hle_; have haa_pb := haa_pb.mono hle_; have hrr_pb := hrr_pb.mono hle_; have hc2 := hc2.mono hle_; exact shown_c hA (by first | assumption | omega | simp_all))) <| .cons rfl (ob_assign rfl) <| .nil) ?_
  intro a2 w2 m2 hst2 hle2 hk2
  have hfr2 := hk2.fr (T' := [(1, _), (2, _), (5, _)]) (.old rfl rfl <| .old rfl rfl <| .new rfl <| .nil)
  replace h_p := h_p.mono hle2
  replace hc2 := hc2.mono hle2
  clear hst1 hfr1 hk2
  refine hK3 _ _ ?_; clear hK3
  refine seq_any fun _ hK4 => ?_
  replace hst2 := hst2.more (r := .free) trivial List.nodup_nil (by simp [Res.blocks])
  refine ra0 (tch := [(6, 0, (fun v => .blk v _)), (7, 0, (fun v => .blkx v _ _))]) hst2 hfr2 (.cons rfl (ob_loadS' rfl hc2 Tryd.isAgg35 Tryd.sizeOf35 rfl rfl) <| .cons rfl (ob_move rfl) <| .cons rfl (ob_call (φ := MP.partB 2100000) rfl (.cons rfl <| .cons rfl <| .nil) Tryd.call8 (fun w m hK => by have hle_ := KC.le hK; have hA := KC.agree hK; have h_p := h_p.mono hle_; exact FnG.mono (part_c hA h_p hbo hbc hbd 2100000 hB (by omega)) fun _ _ _ _ h => h)) <| .cons rfl (ob_imgV 16 rfl rfl rfl fun y16 => ob_move rfl) <| .cons rfl (ob_imgV 13 rfl rfl rfl fun y13 => ob_extract rfl rfl) <| .cons rfl (ob_imgV 13 rfl rfl rfl fun y13 => ob_extract rfl rfl) <| .consT rfl rfl (fun _ => rfl) rfl (ob_allocL Tryd.zeroValue33 rfl) <| .consT rfl rfl (fun _ => rfl) rfl (ob_imgT 6 rfl rfl rfl fun y6 => ob_imgTX 17 rfl rfl rfl fun y17 => ob_storeKF rfl rfl rfl rfl rfl Tryd.sizeOf33 rfl rfl (fun w m hK => hK.2.1.one)) <| .consA 18 rfl rfl <| .nil) ?_
  intro a3 w3 m3 hst3 hle3 hk3
  have hfr3 := hk3.fr (T' := [(5, _)]) (.old rfl rfl <| .nil)
  obtain ⟨⟨⟨xbt, ybt⟩, qt⟩, e5, _⟩ := hk3.ex 18 rfl
  obtain ⟨g6, e6, _⟩ := hk3.ex 6 rfl
  replace hfr3 := hfr3.cons e6
  replace hfr3 := hfr3.cons (hk3.same 7 rfl e5)
  replace hst3 := hst3.fin (L' := [_]) (.cons e6 <| .cons e6 <| .nil)
  try simp only [List.take_succ_cons, List.take_zero, List.drop_succ_cons, List.drop_zero, List.cons_append, List.nil_append, List.append_nil, List.length_cons, List.length_nil, Nat.zero_add, Nat.reduceAdd] at hst3
  obtain ⟨⟨⟨t, yt⟩, bt⟩, ⟨ht, hst, hct, hbt, hrt⟩, hst3⟩ := hst3.unx (k := 0) rfl (fun _ => rfl)
  clear hst2 hfr2 hk3
  dsimp only at ht hst hct hbt hrt
  refine hK4 _ _ ?_; clear hK4
  refine seq_any fun _ hK8 => ?_
  refine seq_any fun _ hK9 => ?_
  refine rp0 hst3 hfr3 (.cons rfl (ob_move rfl) <| .cons rfl (ob_not rfl) <| .cons rfl (ob_move rfl) <| .cons rfl (ob_loadLA (j := 0) rfl rfl Tryd.isAgg33 Tryd.sizeOf33 rfl) <| .cons rfl (ob_callE rfl (.cons rfl <| .nil) Tryd.call9 (fun w m hK => by have hle_ := KC.le hK; have hA := KC.agree hK; have ht := ht.mono hle_; exact quotes_c t hA ht (by omega))) <| .cons rfl (ob_or rfl rfl rfl) <| .nil) ?_
  intro a4 w4 m4 hst4 hle4 hk4
  have hfr4 := hk4.fr (T' := [(5, _), (6, _), (24, _)]) (.old rfl rfl <| .old rfl rfl <| .new rfl <| .nil)
  replace ht := ht.mono hle4
  clear hst3 hfr3 hk4
  refine hK9 _ _ ?_; clear hK9
  refine cond_any hfr4 rfl rfl (fun hb24 => ?_) (fun hb24 => ?_)
  · try simp only [nq1, nq2, nq3, nq4, nq5, nq6, nq7, nq8, nq9, u8_eq] at hb24
    refine seq_any fun _ hK10 => ?_
    refine rp0 hst4 hfr4 (.cons rfl (ob_move rfl) <| .cons rfl (ob_assign rfl) <| .nil) ?_
    intro a5 w5 m5 hst5 hle5 hk5
    have hfr5 := hk5.fr (T' := [(4, _)]) (.new rfl <| .nil)
    clear hst4 hfr4 hk5
    refine hK10 _ _ ?_; clear hK10
    refine wp_ret ?_
    repeat (with_reducible first | refine then_ret ?_ | refine block_ret ?_)
    exact fn_ret hst5 hfr5 rfl (.tmp rfl <| .nil) (rfl)
  · try simp only [nq1, nq2, nq3, nq4, nq5, nq6, nq7, nq8, nq9, u8_eq] at hb24
    have hq9 : quotesM t = false := hb24.2
    have hlaw := once_law hst hq9
    have hab1 := apart_bulk (t := t) (by omega)
    have hbl9 := bndT_len (apartM t)
    refine wp_skip ?_
    refine hK8 _ _ ?_; clear hK8
    refine seq_any fun _ hK12 => ?_
    replace hst4 := hst4.more (r := .free) trivial List.nodup_nil (by simp [Res.blocks])
    refine ra0 (tch := [(2, 1, (fun v => .blk v _)), (3, 1, (fun v => .blkx v _ _))]) hst4 hfr4 (.cons rfl (ob_loadLA (j := 0) rfl rfl Tryd.isAgg33 Tryd.sizeOf33 rfl) <| .cons rfl (ob_call (φ := MP.tm (apartM (t))) rfl (.cons rfl <| .nil) Tryd.call10 (fun w m hK => by have hle_ := KC.le hK; have hA := KC.agree hK; have hT := tab_keep hT hK.st.ext; have ht := ht.mono hle_; exact FnG.mono (apart_c (t := t) hA ht hT hst (by omega)) fun _ _ _ _ h => h)) <| .consT rfl rfl (fun _ => rfl) rfl (ob_allocL Tryd.zeroValue33 rfl) <| .consT rfl rfl (fun _ => rfl) rfl (ob_imgT 8 rfl rfl rfl fun y8 => ob_imgTX 27 rfl rfl rfl fun y27 => ob_storeKF rfl rfl rfl rfl rfl Tryd.sizeOf33 rfl rfl (fun w m hK => hK.2.one)) <| .nil) ?_
    intro a5 w5 m5 hst5 hle5 hk5
    have hfr5 := hk5.fr (T' := [(5, _), (6, _)]) (.old rfl rfl <| .old rfl rfl <| .nil)
    obtain ⟨g13, e13, _⟩ := hk5.ex 8 rfl
    replace hfr5 := hfr5.cons e13
    replace hst5 := hst5.fin (L' := [_, _]) (.cons e13 <| .cons e13 <| .nil)
    try simp only [List.take_succ_cons, List.take_zero, List.drop_succ_cons, List.drop_zero, List.cons_append, List.nil_append, List.append_nil, List.length_cons, List.length_nil, Nat.zero_add, Nat.reduceAdd] at hst5
    obtain ⟨ya, ha1, hst5⟩ := hst5.unx (k := 1) rfl (fun _ => rfl)
    replace ht := ht.mono hle5
    clear hst4 hfr4 hk5
    refine hK12 _ _ ?_; clear hK12
    refine seq_any fun _ hK15 => ?_
    refine ra0 (tch := []) hst5 hfr5 (.cons rfl (ob_loadLA (j := 1) rfl rfl Tryd.isAgg33 Tryd.sizeOf33 rfl) <| .cons rfl (ob_call (φ := MP.strs (bndT (apartM t))) rfl (.cons rfl <| .nil) Tryd.call14 (fun w m hK => by have hle_ := KC.le hK; have hA := KC.agree hK; have ha1 := ha1.mono hle_; exact FnG.mono (binders_c (apartM t) hA ha1 (by omega)) fun _ _ _ _ h => h)) <| .consA 29 rfl rfl <| .nil) ?_
    intro a6 w6 m6 hst6 hle6 hk6
    have hfr6 := hk6.fr (T' := [(5, _), (6, _), (8, _)]) (.old rfl rfl <| .old rfl rfl <| .old rfl rfl <| .nil)
    obtain ⟨⟨oL, cL⟩, e16, hL⟩ := hk6.ex 29 rfl
    replace hfr6 := hfr6.cons (hk6.same 9 rfl e16)
    replace ht := ht.mono hle6
    replace ha1 := ha1.mono hle6
    clear hst5 hfr5 hk6
    dsimp only [MP.strs, MP.mem] at hL
    refine hK15 _ _ ?_; clear hK15
    refine seq_any fun _ hK17 => ?_
    refine ra0 (tch := []) hst6 hfr6 (.cons rfl (ob_loadLA (j := 1) rfl rfl Tryd.isAgg33 Tryd.sizeOf33 rfl) <| .cons rfl (ob_call (φ := MP.strs (freeT (apartM t))) rfl (.cons rfl <| .nil) Tryd.call13 (fun w m hK => by have hle_ := KC.le hK; have hA := KC.agree hK; have ha1 := ha1.mono hle_; exact FnG.mono (free_c (t := apartM t) hA ha1 (by have := countM_bulk (apartM t); omega)) fun _ _ _ _ h => h)) <| .consA 31 rfl rfl <| .nil) ?_
    intro a7 w7 m7 hst7 hle7 hk7
    have hfr7 := hk7.fr (T' := [(5, _), (6, _), (9, _)]) (.old rfl rfl <| .old rfl rfl <| .old rfl rfl <| .nil)
    obtain ⟨⟨oF, cF⟩, e18, hF⟩ := hk7.ex 31 rfl
    replace hfr7 := hfr7.cons (hk7.same 10 rfl e18)
    replace ht := ht.mono hle7
    replace hL := hL.mono hle7
    clear hst6 hfr6 hk7
    dsimp only [MP.strs, MP.mem] at hF
    refine hK17 _ _ ?_; clear hK17
    refine seq_any fun _ hK19 => ?_
    refine seq_any fun _ hK20 => ?_
    refine rp0 hst7 hfr7 (.cons rfl (ob_assign rfl) <| .nil) ?_
    intro a8 w8 m8 hst8 hle8 hk8
    have hfr8 := hk8.fr (T' := [(5, _), (6, _), (9, _), (10, _), (11, _)]) (.old rfl rfl <| .old rfl rfl <| .old rfl rfl <| .old rfl rfl <| .new rfl <| .nil)
    replace ht := ht.mono hle8
    replace hL := hL.mono hle8
    replace hF := hF.mono hle8
    clear hst7 hfr7 hk8
    refine hK20 _ _ ?_; clear hK20
    refine wp_block ?_
    refine loop_any (T := [(5, _), (6, _), (9, _), (10, _)]) (fun (y : Nat) => ([(11, .int .i64 (y : Int))] : List (Nat × Value))) (fun _ => _) (fun (y : Nat) m => (y ≤ (bndT (apartM t)).length)) (fun y => (bndT (apartM t)).length - y) (0) ⟨hst8, MLe.refl _, hfr8.sub (.cons rfl <| .cons rfl <| .cons rfl <| .cons rfl <| .cons rfl <| .nil), Nat.zero_le _⟩ fun y a9 w9 m9 hh9 => ?_
    have hst9 := hh9.st; have hle9 := hh9.le; have hfr9 := hh9.fr; have hrel := hh9.rel; clear hh9
    replace ht := ht.mono hle9
    replace hL := hL.mono hle9
    replace hF := hF.mono hle9
    clear hst8 hfr8
    have hyn := hrel
    have hlh9 := hle9
    refine seq_any fun _ hK22 => ?_
    refine seq_any fun _ hK23 => ?_
    refine rp0 hst9 hfr9 (.cons rfl (ob_move rfl) <| .cons rfl (ob_move rfl) <| .cons rfl (ob_len rfl Tryd.underlying27) <| .cons rfl (ob_lss rfl rfl) <| .nil) ?_
    intro a10 w10 m10 hst10 hle10 hk10
    have hfr10 := hk10.fr (T' := [(11, _), (5, _), (6, _), (9, _), (10, _), (35, _)]) (.old rfl rfl <| .old rfl rfl <| .old rfl rfl <| .old rfl rfl <| .old rfl rfl <| .new rfl <| .nil)
    replace ht := ht.mono hle10
    replace hL := hL.mono hle10
    replace hF := hF.mono hle10
    have hlh10 := hlh9.trans hle10
    clear hst9 hfr9 hk10
    refine hK23 _ _ ?_; clear hK23
    refine cond_any hfr10 rfl rfl (fun hb35 => ?_) (fun hb35 => ?_)
    · try simp only [nq1, nq2, nq3, nq4, nq5, nq6, nq7, nq8, nq9, u8_eq] at hb35
      refine wp_skip ?_
      refine hK22 _ _ ?_; clear hK22
      refine seq_any fun _ hK24 => ?_
      refine wp_block ?_
      refine seq_any fun _ hK25 => ?_
      have hcL9 := hL.cap
      have hct26 : Strs _ _ _ _ (((bndT (apartM t)).take (y)).drop (0)) := hL.cut (l := 0) (k := y) (by omega) (by omega)
      have hcl26 : (y) - (0) = ((((bndT (apartM t)).take (y)).drop (0))).length := hct26.len.symm
      have hcu26 : Strs _ _ _ _ (((bndT (apartM t)).take (y)).drop (0)) := hct26.lenL
      obtain ⟨p27, vs27, x27, ho27, hd27, hm_x27, ht27, hcv27, hl27, hv27⟩ := hL.nth (k := y) (by omega)
      cases ho27
      subst hv27
      refine region_plain (fun _ => mixed) hst10 hfr10 (by kernel_rfl) (by kernel_rfl) (.cons rfl (ob_move rfl) <| .cons rfl (ob_move rfl) <| .cons rfl (ob_slice (l := 0) (h := y) rfl .none (.some rfl (by omega)) Tryd.underlying27 Tryd.sizeOf9 (by omega) (by omega)) <| .cons rfl (ob_move rfl) <| .cons rfl (ob_move rfl) <| .cons rfl (ob_indexAddr (k := y) rfl rfl Tryd.underlying27 Tryd.sizeOf9 rfl (by omega)) <| .cons rfl (ob_load1' rfl hcv27 Tryd.isAgg9 rfl) <| .cons rfl (ob_callE rfl (.cons rfl <| .cons rfl <| .nil) Tryd.call15 (fun w m hK => by have hle_ := KC.le hK; have hA := KC.agree hK; have hcu26 := hcu26.mono hle_; exact (by rw [hcl26]; exact in_c hA hcu26))) <| .cons rfl (ob_move rfl) <| .cons rfl (ob_move rfl) <| .cons rfl (ob_move rfl) <| .cons rfl (ob_move rfl) <| .cons rfl (ob_indexAddr (k := y) rfl rfl Tryd.underlying27 Tryd.sizeOf9 rfl (by omega)) <| .cons rfl (ob_load1' rfl hcv27 Tryd.isAgg9 rfl) <| .cons rfl (ob_callE rfl (.cons rfl <| .cons rfl <| .nil) Tryd.call15 (fun w m hK => by have hle_ := KC.le hK; have hA := KC.agree hK; have hF := hF.mono hle_; exact in_c hA hF)) <| .cons rfl (ob_or rfl rfl rfl) <| .nil) ?_
      intro a11 w11 m11 hst11 hle11 hk11
      have hfr11 := hk11.fr (T' := [(11, _), (5, _), (6, _), (9, _), (10, _), (53, _)]) (.old rfl rfl <| .old rfl rfl <| .old rfl rfl <| .old rfl rfl <| .old rfl rfl <| .new rfl <| .nil)
      have hlh11 := hlh10.trans hle11
      clear hst10 hfr10 hk11
      refine hK25 _ _ ?_; clear hK25
      refine cond_any hfr11 rfl rfl (fun hb53 => ?_) (fun hb53 => ?_)
      · try simp only [nq1, nq2, nq3, nq4, nq5, nq6, nq7, nq8, nq9, u8_eq] at hb53
        skip
        rcases hb53 with h | h
        · exact (nodup_take hlaw.1 hd27 (by simpa using h)).elim
        · exact absurd h (hlaw.2.1 _ hm_x27)
      · try simp only [nq1, nq2, nq3, nq4, nq5, nq6, nq7, nq8, nq9, u8_eq] at hb53
        refine wp_skip ?_
        refine hK24 _ _ ?_; clear hK24
        refine rp0 hst11 hfr11 (.cons rfl (ob_move rfl) <| .cons rfl (ob_add rfl rfl ⟨by omega, by omega⟩) <| .cons rfl (ob_assign rfl) <| .nil) ?_
        intro a12 w12 m12 hst12 hle12 hk12
        have hfr12 := hk12.fr (T' := [(5, _), (6, _), (9, _), (10, _), (11, _)]) (.old rfl rfl <| .old rfl rfl <| .old rfl rfl <| .old rfl rfl <| .new rfl <| .nil)
        have hlh12 := hlh11.trans hle12
        clear hst11 hfr11 hk12
        exact ⟨y + 1, m12, by show (bndT (apartM t)).length - (y + 1) < (bndT (apartM t)).length - y; omega, ⟨hst12, hlh12, hfr12.sub (.cons rfl <| .cons rfl <| .cons rfl <| .cons rfl <| .cons rfl <| .nil), by show y + 1 ≤ (bndT (apartM t)).length; omega⟩⟩
    · try simp only [nq1, nq2, nq3, nq4, nq5, nq6, nq7, nq8, nq9, u8_eq] at hb35
      have hge : y = (bndT (apartM t)).length := by omega
      refine wp_exit ?_
      refine hK19 _ _ ?_; clear hK19
      refine seq_any fun _ hK28 => ?_
      refine rp0 hst10 hfr10 (.cons rfl (ob_move rfl) <| .cons rfl (ob_move rfl) <| .cons rfl (ob_move rfl) <| .cons rfl (ob_len rfl Tryd.underlying27) <| .cons rfl (ob_loadLA (j := 0) rfl rfl Tryd.isAgg33 Tryd.sizeOf33 rfl) <| .cons rfl (ob_call (φ := MP.strs (bndT (t))) rfl (.cons rfl <| .nil) Tryd.call14 (fun w m hK => by have hle_ := KC.le hK; have hA := KC.agree hK; have ht := ht.mono hle_; exact FnG.mono (binders_c (t) hA ht (by omega)) fun _ _ _ _ h => h)) <| .cons rfl (ob_imgE 59 rfl rfl rfl fun y59 => ob_len rfl Tryd.underlying27) <| .cons rfl (ob_eql rfl rfl) <| .cons rfl (ob_and rfl rfl rfl) <| .cons rfl (ob_assign rfl) <| .nil) ?_
      intro a11 w11 m11 hst11 hle11 hk11
      have hfr11 := hk11.fr (T' := [(11, _), (4, _)]) (.old rfl rfl <| .new rfl <| .nil)
      have hlh11 := hlh10.trans hle11
      clear hst10 hfr10 hk11
      refine hK28 _ _ ?_; clear hK28
      refine wp_ret ?_
      repeat (with_reducible first | refine then_ret ?_ | refine block_ret ?_)
      exact fn_ret hst11 hfr11 rfl (.tmp rfl <| .nil) (by refine congrArg Value.bool ?_; rw [hlaw.2.2]; simp)

end Go.Proofs.YteamjgbhcjojaaaDoor
