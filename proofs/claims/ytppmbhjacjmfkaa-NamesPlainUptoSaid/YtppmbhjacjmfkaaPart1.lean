/-
  Renaming: a part of a program. Conditions: those of each theorem.
-/
import Derived.Test.YtppmbhjacjmfkaaTerms2
namespace Go.Proofs.Ytppmbhjacjmfkaa
set_option linter.all false
set_option maxRecDepth 4000
open Go.RowKit
/-- A kind has as many kids as it may have, as far as names are bound in them. -/
def shOk (k : Int) (n : Nat) : Prop := (k = 5 → n ≤ 1) ∧ (k = 8 → n ≤ 2)
inductive ShT : Tm → Prop where
  | mk {t : Tm} (h : shOk t.kind t.kids.length) (hk : ∀ u ∈ t.kids, ShT u) (ha : ∀ a ∈ t.arms, ShT a.body) : ShT t
theorem ShT.here {t : Tm} (h : ShT t) : shOk t.kind t.kids.length := by cases h; assumption
theorem ShT.kid {t u : Tm} (h : ShT t) (hu : u ∈ t.kids) : ShT u := by cases h with | mk _ hk _ => exact hk u hu
theorem ShT.arm {t : Tm} {a : Ar} (h : ShT t) (ha : a ∈ t.arms) : ShT a.body := by cases h with | mk _ _ hh => exact hh a ha
theorem RtT.sh {t : Tm} (h : RtT t) : ShT t := by
  induction t using Tm.rec_ with
  | h t ihk iha =>
    refine .mk ?_ (fun u hu => ihk u hu (h.kid hu)) (fun a ha => iha a ha (h.arm ha))
    have := h.here.1
    unfold kidsM at this
    constructor <;> intro hk <;> rw [hk] at this <;> simp at this <;> omega
theorem zeroT_sh : ShT zeroT := .mk ⟨fun h => (by cases h), fun h => (by cases h)⟩ (fun _ h => nomatch h) (fun _ h => nomatch h)
def MP.partB (B : Nat) : MP := MP.mem (fun y : (Tm × TmY) × Bool => .tuple #[.agg (tmV y.1.1 y.1.2).toArray, .bool y.2]) (fun y m => TmR m y.1.1 (tmV y.1.1 y.1.2) ∧ ShT y.1.1 ∧ countM y.1.1 ≤ 300 ∧ bulkM y.1.1 ≤ B ∧ (RtT y.1.1 ∨ y.1.1 = zeroT)) fun hm h => ⟨h.1.mono hm, h.2⟩
set_option maxHeartbeats 1600000 in
theorem part_c {w : World} {m : Mem} {p : Pg} {vs_p : List Value} {n : Int} (hA : Agree w m) (h_p : PgR m p vs_p) (hbo : opsN p.effects ≤ 1000000000) (hbc : consN p.datas ≤ 1000000000) (hbd : p.datas.length ≤ 1000000000) (B : Nat) (hB : bulkM p.body ≤ B) (hB2 : B ≤ 1000000000) : FnV Try.prog 9 #[.agg vs_p.toArray, .int .i64 n] w m (fun _ m v => (MP.partB B).p m v) := by
  obtain ⟨oE_p, cE_p, oD_p, cD_p, bs_p, rfl, hef_p, hda_p, hpb_p⟩ := id h_p
  have hbe_p := hef_p.big; have hce_p := hef_p.cap; have hbda_p := hda_p.big; have hcd_p := hda_p.cap
  obtain ⟨⟨oK_pb, cK_pb, oA_pb, cA_pb, oR_pb, cR_pb, t0_pb, t1_pb, t2_pb, t3_pb, t4_pb, t5_pb, u0_pb, u1_pb, u2_pb, u3_pb, u4_pb, u5_pb⟩, rfl, hon_pb, hkk_pb, haa_pb, hrr_pb⟩ := hpb_p.open_
  dsimp only at hkk_pb haa_pb hrr_pb
  have hbg_pb := hkk_pb.big; have hcp_pb := hkk_pb.cap; have hbh_pb := haa_pb.big; have hcq_pb := haa_pb.cap
  refine fn_enter (vs := [_, _]) Try.func9 rfl rfl rfl fun a0 hfr0 => ?_
  have hst0 := st_enter hA (loc_nil [] _ w m)
  have hM : MLe m m := MLe.refl m
  have hbig : bulkM p.body ≤ 1000000000 := Nat.le_trans hB hB2
  have hcb := countM_bulk p.body
  have hband : 0 ≤ band n 65535 ∧ band n 65535 ≤ 65535 := band_le n 65535 (by decide)
  refine seq_any fun _ hK1 => ?_
  replace hst0 := hst0.more (r := .free) trivial List.nodup_nil (by simp [Res.blocks])
  refine ra0 (tch := [(1, 0, (fun v => .blk v _))]) hst0 hfr0 (.cons rfl (ob_box rfl rfl) <| .consT rfl rfl (fun _ => rfl) rfl (ob_allocL Try.zeroValue33 rfl) <| .cons rfl (ob_assign rfl) <| .nil) ?_
  intro a1 w1 m1 hst1 hle1 hk1
  have hfr1 := hk1.fr (T' := [(1, _)]) (.old rfl rfl <| .nil)
  obtain ⟨g2, e2, hc2⟩ := hk1.ex 2 rfl
  replace hfr1 := hfr1.cons e2
  obtain ⟨g3, e3, _⟩ := hk1.ex 4 rfl
  replace hfr1 := hfr1.cons e3
  replace hst1 := hst1.fin (L' := [_]) (.cons e3 <| .nil)
  replace h_p := h_p.mono hle1
  replace hpb_p := hpb_p.mono hle1
  clear hst0 hfr0 hk1
  refine hK1 _ _ ?_; clear hK1
  refine seq_any fun _ hK4 => ?_
  refine seq_any fun _ hK5 => ?_
  refine rp0 hst1 hfr1 (.cons rfl (ob_fieldAddrO (off := 2) rfl Try.underlying35 rfl rfl Try.sizeOf33 rfl) <| .cons rfl (ob_loadS rfl hc2 Try.isAgg33 Try.sizeOf33 rfl rfl) <| .cons rfl (ob_callE rfl (.cons rfl <| .nil) Try.call27 (fun w m hK => by have hle_ := KC.le hK; have hA := KC.agree hK; have hpb_p := hpb_p.mono hle_; exact count_c p.body hA hpb_p (by omega))) <| .cons rfl (ob_gtr rfl rfl) <| .cons rfl (ob_move rfl) <| .cons rfl (ob_fieldAddrO (off := 0) rfl Try.underlying35 rfl rfl Try.sizeOf22 rfl) <| .cons rfl (ob_load1 rfl hc2 Try.isAgg22 rfl) <| .cons rfl (ob_len rfl Try.underlying22) <| .cons rfl (ob_gtr rfl rfl) <| .cons rfl (ob_or rfl rfl rfl) <| .cons rfl (ob_move rfl) <| .cons rfl (ob_fieldAddrO (off := 1) rfl Try.underlying35 rfl rfl Try.sizeOf23 rfl) <| .cons rfl (ob_load1 rfl hc2 Try.isAgg23 rfl) <| .cons rfl (ob_len rfl Try.underlying23) <| .cons rfl (ob_gtr rfl rfl) <| .cons rfl (ob_or rfl rfl rfl) <| .nil) ?_
  intro a2 w2 m2 hst2 hle2 hk2
  have hfr2 := hk2.fr (T' := [(1, _), (2, _), (4, _), (26, _)]) (.old rfl rfl <| .old rfl rfl <| .old rfl rfl <| .new rfl <| .nil)
  replace h_p := h_p.mono hle2
  replace hpb_p := hpb_p.mono hle2
  replace hc2 := hc2.mono hle2
  clear hst1 hfr1 hk2
  refine hK5 _ _ ?_; clear hK5
  refine cond_any hfr2 rfl rfl (fun hb26 => ?_) (fun hb26 => ?_)
  · try simp only [nq1, nq2, nq3, nq4, nq5, nq6, nq7, nq8, nq9, u8_eq] at hb26
    refine seq_any fun _ hK6 => ?_
    refine ra0 (tch := [(1, 0, (fun _ => .blk _ _))]) hst2 hfr2 (.cons rfl (ob_buildS (.nil) Try.underlying33 Try.zeroValue33 (.cons Try.sizeOf3 <| .cons Try.sizeOf3 <| .cons Try.sizeOf9 <| .cons Try.sizeOf9 <| .cons Try.sizeOf3 <| .cons Try.sizeOf24 <| .cons Try.sizeOf25 <| .cons Try.sizeOf31 <| .cons Try.sizeOf29 <| .cons Try.sizeOf31 <| .nil) rfl) <| .consT rfl rfl (fun _ => rfl) rfl (ob_store' rfl rfl rfl Try.sizeOf33 rfl rfl rfl) <| .cons rfl (ob_assign rfl) <| .nil) ?_
    intro a3 w3 m3 hst3 hle3 hk3
    have hfr3 := hk3.fr (T' := [(4, _), (5, _)]) (.old rfl rfl <| .new rfl <| .nil)
    replace hst3 := hst3.fin (L' := [_]) (.cons rfl <| .nil)
    try simp only [List.take_succ_cons, List.take_zero, List.drop_succ_cons, List.drop_zero, List.cons_append, List.nil_append, List.append_nil, List.length_cons, List.length_nil, Nat.zero_add, Nat.reduceAdd] at hst3
    clear hst2 hfr2 hk3
    refine hK6 _ _ ?_; clear hK6
    refine wp_ret ?_
    repeat (with_reducible first | refine then_ret ?_ | refine block_ret ?_)
    exact fn_ret hst3 hfr3 rfl (.cell rfl (load_blk (blk_heap (hst3.loc.at_ (k := 0) rfl)) Try.isAgg33 Try.sizeOf33) <| .tmp rfl <| .nil) (⟨((zeroT, TmY.zero none 0 none 0), false), rfl, zeroT_R, zeroT_sh, by decide, by have := bulkM_eq p.body; show 3 + 0 + 0 + 0 + 0 ≤ B; omega, .inr rfl⟩)
  · try simp only [nq1, nq2, nq3, nq4, nq5, nq6, nq7, nq8, nq9, u8_eq] at hb26
    have hc3 : countM p.body ≤ 300 := by omega
    refine wp_skip ?_
    refine hK4 _ _ ?_; clear hK4
    refine seq_any fun _ hK8 => ?_
    refine ra0 (tch := []) hst2 hfr2 (.cons rfl (ob_loadS' rfl hc2 Try.isAgg35 Try.sizeOf35 rfl rfl) <| .cons rfl (ob_call (φ := MP.chkB p.body) rfl (.cons rfl <| .nil) Try.call28 (fun w m hK => by have hle_ := KC.le hK; have hA := KC.agree hK; have h_p := h_p.mono hle_; exact FnG.mono (check_c hA h_p hbo hbc hbd hbig) fun _ _ _ _ h => h)) <| .cons rfl (ob_imgV 30 rfl rfl rfl fun y30 => ob_move rfl) <| .cons rfl (ob_imgV 28 rfl rfl rfl fun y28 => ob_extract rfl rfl) <| .cons rfl (ob_imgV 28 rfl rfl rfl fun y28 => ob_extract rfl rfl) <| .consA 31 rfl rfl <| .consA 32 rfl rfl <| .nil) ?_
    intro a3 w3 m3 hst3 hle3 hk3
    have hfr3 := hk3.fr (T' := [(1, _), (2, _), (4, _)]) (.old rfl rfl <| .old rfl rfl <| .old rfl rfl <| .nil)
    obtain ⟨⟨a31, b31⟩, e9, _⟩ := hk3.ex 31 rfl
    obtain ⟨⟨a32, b32⟩, e10, hr32⟩ := hk3.ex 32 rfl
    replace hfr3 := hfr3.cons (hk3.same 7 rfl e10)
    replace hpb_p := hpb_p.mono hle3
    replace hc2 := hc2.mono hle3
    clear hst2 hfr2 hk3
    refine hK8 _ _ ?_; clear hK8
    refine seq_any fun _ hK11 => ?_
    refine seq_any fun _ hK12 => ?_
    refine rp0 hst3 hfr3 (.cons rfl (ob_move rfl) <| .cons rfl (ob_neq rfl rfl) <| .nil) ?_
    intro a4 w4 m4 hst4 hle4 hk4
    have hfr4 := hk4.fr (T' := [(1, _), (2, _), (4, _), (34, _)]) (.old rfl rfl <| .old rfl rfl <| .old rfl rfl <| .new rfl <| .nil)
    replace hpb_p := hpb_p.mono hle4
    replace hc2 := hc2.mono hle4
    clear hst3 hfr3 hk4
    refine hK12 _ _ ?_; clear hK12
    refine cond_any hfr4 rfl rfl (fun hb34 => ?_) (fun hb34 => ?_)
    · try simp only [nq1, nq2, nq3, nq4, nq5, nq6, nq7, nq8, nq9, u8_eq] at hb34
      refine seq_any fun _ hK13 => ?_
      refine ra0 (tch := [(1, 0, (fun _ => .blk _ _))]) hst4 hfr4 (.cons rfl (ob_buildS (.nil) Try.underlying33 Try.zeroValue33 (.cons Try.sizeOf3 <| .cons Try.sizeOf3 <| .cons Try.sizeOf9 <| .cons Try.sizeOf9 <| .cons Try.sizeOf3 <| .cons Try.sizeOf24 <| .cons Try.sizeOf25 <| .cons Try.sizeOf31 <| .cons Try.sizeOf29 <| .cons Try.sizeOf31 <| .nil) rfl) <| .consT rfl rfl (fun _ => rfl) rfl (ob_store' rfl rfl rfl Try.sizeOf33 rfl rfl rfl) <| .cons rfl (ob_assign rfl) <| .nil) ?_
      intro a5 w5 m5 hst5 hle5 hk5
      have hfr5 := hk5.fr (T' := [(4, _), (5, _)]) (.old rfl rfl <| .new rfl <| .nil)
      replace hst5 := hst5.fin (L' := [_]) (.cons rfl <| .nil)
      try simp only [List.take_succ_cons, List.take_zero, List.drop_succ_cons, List.drop_zero, List.cons_append, List.nil_append, List.append_nil, List.length_cons, List.length_nil, Nat.zero_add, Nat.reduceAdd] at hst5
      clear hst4 hfr4 hk5
      refine hK13 _ _ ?_; clear hK13
      refine wp_ret ?_
      repeat (with_reducible first | refine then_ret ?_ | refine block_ret ?_)
      exact fn_ret hst5 hfr5 rfl (.cell rfl (load_blk (blk_heap (hst5.loc.at_ (k := 0) rfl)) Try.isAgg33 Try.sizeOf33) <| .tmp rfl <| .nil) (⟨((zeroT, TmY.zero none 0 none 0), false), rfl, zeroT_R, zeroT_sh, by decide, by have := bulkM_eq p.body; show 3 + 0 + 0 + 0 + 0 ≤ B; omega, .inr rfl⟩)
    · try simp only [nq1, nq2, nq3, nq4, nq5, nq6, nq7, nq8, nq9, u8_eq] at hb34
      have hrt : RtT p.body := hr32 (by omega)
      have hc1 : 1 ≤ countM p.body := by rw [countM_eq]; omega
      have hq1 : 0 ≤ (band n 65535).tmod (countM p.body : Int) := Int.tmod_nonneg _ hband.1
      have hq2 : (band n 65535).tmod (countM p.body : Int) ≤ 65535 := by rw [Int.tmod_eq_emod_of_nonneg hband.1]; have := Int.emod_lt_of_pos (band n 65535) (b := (countM p.body : Int)) (by omega); omega
      refine wp_skip ?_
      refine hK11 _ _ ?_; clear hK11
      refine seq_any fun _ hK15 => ?_
      replace hst4 := hst4.more (r := .free) trivial List.nodup_nil (by simp [Res.blocks])
      refine region_any (tch := [(14, 1, (fun v => .blk v _)), (15, 1, (fun v => .blkx v _ _))]) (fun _ => mixed) hst4 hfr4 (by kernel_rfl) (by kernel_rfl) (by kernel_rfl) (.cons rfl (ob_fieldAddrO (off := 2) rfl Try.underlying35 rfl rfl Try.sizeOf33 rfl) <| .cons rfl (ob_loadS rfl hc2 Try.isAgg33 Try.sizeOf33 rfl rfl) <| .cons rfl (ob_call (φ := MP.tm (cleanT p.body)) rfl (.cons rfl <| .nil) Try.call30 (fun w m hK => by have hle_ := KC.le hK; have hA := KC.agree hK; have hpb_p := hpb_p.mono hle_; exact FnG.mono (clean_c p.body hA hpb_p (by omega)) fun _ _ _ _ h => h)) <| .cons rfl (ob_move rfl) <| .cons rfl (ob_band rfl rfl) <| .cons rfl (ob_fieldAddrO (off := 2) rfl Try.underlying35 rfl rfl Try.sizeOf33 rfl) <| .cons rfl (ob_loadS rfl hc2 Try.isAgg33 Try.sizeOf33 rfl rfl) <| .cons rfl (ob_callE rfl (.cons rfl <| .nil) Try.call27 (fun w m hK => by have hle_ := KC.le hK; have hA := KC.agree hK; have hpb_p := hpb_p.mono hle_; exact count_c p.body hA hpb_p (by omega))) <| .cons rfl (ob_rem rfl rfl (by omega)) <| .cons rfl (ob_imgE 39 rfl rfl rfl fun y39 => ob_call (φ := MP.atB (cleanT p.body) ((band n 65535).tmod (countM p.body : Int))) rfl (.cons rfl <| .cons rfl <| .nil) Try.call29 (fun w m hK => by have hle_ := KC.le hK; have hA := KC.agree hK; have hr0_ := hK.2; exact FnG.mono (at_c (cleanT p.body) hA hK.2 hq1 (by omega)) fun _ _ _ _ h => h)) <| .cons rfl (ob_imgV 46 rfl rfl rfl fun y46 => ob_move rfl) <| .cons rfl (ob_imgV 36 rfl rfl rfl fun y36 => ob_extract rfl rfl) <| .cons rfl (ob_imgV 36 rfl rfl rfl fun y36 => ob_extract rfl rfl) <| .cons rfl (ob_imgV 36 rfl rfl rfl fun y36 => ob_extract rfl rfl) <| .consT rfl rfl (fun _ => rfl) rfl (ob_allocL Try.zeroValue33 rfl) <| .consT rfl rfl (fun _ => rfl) rfl (ob_imgT 8 rfl rfl rfl fun y8 => ob_imgTX 47 rfl rfl rfl fun y47 => ob_storeKF rfl rfl rfl rfl rfl Try.sizeOf33 rfl rfl (fun w m hK => hK.2.1.one)) <| .consA 48 rfl rfl <| .consA 49 rfl rfl <| .nil) ?_
      intro a5 w5 m5 hst5 hle5 hk5
      have hfr5 := hk5.fr (T' := [(4, _)]) (.old rfl rfl <| .nil)
      obtain ⟨⟨⟨xa, ya⟩, na, ba⟩, e16, _⟩ := hk5.ex 48 rfl
      obtain ⟨⟨⟨xb, yb⟩, nb, bb⟩, e17, _⟩ := hk5.ex 49 rfl
      obtain ⟨g18, e18, _⟩ := hk5.ex 8 rfl
      replace hfr5 := hfr5.cons e18
      replace hfr5 := hfr5.cons (hk5.same 10 rfl e17)
      replace hst5 := hst5.fin (L' := [_, _]) (.cons e18 <| .cons e18 <| .nil)
      try simp only [List.take_succ_cons, List.take_zero, List.drop_succ_cons, List.drop_zero, List.cons_append, List.nil_append, List.append_nil, List.length_cons, List.length_nil, Nat.zero_add, Nat.reduceAdd] at hst5
      obtain ⟨⟨⟨xu, yu⟩, nu, bu⟩, ⟨htu, hlu, hptu⟩, hst5⟩ := hst5.unx (k := 1) rfl (fun _ => rfl)
      clear hst4 hfr4 hk5
      dsimp only at hptu htu
      refine hK15 _ _ ?_; clear hK15
      refine seq_any fun _ hK20 => ?_
      refine ra0 (tch := [(2, 0, (fun _ => .blk _ _))]) hst5 hfr5 (.cons rfl (ob_loadLA (j := 1) rfl rfl Try.isAgg33 Try.sizeOf33 rfl) <| .cons rfl (ob_move rfl) <| .consT rfl rfl (fun _ => rfl) rfl (ob_store' rfl rfl rfl Try.sizeOf33 rfl rfl htu.one) <| .cons rfl (ob_assign rfl) <| .nil) ?_
      intro a6 w6 m6 hst6 hle6 hk6
      have hfr6 := hk6.fr (T' := [(4, _), (5, _)]) (.old rfl rfl <| .new rfl <| .nil)
      replace hst6 := hst6.fin (L' := [_, _]) (.cons rfl <| .nil)
      try simp only [List.take_succ_cons, List.take_zero, List.drop_succ_cons, List.drop_zero, List.cons_append, List.nil_append, List.append_nil, List.length_cons, List.length_nil, Nat.zero_add, Nat.reduceAdd] at hst6
      replace htu := htu.mono hle6
      clear hst5 hfr5 hk6
      refine hK20 _ _ ?_; clear hK20
      refine wp_ret ?_
      repeat (with_reducible first | refine then_ret ?_ | refine block_ret ?_)
      exact fn_ret hst6 hfr6 rfl (.cell rfl (load_blk (blk_heap (hst6.loc.at_ (k := 0) rfl)) Try.isAgg33 Try.sizeOf33) <| .tmp rfl <| .nil) (⟨((xu, yu), bb), rfl, htu, hptu.elim (fun h => (hrt.clean.sub h).sh) (fun h => by subst h; exact zeroT_sh), hptu.elim (fun h => Nat.le_trans h.count (by rw [cleanT_count]; exact hc3)) (fun h => by subst h; show countM zeroT ≤ 300; decide), hptu.elim (fun h => Nat.le_trans h.bulk (Nat.le_trans (cleanT_bulk _) hB)) (fun h => by subst h; have := bulkM_eq p.body; show 3 + 0 + 0 + 0 + 0 ≤ B; omega), hptu.imp (fun h => hrt.clean.sub h) id⟩)

end Go.Proofs.Ytppmbhjacjmfkaa
