/-
  A law of chapter 13, walked. Conditions: those of the theorem.
-/
import Derived.Test.YtppmbhjacjmfkaaShown3
namespace Go.Proofs.Ytppmbhjacjmfkaa
set_option linter.all false
set_option maxRecDepth 4000
open Go.RowKit
theorem flag_ok {q : Bool} (h : (!q) = false) : q = true := by cases q; cases h; rfl
theorem kids_none {t : Tm} (h : RtT t) (hk : t.kind = 1 ∨ t.kind = 2 ∨ t.kind = 3 ∨ t.kind = 4) : t.kids = [] ∧ t.arms = [] := by
  obtain ⟨h1, h2⟩ := h.here
  refine ⟨?_, h2 (by omega) (by omega)⟩
  have : kidsM t.kind = 0 := by unfold kidsM; rw [if_pos (by omega)]
  rw [this] at h1
  exact List.eq_nil_of_length_eq_zero (by omega)
theorem value_plain {t : Tm} : RtT t → valueT t = true → plainT t = true := by
  induction t using Tm.rec_ with
  | h t ihk iha =>
    intro hr hv
    rw [valueT_eq] at hv
    rw [plainT_eq]
    simp only [Bool.or_eq_true, Bool.and_eq_true, decide_eq_true_eq] at hv
    rcases hv with hv | ⟨hv, hk⟩
    · by_cases h5 : t.kind = 5
      · rw [if_neg (by omega), if_pos h5]
      · obtain ⟨h1, h2⟩ := kids_none hr (by omega)
        rw [if_neg (by omega), if_neg h5, h1, h2]; rfl
    · rw [if_neg (by omega), if_neg (by omega), hr.here.2 (by omega) (by omega), decide_eq_false (by omega), plainKs_all]
      rw [valueKs_all, List.all_eq_true] at hk
      have : t.kids.all plainT = true := List.all_eq_true.2 fun u hu => ihk u hu (hr.kid hu) (hk u hu)
      rw [this]; rfl
theorem ShT.row {t : Tm} (h : ShT t) (r : Rw) : ShT ⟨t.kind, t.at_, t.name, t.param, t.n, t.kids, t.arms, r⟩ := .mk h.here (fun u hu => h.kid hu) (fun a ha => h.arm ha)
theorem count_row (t : Tm) (r : Rw) : countM ⟨t.kind, t.at_, t.name, t.param, t.n, t.kids, t.arms, r⟩ = countM t := by rw [countM_eq, countM_eq t]; rfl
theorem parts_law {s x : Str} (hx : x ≠ uS) (t u : Tm) : (true && ((decide (s ∈ freeT (callT t u))) == (decide (s ∈ freeT t) || decide (s ∈ freeT u))) && ((decide (s ∈ freeT (letT x t u))) == (decide (s ∈ freeT t) || (decide (s ∈ freeT u) && !decide (s = x)))) &&
    decide ((usesM s (callT t u) : Int) = (usesM s t : Int) + (usesM s u : Int))) = true := by
  have e1 := uses_call s t u
  have e2 : usesM s (letT x t u) = usesM s t + if s = x then 0 else usesM s u := by
    rw [uses_let]
    by_cases h : s = x
    · rw [if_pos h, if_neg (fun h2 => h2.elim (fun h2 => hx (h.symm.trans h2)) (fun h2 => h2 h))]
    · rw [if_neg h, if_pos (.inr h)]
  simp only [mem_free, e1, e2]
  generalize usesM s t = a; generalize usesM s u = b
  by_cases h3 : s = x
  · rw [if_pos h3]; cases a <;> cases b <;> simp [h3] <;> omega
  · rw [if_neg h3]; cases a <;> cases b <;> simp [h3] <;> omega
theorem plain_law (t u : Tm) (h : valueT t = true → plainT t = true) : (true && (!valueT t || plainT t) && valueT (funT [120] t) && plainT (funT [120] t) && !valueT (callT t u) && !plainT (callT t u) && (plainT (letT [120] t u) == (plainT t && plainT u)) && (!plainT t || quietT t)) = true := by
  have e1 : valueT (funT [120] t) = true := rfl
  have e2 : plainT (funT [120] t) = true := by rw [plainT_eq]; rfl
  have e3 : valueT (callT t u) = false := rfl
  have e4 : plainT (callT t u) = false := by rw [plainT_eq]; rfl
  have e5 : plainT (letT [120] t u) = (plainT t && plainT u) := by rw [plainT_eq]; show ((plainT t && (plainT u && true)) && true) = _; simp
  rw [e1, e2, e3, e4, e5]
  unfold quietT
  cases hv : valueT t <;> cases hp : plainT t <;> simp_all
theorem fill_ar {r : Option (List Value)} {a b x y : Value} {z vs : List Value} (h : r = some (putL (putL (putL (a :: b :: z) 0 [x]) 1 [y]) 2 vs)) (hl : vs.length = z.length) : r = some (x :: y :: vs) := by
  rw [h, putL_ar3 rfl rfl hl]; rfl
theorem tmV_inj {t : Tm} {y z : TmY} (h : tmV t y = tmV t z) : y = z := by
  obtain ⟨a1, a2, a3, a4, a5, a6, b0, b1, b2, b3, b4, b5, c0, c1, c2, c3, c4, c5⟩ := y
  obtain ⟨d1, d2, d3, d4, d5, d6, e0, e1, e2, e3, e4, e5, f0, f1, f2, f3, f4, f5⟩ := z
  simp only [tmV, List.cons.injEq, Value.slice.injEq, true_and, and_true] at h
  obtain ⟨⟨rfl, rfl⟩, ⟨rfl, rfl⟩, rfl, rfl, rfl, rfl, rfl, rfl, ⟨rfl, rfl⟩, rfl, rfl, rfl, rfl, rfl, rfl⟩ := h
  rfl
theorem TmR.openY {m : Mem} {t : Tm} {y : TmY} (h : TmR m t (tmV t y)) : y.one ∧ Tms m y.o1 t.kids.length y.c1 t.kids ∧ Ars m y.o2 t.arms.length y.c2 t.arms ∧ RwR m t.row [.slice y.o3 t.row.labels.length y.c3, .int .i64 t.row.var] := by
  obtain ⟨z, e, h1⟩ := h.open_
  have := tmV_inj e
  subst this; exact h1
theorem beq_dec {a b : Bool} (h : a = b) : (a == b) = true := by rw [h]; exact BEq.rfl
set_option maxHeartbeats 1600000 in
theorem namesTell_c {w : World} {m : Mem} {p : Pg} {vs_p : List Value} {n : Int} {s : Str} {r : Rw} {vs_r : List Value} (hA : Agree w m) (h_p : PgR m p vs_p) (h_r : RwR m r vs_r) (hbo : opsN p.effects ≤ 1000000000) (hbc : consN p.datas ≤ 1000000000) (hbd : p.datas.length ≤ 1000000000) (hB : bulkM p.body ≤ 2100000) : FnV Try.prog 6 #[.agg vs_p.toArray, .int .i64 n, S s, .agg vs_r.toArray] w m (fun _ _ v => v = .bool true) := by
  obtain ⟨oE_p, cE_p, oD_p, cD_p, bs_p, rfl, hef_p, hda_p, hpb_p⟩ := id h_p
  have hbe_p := hef_p.big; have hce_p := hef_p.cap; have hbda_p := hda_p.big; have hcd_p := hda_p.cap
  obtain ⟨⟨oK_pb, cK_pb, oA_pb, cA_pb, oR_pb, cR_pb, t0_pb, t1_pb, t2_pb, t3_pb, t4_pb, t5_pb, u0_pb, u1_pb, u2_pb, u3_pb, u4_pb, u5_pb⟩, rfl, hon_pb, hkk_pb, haa_pb, hrr_pb⟩ := hpb_p.open_
  dsimp only at hkk_pb haa_pb hrr_pb
  have hbg_pb := hkk_pb.big; have hcp_pb := hkk_pb.cap; have hbh_pb := haa_pb.big; have hcq_pb := haa_pb.cap
  obtain ⟨o_r, c_r, rfl, hs_r, hr_r⟩ := h_r.open_
  have hbs_r := hs_r.big; have hcs_r := hs_r.cap
  refine fn_enter (vs := [_, _, _, _]) Try.func6 rfl rfl rfl fun a0 hfr0 => ?_
  have hst0 := st_enter hA (loc_nil [] _ w m)
  have hM : MLe m m := MLe.refl m
  have emin : (if (20 : Int) < (r.labels.length : Int) then (20 : Int) else (r.labels.length : Int)) = ((min r.labels.length 20 : Nat) : Int) := by split <;> omega
  refine seq_any fun _ hK1 => ?_
  replace hst0 := hst0.more (r := .free) trivial List.nodup_nil (by simp [Res.blocks])
  refine ra0 (tch := [(1, 0, (fun v => .blk v _))]) hst0 hfr0 (.cons rfl (ob_box rfl rfl) <| .consT rfl rfl (fun _ => rfl) rfl (ob_boxL rfl rfl) <| .cons rfl (ob_assign rfl) <| .nil) ?_
  intro a1 w1 m1 hst1 hle1 hk1
  have hfr1 := hk1.fr (T' := [(1, _), (2, _)]) (.old rfl rfl <| .old rfl rfl <| .nil)
  obtain ⟨g2, e2, hc4⟩ := hk1.ex 4 rfl
  replace hfr1 := hfr1.cons e2
  obtain ⟨g3, e3, _⟩ := hk1.ex 7 rfl
  replace hfr1 := hfr1.cons e3
  replace hst1 := hst1.fin (L' := [_]) (.cons e3 <| .nil)
  replace h_p := h_p.mono hle1
  replace hs_r := hs_r.mono hle1
  clear hst0 hfr0 hk1
  refine hK1 _ _ ?_; clear hK1
  refine seq_any fun _ hK4 => ?_
  refine rp0 hst1 hfr1 (.cons rfl (ob_callE rfl (.nil) Try.call8 (fun w m hK => by have hle_ := KC.le hK; have hA := KC.agree hK; exact shown_c hA)) <| .cons rfl (ob_assign rfl) <| .nil) ?_
  intro a2 w2 m2 hst2 hle2 hk2
  have hfr2 := hk2.fr (T' := [(1, _), (2, _), (4, _), (7, _), (9, _)]) (.old rfl rfl <| .old rfl rfl <| .old rfl rfl <| .old rfl rfl <| .new rfl <| .nil)
  replace h_p := h_p.mono hle2
  replace hs_r := hs_r.mono hle2
  replace hc4 := hc4.mono hle2
  clear hst1 hfr1 hk2
  refine hK4 _ _ ?_; clear hK4
  refine seq_any fun _ hK5 => ?_
  replace hst2 := hst2.more (r := .free) trivial List.nodup_nil (by simp [Res.blocks])
  refine ra0 (tch := [(6, 1, (fun v => .blk v _)), (7, 1, (fun v => .blkx v _ _))]) hst2 hfr2 (.cons rfl (ob_loadS' rfl hc4 Try.isAgg35 Try.sizeOf35 rfl rfl) <| .cons rfl (ob_move rfl) <| .cons rfl (ob_call (φ := MP.partB 2100000) rfl (.cons rfl <| .cons rfl <| .nil) Try.call9 (fun w m hK => by have hle_ := KC.le hK; have hA := KC.agree hK; have h_p := h_p.mono hle_; exact FnG.mono (part_c hA h_p hbo hbc hbd 2100000 hB (by omega)) fun _ _ _ _ h => h)) <| .cons rfl (ob_imgV 16 rfl rfl rfl fun y16 => ob_move rfl) <| .cons rfl (ob_imgV 13 rfl rfl rfl fun y13 => ob_extract rfl rfl) <| .cons rfl (ob_imgV 13 rfl rfl rfl fun y13 => ob_extract rfl rfl) <| .consT rfl rfl (fun _ => rfl) rfl (ob_allocL Try.zeroValue33 rfl) <| .consT rfl rfl (fun _ => rfl) rfl (ob_imgT 10 rfl rfl rfl fun y10 => ob_imgTX 17 rfl rfl rfl fun y17 => ob_storeKF rfl rfl rfl rfl rfl Try.sizeOf33 rfl rfl (fun w m hK => hK.2.1.one)) <| .consA 18 rfl rfl <| .nil) ?_
  intro a3 w3 m3 hst3 hle3 hk3
  have hfr3 := hk3.fr (T' := [(2, _), (7, _), (9, _)]) (.old rfl rfl <| .old rfl rfl <| .old rfl rfl <| .nil)
  obtain ⟨⟨⟨xbt, ybt⟩, qt⟩, e6, _⟩ := hk3.ex 18 rfl
  obtain ⟨g7, e7, _⟩ := hk3.ex 10 rfl
  replace hfr3 := hfr3.cons e7
  replace hfr3 := hfr3.cons (hk3.same 11 rfl e6)
  replace hst3 := hst3.fin (L' := [_, _]) (.cons e7 <| .cons e7 <| .nil)
  try simp only [List.take_succ_cons, List.take_zero, List.drop_succ_cons, List.drop_zero, List.cons_append, List.nil_append, List.append_nil, List.length_cons, List.length_nil, Nat.zero_add, Nat.reduceAdd] at hst3
  obtain ⟨⟨⟨t, yt⟩, bt⟩, ⟨ht, hst, hct, hbt, hrt⟩, hst3⟩ := hst3.unx (k := 1) rfl (fun _ => rfl)
  replace hs_r := hs_r.mono hle3
  clear hst2 hfr2 hk3
  dsimp only at ht hst hct hbt hrt
  refine hK5 _ _ ?_; clear hK5
  refine seq_any fun _ hK9 => ?_
  refine seq_any fun _ hK10 => ?_
  refine rp0 hst3 hfr3 (.cons rfl (ob_move rfl) <| .cons rfl (ob_not rfl) <| .nil) ?_
  intro a4 w4 m4 hst4 hle4 hk4
  have hfr4 := hk4.fr (T' := [(2, _), (7, _), (9, _), (10, _), (20, _)]) (.old rfl rfl <| .old rfl rfl <| .old rfl rfl <| .old rfl rfl <| .new rfl <| .nil)
  replace hs_r := hs_r.mono hle4
  replace ht := ht.mono hle4
  clear hst3 hfr3 hk4
  refine hK10 _ _ ?_; clear hK10
  refine cond_any hfr4 rfl rfl (fun hb20 => ?_) (fun hb20 => ?_)
  · try simp only [nq1, nq2, nq3, nq4, nq5, nq6, nq7, nq8, nq9, u8_eq] at hb20
    refine seq_any fun _ hK11 => ?_
    refine rp0 hst4 hfr4 (.cons rfl (ob_move rfl) <| .cons rfl (ob_assign rfl) <| .nil) ?_
    intro a5 w5 m5 hst5 hle5 hk5
    have hfr5 := hk5.fr (T' := [(8, _)]) (.new rfl <| .nil)
    clear hst4 hfr4 hk5
    refine hK11 _ _ ?_; clear hK11
    refine wp_ret ?_
    repeat (with_reducible first | refine then_ret ?_ | refine block_ret ?_)
    exact fn_ret hst5 hfr5 rfl (.tmp rfl <| .nil) (rfl)
  · try simp only [nq1, nq2, nq3, nq4, nq5, nq6, nq7, nq8, nq9, u8_eq] at hb20
    refine wp_skip ?_
    refine hK9 _ _ ?_; clear hK9
    refine seq_any fun _ hK13 => ?_
    refine ra0 (tch := [(8, 0, (fun _ => .blk _ _))]) hst4 hfr4 (.cons rfl (ob_fieldAddrO (off := 0) rfl Try.underlying29 rfl rfl Try.sizeOf27 rfl) <| .cons rfl (ob_loadL (j := 0) rfl rfl Try.isAgg27 rfl) <| .cons rfl (ob_fieldAddrO (off := 0) rfl Try.underlying29 rfl rfl Try.sizeOf27 rfl) <| .cons rfl (ob_loadL (j := 0) rfl rfl Try.isAgg27 rfl) <| .cons rfl (ob_len rfl Try.underlying27) <| .cons rfl (ob_min2 rfl rfl) <| .cons rfl (ob_slice rfl .none (.some rfl emin) Try.underlying27 Try.sizeOf9 (by omega) (by omega)) <| .cons rfl (ob_fieldAddrO (off := 0) rfl Try.underlying29 rfl rfl Try.sizeOf27 rfl) <| .consT rfl rfl (fun _ => rfl) rfl (ob_store rfl rfl rfl Try.sizeOf27 rfl rfl rfl) <| .nil) ?_
    intro a5 w5 m5 hst5 hle5 hk5
    have hfr5 := hk5.fr (T' := [(2, _), (7, _), (9, _), (10, _)]) (.old rfl rfl <| .old rfl rfl <| .old rfl rfl <| .old rfl rfl <| .nil)
    replace hst5 := hst5.fin (L' := [_, _]) (.cons rfl <| .nil)
    try simp only [List.take_succ_cons, List.take_zero, List.drop_succ_cons, List.drop_zero, List.cons_append, List.nil_append, List.append_nil, List.length_cons, List.length_nil, Nat.zero_add, Nat.reduceAdd] at hst5
    replace hs_r := hs_r.mono hle5
    replace ht := ht.mono hle5
    clear hst4 hfr4 hk5
    have hcut : Strs _ _ _ _ _ := hs_r.cut (l := 0) (k := min r.labels.length 20) (Nat.zero_le _) (Nat.min_le_left _ _)
    have hlk : min r.labels.length 20 - 0 = ((r.labels.take (min r.labels.length 20)).drop 0).length := by simp
    generalize (r.labels.take (min r.labels.length 20)).drop 0 = ls at hlk hcut
    rw [hlk] at hcut hst5
    generalize (if c_r = 0 then o_r else o_r.map (·.add (0 * 1))) = oq at hcut hst5
    generalize c_r - 0 = cq at hcut hst5
    have hrw2 : RwR _ ⟨ls, r.var⟩ _ := ⟨_, _, rfl, hcut, hr_r⟩
    refine hK13 _ _ ?_; clear hK13
    refine seq_any fun _ hK14 => ?_
    obtain ⟨oK9, cK9, oA9, cA9, oR9, cR9, t09, t19, t29, t39, t49, t59, u09, u19, u29, u39, u49, u59⟩ := yt
    obtain ⟨hon9, hkk9, haa9, hrr9⟩ := ht.openY
    dsimp only at hkk9 haa9 hrr9
    have hcr := count_row t ⟨ls, r.var⟩
    refine ra0 (tch := [(2, 1, (fun _ => .blk _ _))]) hst5 hfr5 (.cons rfl (ob_loadLA (j := 0) rfl rfl Try.isAgg29 Try.sizeOf29 rfl) <| .cons rfl (ob_fieldAddrO (off := 13) rfl Try.underlying33 rfl rfl Try.sizeOf29 rfl) <| .consT rfl rfl (fun _ => rfl) rfl (ob_store rfl rfl rfl Try.sizeOf29 rfl rfl rfl) <| .nil) ?_
    intro a6 w6 m6 hst6 hle6 hk6
    have hfr6 := hk6.fr (T' := [(2, _), (9, _), (10, _)]) (.old rfl rfl <| .old rfl rfl <| .old rfl rfl <| .nil)
    replace hst6 := hst6.fin (L' := [_, _]) (.cons rfl <| .nil)
    try simp only [List.take_succ_cons, List.take_zero, List.drop_succ_cons, List.drop_zero, List.cons_append, List.nil_append, List.append_nil, List.length_cons, List.length_nil, Nat.zero_add, Nat.reduceAdd] at hst6
    replace hrw2 := hrw2.mono hle6
    replace hkk9 := hkk9.mono hle6
    replace haa9 := haa9.mono hle6
    clear hst5 hfr5 hk6
    have hnew : TmR m6 (⟨t.kind, t.at_, t.name, t.param, t.n, t.kids, t.arms, ⟨ls, r.var⟩⟩ : Tm) (tmV (⟨t.kind, t.at_, t.name, t.param, t.n, t.kids, t.arms, ⟨ls, r.var⟩⟩ : Tm) ⟨oK9, cK9, oA9, cA9, oq, cq, t09, t19, t29, t39, t49, t59, u09, u19, u29, u39, u49, u59⟩) := TmR.build hon9 hkk9 haa9 hrw2
    refine hK14 _ _ ?_; clear hK14
    refine seq_any fun _ hK15 => ?_
    refine region_plain (fun _ => mixed) hst6 hfr6 (by kernel_rfl) (by kernel_rfl) (.cons rfl (ob_move rfl) <| .cons rfl (ob_move rfl) <| .cons rfl (ob_loadLA (j := 1) rfl rfl Try.isAgg33 Try.sizeOf33 rfl) <| .cons rfl (ob_call (φ := MP.strs (freeT ((⟨t.kind, t.at_, t.name, t.param, t.n, t.kids, t.arms, ⟨ls, r.var⟩⟩ : Tm)))) rfl (.cons rfl <| .nil) Try.call16 (fun w m hK => by have hle_ := KC.le hK; have hA := KC.agree hK; have hnew := hnew.mono hle_; exact FnG.mono (freeF_c (t := (⟨t.kind, t.at_, t.name, t.param, t.n, t.kids, t.arms, ⟨ls, r.var⟩⟩ : Tm)) hA hnew (hst.row _) (by omega)) fun _ _ _ _ h => h)) <| .cons rfl (ob_loadLA (j := 1) rfl rfl Try.isAgg33 Try.sizeOf33 rfl) <| .cons rfl (ob_call (φ := MP.strs (freeT (⟨t.kind, t.at_, t.name, t.param, t.n, t.kids, t.arms, ⟨ls, r.var⟩⟩ : Tm))) rfl (.cons rfl <| .nil) Try.call19 (fun w m hK => by have hle_ := KC.le hK; have hA := KC.agree hK; have hnew := hnew.mono hle_; exact FnG.mono (free_c (t := (⟨t.kind, t.at_, t.name, t.param, t.n, t.kids, t.arms, ⟨ls, r.var⟩⟩ : Tm)) hA hnew (by omega)) fun _ _ _ _ h => h)) <| .cons rfl (ob_imgE 35 rfl rfl rfl fun y35 => ob_imgE 37 rfl rfl rfl fun y37 => ob_callE rfl (.cons rfl <| .cons rfl <| .nil) Try.call18 (fun w m hK => by have hle_ := KC.le hK; have hA := KC.agree hK; have hr0_ := hK.2; have hr1_ := hK.1.2; exact sameNames_c (pl := freeT (⟨t.kind, t.at_, t.name, t.param, t.n, t.kids, t.arms, ⟨ls, r.var⟩⟩ : Tm)) (ql := freeT (⟨t.kind, t.at_, t.name, t.param, t.n, t.kids, t.arms, ⟨ls, r.var⟩⟩ : Tm)) hA hr1_ hr0_)) <| .cons rfl (ob_and rfl rfl rfl) <| .cons rfl (ob_move rfl) <| .cons rfl (ob_loadLA (j := 1) rfl rfl Try.isAgg33 Try.sizeOf33 rfl) <| .cons rfl (ob_move rfl) <| .cons rfl (ob_callE rfl (.cons rfl <| .cons rfl <| .nil) Try.call17 (fun w m hK => by have hle_ := KC.le hK; have hA := KC.agree hK; have hnew := hnew.mono hle_; exact usesP_c (t := (⟨t.kind, t.at_, t.name, t.param, t.n, t.kids, t.arms, ⟨ls, r.var⟩⟩ : Tm)) (s := s) hA hnew (hst.row _) (by omega))) <| .cons rfl (ob_loadLA (j := 1) rfl rfl Try.isAgg33 Try.sizeOf33 rfl) <| .cons rfl (ob_move rfl) <| .cons rfl (ob_callE rfl (.cons rfl <| .cons rfl <| .nil) Try.call20 (fun w m hK => by have hle_ := KC.le hK; have hA := KC.agree hK; have hnew := hnew.mono hle_; exact uses_c (⟨t.kind, t.at_, t.name, t.param, t.n, t.kids, t.arms, ⟨ls, r.var⟩⟩ : Tm) hA hnew (by omega))) <| .cons rfl (ob_eql rfl rfl) <| .cons rfl (ob_and rfl rfl rfl) <| .cons rfl (ob_move rfl) <| .cons rfl (ob_loadLA (j := 1) rfl rfl Try.isAgg33 Try.sizeOf33 rfl) <| .cons rfl (ob_callE rfl (.cons rfl <| .nil) Try.call21 (fun w m hK => by have hle_ := KC.le hK; have hA := KC.agree hK; have hnew := hnew.mono hle_; exact value_c (⟨t.kind, t.at_, t.name, t.param, t.n, t.kids, t.arms, ⟨ls, r.var⟩⟩ : Tm) hA hnew)) <| .cons rfl (ob_loadLA (j := 1) rfl rfl Try.isAgg33 Try.sizeOf33 rfl) <| .cons rfl (ob_callE rfl (.cons rfl <| .nil) Try.call22 (fun w m hK => by have hle_ := KC.le hK; have hA := KC.agree hK; have hnew := hnew.mono hle_; exact value6_c (⟨t.kind, t.at_, t.name, t.param, t.n, t.kids, t.arms, ⟨ls, r.var⟩⟩ : Tm) hA hnew)) <| .cons rfl (ob_beql rfl rfl Try.underlying4) <| .cons rfl (ob_and rfl rfl rfl) <| .cons rfl (ob_move rfl) <| .cons rfl (ob_loadLA (j := 1) rfl rfl Try.isAgg33 Try.sizeOf33 rfl) <| .cons rfl (ob_callE rfl (.cons rfl <| .nil) Try.call23 (fun w m hK => by have hle_ := KC.le hK; have hA := KC.agree hK; have hnew := hnew.mono hle_; exact plain_c (⟨t.kind, t.at_, t.name, t.param, t.n, t.kids, t.arms, ⟨ls, r.var⟩⟩ : Tm) hA hnew (by omega))) <| .cons rfl (ob_loadLA (j := 1) rfl rfl Try.isAgg33 Try.sizeOf33 rfl) <| .cons rfl (ob_callE rfl (.cons rfl <| .nil) Try.call24 (fun w m hK => by have hle_ := KC.le hK; have hA := KC.agree hK; have hnew := hnew.mono hle_; exact plain6_c (⟨t.kind, t.at_, t.name, t.param, t.n, t.kids, t.arms, ⟨ls, r.var⟩⟩ : Tm) hA hnew)) <| .cons rfl (ob_beql rfl rfl Try.underlying4) <| .cons rfl (ob_and rfl rfl rfl) <| .cons rfl (ob_move rfl) <| .cons rfl (ob_loadLA (j := 1) rfl rfl Try.isAgg33 Try.sizeOf33 rfl) <| .cons rfl (ob_callE rfl (.cons rfl <| .nil) Try.call25 (fun w m hK => by have hle_ := KC.le hK; have hA := KC.agree hK; have hnew := hnew.mono hle_; exact quiet_c (t := (⟨t.kind, t.at_, t.name, t.param, t.n, t.kids, t.arms, ⟨ls, r.var⟩⟩ : Tm)) hA hnew (by omega))) <| .cons rfl (ob_loadLA (j := 1) rfl rfl Try.isAgg33 Try.sizeOf33 rfl) <| .cons rfl (ob_callE rfl (.cons rfl <| .nil) Try.call26 (fun w m hK => by have hle_ := KC.le hK; have hA := KC.agree hK; have hnew := hnew.mono hle_; exact quiet6_c (t := (⟨t.kind, t.at_, t.name, t.param, t.n, t.kids, t.arms, ⟨ls, r.var⟩⟩ : Tm)) hA hnew)) <| .cons rfl (ob_beql rfl rfl Try.underlying4) <| .cons rfl (ob_and rfl rfl rfl) <| .cons rfl (ob_assign rfl) <| .nil) ?_
    intro a7 w7 m7 hst7 hle7 hk7
    have hfr7 := hk7.fr (T' := [(8, _)]) (.new rfl <| .nil)
    clear hst6 hfr6 hk7
    refine hK15 _ _ ?_; clear hK15
    refine wp_ret ?_
    repeat (with_reducible first | refine then_ret ?_ | refine block_ret ?_)
    exact fn_ret hst7 hfr7 rfl (.tmp rfl <| .nil) (by refine congrArg Value.bool ?_; simp)

end Go.Proofs.Ytppmbhjacjmfkaa
