/-
  A law of chapter 13, walked. Conditions: those of the theorem.
-/
import Derived.Test.YtppmbhjacjmfkaaShown3
namespace Go.Proofs.Ytppmbhjacjmfkaa
set_option linter.all false
set_option maxRecDepth 4000
open Go.RowKit
theorem flag_ok {q : Bool} (h : (!q) = false) : q = true := by cases q; cases h; rfl
theorem kids_none {t : Tm} (h : RtT t) (hk : t.kind = 1 ∨ t.kind = 2 ∨ t.kind = 3 ∨ t.kind = 4) : t.kids = [] ∧ t.arms = [] := by
  obtain ⟨h1, h2⟩ := h.here
  refine ⟨?_, h2 (by omega) (by omega)⟩
  have : kidsM t.kind = 0 := by unfold kidsM; rw [if_pos (by omega)]
  rw [this] at h1
  exact List.eq_nil_of_length_eq_zero (by omega)
theorem value_plain {t : Tm} : RtT t → valueT t = true → plainT t = true := by
  induction t using Tm.rec_ with
  | h t ihk iha =>
    intro hr hv
    rw [valueT_eq] at hv
    rw [plainT_eq]
    simp only [Bool.or_eq_true, Bool.and_eq_true, decide_eq_true_eq] at hv
    rcases hv with hv | ⟨hv, hk⟩
    · by_cases h5 : t.kind = 5
      · rw [if_neg (by omega), if_pos h5]
      · obtain ⟨h1, h2⟩ := kids_none hr (by omega)
        rw [if_neg (by omega), if_neg h5, h1, h2]; rfl
    · rw [if_neg (by omega), if_neg (by omega), hr.here.2 (by omega) (by omega), decide_eq_false (by omega), plainKs_all]
      rw [valueKs_all, List.all_eq_true] at hk
      have : t.kids.all plainT = true := List.all_eq_true.2 fun u hu => ihk u hu (hr.kid hu) (hk u hu)
      rw [this]; rfl
theorem ShT.row {t : Tm} (h : ShT t) (r : Rw) : ShT ⟨t.kind, t.at_, t.name, t.param, t.n, t.kids, t.arms, r⟩ := .mk h.here (fun u hu => h.kid hu) (fun a ha => h.arm ha)
theorem count_row (t : Tm) (r : Rw) : countM ⟨t.kind, t.at_, t.name, t.param, t.n, t.kids, t.arms, r⟩ = countM t := by rw [countM_eq, countM_eq t]; rfl
theorem parts_law {s x : Str} (hx : x ≠ uS) (t u : Tm) : (true && ((decide (s ∈ freeT (callT t u))) == (decide (s ∈ freeT t) || decide (s ∈ freeT u))) && ((decide (s ∈ freeT (letT x t u))) == (decide (s ∈ freeT t) || (decide (s ∈ freeT u) && !decide (s = x)))) &&
    decide ((usesM s (callT t u) : Int) = (usesM s t : Int) + (usesM s u : Int))) = true := by
  have e1 := uses_call s t u
  have e2 : usesM s (letT x t u) = usesM s t + if s = x then 0 else usesM s u := by
    rw [uses_let]
    by_cases h : s = x
    · rw [if_pos h, if_neg (fun h2 => h2.elim (fun h2 => hx (h.symm.trans h2)) (fun h2 => h2 h))]
    · rw [if_neg h, if_pos (.inr h)]
  simp only [mem_free, e1, e2]
  generalize usesM s t = a; generalize usesM s u = b
  by_cases h3 : s = x
  · rw [if_pos h3]; cases a <;> cases b <;> simp [h3] <;> omega
  · rw [if_neg h3]; cases a <;> cases b <;> simp [h3] <;> omega
theorem plain_law (t u : Tm) (h : valueT t = true → plainT t = true) : (true && (!valueT t || plainT t) && valueT (funT [120] t) && plainT (funT [120] t) && !valueT (callT t u) && !plainT (callT t u) && (plainT (letT [120] t u) == (plainT t && plainT u)) && (!plainT t || quietT t)) = true := by
  have e1 : valueT (funT [120] t) = true := rfl
  have e2 : plainT (funT [120] t) = true := by rw [plainT_eq]; rfl
  have e3 : valueT (callT t u) = false := rfl
  have e4 : plainT (callT t u) = false := by rw [plainT_eq]; rfl
  have e5 : plainT (letT [120] t u) = (plainT t && plainT u) := by rw [plainT_eq]; show ((plainT t && (plainT u && true)) && true) = _; simp
  rw [e1, e2, e3, e4, e5]
  unfold quietT
  cases hv : valueT t <;> cases hp : plainT t <;> simp_all
theorem fill_ar {r : Option (List Value)} {a b x y : Value} {z vs : List Value} (h : r = some (putL (putL (putL (a :: b :: z) 0 [x]) 1 [y]) 2 vs)) (hl : vs.length = z.length) : r = some (x :: y :: vs) := by
  rw [h, putL_ar3 rfl rfl hl]; rfl
theorem tmV_inj {t : Tm} {y z : TmY} (h : tmV t y = tmV t z) : y = z := by
  obtain ⟨a1, a2, a3, a4, a5, a6, b0, b1, b2, b3, b4, b5, c0, c1, c2, c3, c4, c5⟩ := y
  obtain ⟨d1, d2, d3, d4, d5, d6, e0, e1, e2, e3, e4, e5, f0, f1, f2, f3, f4, f5⟩ := z
  simp only [tmV, List.cons.injEq, Value.slice.injEq, true_and, and_true] at h
  obtain ⟨⟨rfl, rfl⟩, ⟨rfl, rfl⟩, rfl, rfl, rfl, rfl, rfl, rfl, ⟨rfl, rfl⟩, rfl, rfl, rfl, rfl, rfl, rfl⟩ := h
  rfl
theorem TmR.openY {m : Mem} {t : Tm} {y : TmY} (h : TmR m t (tmV t y)) : y.one ∧ Tms m y.o1 t.kids.length y.c1 t.kids ∧ Ars m y.o2 t.arms.length y.c2 t.arms ∧ RwR m t.row [.slice y.o3 t.row.labels.length y.c3, .int .i64 t.row.var] := by
  obtain ⟨z, e, h1⟩ := h.open_
  have := tmV_inj e
  subst this; exact h1
theorem beq_dec {a b : Bool} (h : a = b) : (a == b) = true := by rw [h]; exact BEq.rfl
set_option maxHeartbeats 1600000 in
theorem namesLast_c {w : World} {m : Mem} {p : Pg} {vs_p : List Value} {n : Int} {o_vars : Option Addr} {c_vars : Nat} {vars : List Str} {s : Str} {bare : Bool} (hA : Agree w m) (h_p : PgR m p vs_p) (h_vars : Strs m o_vars vars.length c_vars vars) (hbo : opsN p.effects ≤ 1000000000) (hbc : consN p.datas ≤ 1000000000) (hbd : p.datas.length ≤ 1000000000) (hB : bulkM p.body ≤ 2100000) : FnV Try.prog 3 #[.agg vs_p.toArray, .int .i64 n, .slice o_vars vars.length c_vars, S s, .bool bare] w m (fun _ _ v => v = .bool true) := by
  obtain ⟨oE_p, cE_p, oD_p, cD_p, bs_p, rfl, hef_p, hda_p, hpb_p⟩ := id h_p
  have hbe_p := hef_p.big; have hce_p := hef_p.cap; have hbda_p := hda_p.big; have hcd_p := hda_p.cap
  obtain ⟨⟨oK_pb, cK_pb, oA_pb, cA_pb, oR_pb, cR_pb, t0_pb, t1_pb, t2_pb, t3_pb, t4_pb, t5_pb, u0_pb, u1_pb, u2_pb, u3_pb, u4_pb, u5_pb⟩, rfl, hon_pb, hkk_pb, haa_pb, hrr_pb⟩ := hpb_p.open_
  dsimp only at hkk_pb haa_pb hrr_pb
  have hbg_pb := hkk_pb.big; have hcp_pb := hkk_pb.cap; have hbh_pb := haa_pb.big; have hcq_pb := haa_pb.cap
  have hb_vars := h_vars.big; have hc_vars := h_vars.cap
  refine fn_enter (vs := [_, _, _, _, _]) Try.func3 rfl rfl rfl fun a0 hfr0 => ?_
  have hst0 := st_enter hA (loc_nil [] _ w m)
  have hM : MLe m m := MLe.refl m
  have emin : (if (4 : Int) < (vars.length : Int) then (4 : Int) else (vars.length : Int)) = ((min vars.length 4 : Nat) : Int) := by split <;> omega
  refine seq_any fun _ hK1 => ?_
  refine rp0 hst0 hfr0 (.cons rfl (ob_box rfl rfl) <| .cons rfl (ob_assign rfl) <| .nil) ?_
  intro a1 w1 m1 hst1 hle1 hk1
  have hfr1 := hk1.fr (T' := [(1, _), (2, _), (3, _), (4, _)]) (.old rfl rfl <| .old rfl rfl <| .old rfl rfl <| .old rfl rfl <| .nil)
  obtain ⟨g2, e2, hc5⟩ := hk1.ex 5 rfl
  replace hfr1 := hfr1.cons e2
  replace h_p := h_p.mono hle1
  replace h_vars := h_vars.mono hle1
  clear hst0 hfr0 hk1
  refine hK1 _ _ ?_; clear hK1
  refine seq_any fun _ hK3 => ?_
  refine rp0 hst1 hfr1 (.cons rfl (ob_callE rfl (.nil) Try.call8 (fun w m hK => by have hle_ := KC.le hK; have hA := KC.agree hK; exact shown_c hA)) <| .cons rfl (ob_assign rfl) <| .nil) ?_
  intro a2 w2 m2 hst2 hle2 hk2
  have hfr2 := hk2.fr (T' := [(1, _), (2, _), (3, _), (4, _), (5, _), (11, _)]) (.old rfl rfl <| .old rfl rfl <| .old rfl rfl <| .old rfl rfl <| .old rfl rfl <| .new rfl <| .nil)
  replace h_p := h_p.mono hle2
  replace h_vars := h_vars.mono hle2
  replace hc5 := hc5.mono hle2
  clear hst1 hfr1 hk2
  refine hK3 _ _ ?_; clear hK3
  refine seq_any fun _ hK4 => ?_
  replace hst2 := hst2.more (r := .free) trivial List.nodup_nil (by simp [Res.blocks])
  refine ra0 (tch := [(6, 0, (fun v => .blk v _)), (7, 0, (fun v => .blkx v _ _))]) hst2 hfr2 (.cons rfl (ob_loadS' rfl hc5 Try.isAgg35 Try.sizeOf35 rfl rfl) <| .cons rfl (ob_move rfl) <| .cons rfl (ob_call (φ := MP.partB 2100000) rfl (.cons rfl <| .cons rfl <| .nil) Try.call9 (fun w m hK => by have hle_ := KC.le hK; have hA := KC.agree hK; have h_p := h_p.mono hle_; exact FnG.mono (part_c hA h_p hbo hbc hbd 2100000 hB (by omega)) fun _ _ _ _ h => h)) <| .cons rfl (ob_imgV 23 rfl rfl rfl fun y23 => ob_move rfl) <| .cons rfl (ob_imgV 20 rfl rfl rfl fun y20 => ob_extract rfl rfl) <| .cons rfl (ob_imgV 20 rfl rfl rfl fun y20 => ob_extract rfl rfl) <| .consT rfl rfl (fun _ => rfl) rfl (ob_allocL Try.zeroValue33 rfl) <| .consT rfl rfl (fun _ => rfl) rfl (ob_imgT 12 rfl rfl rfl fun y12 => ob_imgTX 24 rfl rfl rfl fun y24 => ob_storeKF rfl rfl rfl rfl rfl Try.sizeOf33 rfl rfl (fun w m hK => hK.2.1.one)) <| .consA 25 rfl rfl <| .nil) ?_
  intro a3 w3 m3 hst3 hle3 hk3
  have hfr3 := hk3.fr (T' := [(2, _), (3, _), (4, _), (11, _)]) (.old rfl rfl <| .old rfl rfl <| .old rfl rfl <| .old rfl rfl <| .nil)
  obtain ⟨⟨⟨xbt, ybt⟩, qt⟩, e5, _⟩ := hk3.ex 25 rfl
  obtain ⟨g6, e6, _⟩ := hk3.ex 12 rfl
  replace hfr3 := hfr3.cons e6
  replace hfr3 := hfr3.cons (hk3.same 13 rfl e5)
  replace hst3 := hst3.fin (L' := [_]) (.cons e6 <| .cons e6 <| .nil)
  try simp only [List.take_succ_cons, List.take_zero, List.drop_succ_cons, List.drop_zero, List.cons_append, List.nil_append, List.append_nil, List.length_cons, List.length_nil, Nat.zero_add, Nat.reduceAdd] at hst3
  obtain ⟨⟨⟨t, yt⟩, bt⟩, ⟨ht, hst, hct, hbt, hrt⟩, hst3⟩ := hst3.unx (k := 0) rfl (fun _ => rfl)
  replace h_vars := h_vars.mono hle3
  clear hst2 hfr2 hk3
  dsimp only at ht hst hct hbt hrt
  refine hK4 _ _ ?_; clear hK4
  refine seq_any fun _ hK8 => ?_
  refine seq_any fun _ hK9 => ?_
  refine rp0 hst3 hfr3 (.cons rfl (ob_move rfl) <| .cons rfl (ob_not rfl) <| .nil) ?_
  intro a4 w4 m4 hst4 hle4 hk4
  have hfr4 := hk4.fr (T' := [(2, _), (3, _), (4, _), (11, _), (12, _), (27, _)]) (.old rfl rfl <| .old rfl rfl <| .old rfl rfl <| .old rfl rfl <| .old rfl rfl <| .new rfl <| .nil)
  replace h_vars := h_vars.mono hle4
  replace ht := ht.mono hle4
  clear hst3 hfr3 hk4
  refine hK9 _ _ ?_; clear hK9
  refine cond_any hfr4 rfl rfl (fun hb27 => ?_) (fun hb27 => ?_)
  · try simp only [nq1, nq2, nq3, nq4, nq5, nq6, nq7, nq8, nq9, u8_eq] at hb27
    refine seq_any fun _ hK10 => ?_
    refine rp0 hst4 hfr4 (.cons rfl (ob_move rfl) <| .cons rfl (ob_assign rfl) <| .nil) ?_
    intro a5 w5 m5 hst5 hle5 hk5
    have hfr5 := hk5.fr (T' := [(10, _)]) (.new rfl <| .nil)
    clear hst4 hfr4 hk5
    refine hK10 _ _ ?_; clear hK10
    refine wp_ret ?_
    repeat (with_reducible first | refine then_ret ?_ | refine block_ret ?_)
    exact fn_ret hst5 hfr5 rfl (.tmp rfl <| .nil) (rfl)
  · try simp only [nq1, nq2, nq3, nq4, nq5, nq6, nq7, nq8, nq9, u8_eq] at hb27
    have hcc := count_call (varT s) t; have hcv : countM (varT s) = 1 := rfl
    refine wp_skip ?_
    refine hK8 _ _ ?_; clear hK8
    refine seq_any fun _ hK12 => ?_
    replace hst4 := hst4.more (r := .free) trivial List.nodup_nil (by simp [Res.blocks])
    refine region_any (tch := [(7, 1, (fun v => .blk v _)), (8, 1, (fun v => .blk v _))]) (fun _ => mixed) hst4 hfr4 (by kernel_rfl) (by kernel_rfl) (by kernel_rfl) (.cons rfl (ob_move rfl) <| .cons rfl (ob_move rfl) <| .cons rfl (ob_len rfl Try.underlying27) <| .cons rfl (ob_min2 rfl rfl) <| .cons rfl (ob_slice rfl .none (.some rfl emin) Try.underlying27 Try.sizeOf9 (by omega) (by omega)) <| .cons rfl (ob_loadLA (j := 0) rfl rfl Try.isAgg33 Try.sizeOf33 rfl) <| .cons rfl (ob_buildS (cs := S [111, 112] :: .slice _ _ _ :: tmV t yt) (.cons rfl <| .cons rfl <| .cons rfl <| .nil) Try.underlying40 Try.zeroValue40 (.cons Try.sizeOf9 <| .cons Try.sizeOf27 <| .cons Try.sizeOf33 <| .nil) (fill_ar rfl (by rfl))) <| .consT rfl rfl (fun _ => rfl) rfl (ob_allocL Try.zeroValue40 rfl) <| .consT rfl rfl (fun _ => rfl) rfl (ob_imgT 14 rfl rfl rfl fun y14 => ob_storeF rfl rfl rfl rfl rfl Try.sizeOf40 rfl rfl ht.one) <| .nil) ?_
    intro a5 w5 m5 hst5 hle5 hk5
    have hfr5 := hk5.fr (T' := [(3, _), (4, _), (11, _), (12, _)]) (.old rfl rfl <| .old rfl rfl <| .old rfl rfl <| .old rfl rfl <| .nil)
    obtain ⟨g13, e13, _⟩ := hk5.ex 14 rfl
    replace hfr5 := hfr5.cons e13
    replace hst5 := hst5.fin (L' := [_, _]) (.cons e13 <| .cons e13 <| .nil)
    try simp only [List.take_succ_cons, List.take_zero, List.drop_succ_cons, List.drop_zero, List.cons_append, List.nil_append, List.append_nil, List.length_cons, List.length_nil, Nat.zero_add, Nat.reduceAdd] at hst5
    replace h_vars := h_vars.mono hle5
    replace ht := ht.mono hle5
    clear hst4 hfr4 hk5
    have hcut : Strs _ _ _ _ _ := h_vars.cut (l := 0) (k := min vars.length 4) (Nat.zero_le _) (Nat.min_le_left _ _)
    have hlk : min vars.length 4 - 0 = ((vars.take (min vars.length 4)).drop 0).length := by simp
    generalize (vars.take (min vars.length 4)).drop 0 = ls at hlk hcut
    rw [hlk] at hcut hst5
    generalize (if c_vars = 0 then o_vars else o_vars.map (·.add (0 * 1))) = oq at hcut hst5
    generalize c_vars - 0 = cq at hcut hst5
    have har : ArR m5 ⟨[111, 112], ls, t⟩ (S [111, 112] :: .slice oq ls.length cq :: tmV t yt) := ⟨_, _, _, rfl, hcut, ht⟩
    refine hK12 _ _ ?_; clear hK12
    refine seq_any fun _ hK14 => ?_
    refine seq_any fun _ hK15 => ?_
    refine rp0 hst5 hfr5 (.cons rfl (ob_move rfl) <| .cons rfl (ob_not rfl) <| .nil) ?_
    intro a6 w6 m6 hst6 hle6 hk6
    have hfr6 := hk6.fr (T' := [(3, _), (11, _), (12, _), (14, _), (37, _)]) (.old rfl rfl <| .old rfl rfl <| .old rfl rfl <| .old rfl rfl <| .new rfl <| .nil)
    replace ht := ht.mono hle6
    replace hcut := hcut.mono hle6
    replace har := har.mono hle6
    clear hst5 hfr5 hk6
    refine hK15 _ _ ?_; clear hK15
    refine cond_any hfr6 rfl rfl (fun hb37 => ?_) (fun hb37 => ?_)
    · try simp only [nq1, nq2, nq3, nq4, nq5, nq6, nq7, nq8, nq9, u8_eq] at hb37
      refine region_any (tch := [(5, 1, (fun _ => .blkx _ _ _))]) (fun _ => mixed) hst6 hfr6 (by kernel_rfl) (by kernel_rfl) (by kernel_rfl) (.cons rfl (ob_move rfl) <| .cons rfl (ob_call (φ := MP.tm (varT s)) rfl (.cons rfl <| .nil) Try.call11 (fun w m hK => by have hle_ := KC.le hK; have hA := KC.agree hK; exact FnG.mono (v_c (s := s) hA) fun _ _ _ _ h => h)) <| .cons rfl (ob_loadLA (j := 0) rfl rfl Try.isAgg33 Try.sizeOf33 rfl) <| .cons rfl (ob_imgE 39 rfl rfl rfl fun y39 => ob_call (φ := MP.tm (callT (varT s) t)) rfl (.cons rfl <| .cons rfl <| .nil) Try.call10 (fun w m hK => by have hle_ := KC.le hK; have hA := KC.agree hK; have hr0_ := hK.2; have ht := ht.mono hle_; exact FnG.mono (call_c (f := varT s) (a := t) hA hr0_ ht) fun _ _ _ _ h => h)) <| .cons rfl (ob_fieldAddrO (off := 2) rfl Try.underlying40 rfl rfl Try.sizeOf33 rfl) <| .consT rfl rfl (fun _ => rfl) rfl (ob_imgTX 41 rfl rfl rfl fun y41 => ob_storeK rfl rfl rfl Try.sizeOf33 rfl rfl (fun w m hK => hK.2.one)) <| .nil) ?_
      intro a7 w7 m7 hst7 hle7 hk7
      have hfr7 := hk7.fr (T' := [(11, _), (14, _)]) (.old rfl rfl <| .old rfl rfl <| .nil)
      replace hst7 := hst7.fin (L' := [_, _]) (.cons rfl <| .nil)
      try simp only [List.take_succ_cons, List.take_zero, List.drop_succ_cons, List.drop_zero, List.cons_append, List.nil_append, List.append_nil, List.length_cons, List.length_nil, Nat.zero_add, Nat.reduceAdd] at hst7
      obtain ⟨yc, hcl9, hst7⟩ := hst7.unx (k := 1) rfl (fun _ => rfl)
      replace hcut := hcut.mono hle7
      clear hst6 hfr6 hk7
      have har3 : ArR m7 ⟨[111, 112], ls, (callT (varT s) t)⟩ (S [111, 112] :: .slice oq ls.length cq :: tmV (callT (varT s) t) yc) := ⟨_, _, _, rfl, hcut, hcl9⟩
      refine hK14 _ _ ?_; clear hK14
      refine seq_any fun _ hK17 => ?_
      replace hst7 := hst7.more (r := .free) trivial List.nodup_nil (by simp [Res.blocks])
      refine ra0 (tch := [(5, 2, (fun v => .blk v _)), (6, 2, (fun v => .blkx v _ _))]) hst7 hfr7 (.cons rfl (ob_loadLA (j := 1) rfl rfl Try.isAgg40 Try.sizeOf40 rfl) <| .cons rfl (ob_call (φ := MP.lastV (⟨[111, 112], ls, (callT (varT s) t)⟩ : Ar)) rfl (.cons rfl <| .nil) Try.call12 (fun w m hK => by have hle_ := KC.le hK; have hA := KC.agree hK; have har3 := har3.mono hle_; exact FnG.mono (last_c (a := (⟨[111, 112], ls, (callT (varT s) t)⟩ : Ar)) hA har3 (.call (.var _) hst) (by first | exact Nat.le_trans hct (by decide) | (show countM (callT (varT s) t) ≤ _; omega))) fun _ _ _ _ h => h)) <| .cons rfl (ob_imgV 45 rfl rfl rfl fun y45 => ob_move rfl) <| .cons rfl (ob_imgV 43 rfl rfl rfl fun y43 => ob_extract rfl rfl) <| .cons rfl (ob_imgV 43 rfl rfl rfl fun y43 => ob_extract rfl rfl) <| .consT rfl rfl (fun _ => rfl) rfl (ob_allocL Try.zeroValue33 rfl) <| .consT rfl rfl (fun _ => rfl) rfl (ob_imgT 15 rfl rfl rfl fun y15 => ob_imgTX 46 rfl rfl rfl fun y46 => ob_storeKF rfl rfl rfl rfl rfl Try.sizeOf33 rfl rfl (fun w m hK => hK.2.1.one)) <| .consA 47 rfl rfl <| .nil) ?_
      intro a8 w8 m8 hst8 hle8 hk8
      have hfr8 := hk8.fr (T' := [(11, _), (14, _)]) (.old rfl rfl <| .old rfl rfl <| .nil)
      obtain ⟨⟨⟨xb8, yb8⟩, q8⟩, e18, _, hq8⟩ := hk8.ex 47 rfl
      obtain ⟨g19, e19, _⟩ := hk8.ex 15 rfl
      replace hfr8 := hfr8.cons e19
      replace hfr8 := hfr8.cons (hk8.same 16 rfl e18)
      replace hst8 := hst8.fin (L' := [_, _, _]) (.cons e19 <| .cons e19 <| .nil)
      try simp only [List.take_succ_cons, List.take_zero, List.drop_succ_cons, List.drop_zero, List.cons_append, List.nil_append, List.append_nil, List.length_cons, List.length_nil, Nat.zero_add, Nat.reduceAdd] at hst8
      obtain ⟨⟨⟨x1, y1⟩, b1⟩, ⟨hx1, e1⟩, hst8⟩ := hst8.unx (k := 2) rfl (fun _ => rfl)
      replace har3 := har3.mono hle8
      clear hst7 hfr7 hk8
      refine hK17 _ _ ?_; clear hK17
      refine seq_any fun _ hK21 => ?_
      replace hst8 := hst8.more (r := .free) trivial List.nodup_nil (by simp [Res.blocks])
      refine ra0 (tch := [(5, 3, (fun v => .blk v _)), (6, 3, (fun v => .blkx v _ _))]) hst8 hfr8 (.cons rfl (ob_loadLA (j := 1) rfl rfl Try.isAgg40 Try.sizeOf40 rfl) <| .cons rfl (ob_call (φ := MP.lastV (⟨[111, 112], ls, (callT (varT s) t)⟩ : Ar)) rfl (.cons rfl <| .nil) Try.call13 (fun w m hK => by have hle_ := KC.le hK; have hA := KC.agree hK; have har3 := har3.mono hle_; exact FnG.mono (lastR_c (a := (⟨[111, 112], ls, (callT (varT s) t)⟩ : Ar)) hA har3 (by first | exact Nat.le_trans hct (by decide) | (show countM (callT (varT s) t) ≤ _; omega))) fun _ _ _ _ h => h)) <| .cons rfl (ob_imgV 50 rfl rfl rfl fun y50 => ob_move rfl) <| .cons rfl (ob_imgV 48 rfl rfl rfl fun y48 => ob_extract rfl rfl) <| .cons rfl (ob_imgV 48 rfl rfl rfl fun y48 => ob_extract rfl rfl) <| .consT rfl rfl (fun _ => rfl) rfl (ob_allocL Try.zeroValue33 rfl) <| .consT rfl rfl (fun _ => rfl) rfl (ob_imgT 17 rfl rfl rfl fun y17 => ob_imgTX 51 rfl rfl rfl fun y51 => ob_storeKF rfl rfl rfl rfl rfl Try.sizeOf33 rfl rfl (fun w m hK => hK.2.1.one)) <| .consA 52 rfl rfl <| .nil) ?_
      intro a9 w9 m9 hst9 hle9 hk9
      have hfr9 := hk9.fr (T' := [(11, _), (15, _), (16, _)]) (.old rfl rfl <| .old rfl rfl <| .old rfl rfl <| .nil)
      obtain ⟨⟨⟨xb9, yb9⟩, q9⟩, e22, _, hq9⟩ := hk9.ex 52 rfl
      obtain ⟨g23, e23, _⟩ := hk9.ex 17 rfl
      replace hfr9 := hfr9.cons e23
      replace hfr9 := hfr9.cons (hk9.same 18 rfl e22)
      replace hst9 := hst9.fin (L' := [_, _, _, _]) (.cons e23 <| .cons e23 <| .nil)
      try simp only [List.take_succ_cons, List.take_zero, List.drop_succ_cons, List.drop_zero, List.cons_append, List.nil_append, List.append_nil, List.length_cons, List.length_nil, Nat.zero_add, Nat.reduceAdd] at hst9
      obtain ⟨⟨⟨x2, y2⟩, b2⟩, ⟨hx2, e2⟩, hst9⟩ := hst9.unx (k := 3) rfl (fun _ => rfl)
      replace hx1 := hx1.mono hle9
      clear hst8 hfr8 hk9
      dsimp only at e1 e2 hq8 hq9 hx1 hx2
      have hxx : x2 = x1 := by have h9 := e2.trans e1.symm; injection h9
      subst hxx
      have hqq : q9 = q8 := by have h9 := hq9.trans hq8.symm; injection h9
      subst hqq
      refine hK21 _ _ ?_; clear hK21
      refine seq_any fun _ hK25 => ?_
      refine rp0 hst9 hfr9 (.cons rfl (ob_move rfl) <| .cons rfl (ob_move rfl) <| .cons rfl (ob_move rfl) <| .cons rfl (ob_move rfl) <| .cons rfl (ob_beql rfl rfl Try.underlying4) <| .cons rfl (ob_and rfl rfl rfl) <| .cons rfl (ob_move rfl) <| .cons rfl (ob_loadLA (j := 2) rfl rfl Try.isAgg33 Try.sizeOf33 rfl) <| .cons rfl (ob_loadLA (j := 3) rfl rfl Try.isAgg33 Try.sizeOf33 rfl) <| .cons rfl (ob_callE rfl (.cons rfl <| .cons rfl <| .nil) Try.call14 (fun w m hK => by have hle_ := KC.le hK; have hA := KC.agree hK; have hx1 := hx1.mono hle_; have hx2 := hx2.mono hle_; exact same_c x2 hA hx1 hx2)) <| .cons rfl (ob_and rfl rfl rfl) <| .cons rfl (ob_assign rfl) <| .nil) ?_
      intro a10 w10 m10 hst10 hle10 hk10
      have hfr10 := hk10.fr (T' := [(10, _)]) (.new rfl <| .nil)
      clear hst9 hfr9 hk10
      refine hK25 _ _ ?_; clear hK25
      refine wp_ret ?_
      repeat (with_reducible first | refine then_ret ?_ | refine block_ret ?_)
      exact fn_ret hst10 hfr10 rfl (.tmp rfl <| .nil) (by refine congrArg Value.bool ?_; simp)
    · try simp only [nq1, nq2, nq3, nq4, nq5, nq6, nq7, nq8, nq9, u8_eq] at hb37
      refine wp_skip ?_
      refine hK14 _ _ ?_; clear hK14
      refine seq_any fun _ hK27 => ?_
      replace hst6 := hst6.more (r := .free) trivial List.nodup_nil (by simp [Res.blocks])
      refine ra0 (tch := [(5, 2, (fun v => .blk v _)), (6, 2, (fun v => .blkx v _ _))]) hst6 hfr6 (.cons rfl (ob_loadLA (j := 1) rfl rfl Try.isAgg40 Try.sizeOf40 rfl) <| .cons rfl (ob_call (φ := MP.lastV (⟨[111, 112], ls, t⟩ : Ar)) rfl (.cons rfl <| .nil) Try.call12 (fun w m hK => by have hle_ := KC.le hK; have hA := KC.agree hK; have har := har.mono hle_; exact FnG.mono (last_c (a := (⟨[111, 112], ls, t⟩ : Ar)) hA har hst (by first | exact Nat.le_trans hct (by decide) | (show countM (callT (varT s) t) ≤ _; omega))) fun _ _ _ _ h => h)) <| .cons rfl (ob_imgV 45 rfl rfl rfl fun y45 => ob_move rfl) <| .cons rfl (ob_imgV 43 rfl rfl rfl fun y43 => ob_extract rfl rfl) <| .cons rfl (ob_imgV 43 rfl rfl rfl fun y43 => ob_extract rfl rfl) <| .consT rfl rfl (fun _ => rfl) rfl (ob_allocL Try.zeroValue33 rfl) <| .consT rfl rfl (fun _ => rfl) rfl (ob_imgT 15 rfl rfl rfl fun y15 => ob_imgTX 46 rfl rfl rfl fun y46 => ob_storeKF rfl rfl rfl rfl rfl Try.sizeOf33 rfl rfl (fun w m hK => hK.2.1.one)) <| .consA 47 rfl rfl <| .nil) ?_
      intro a7 w7 m7 hst7 hle7 hk7
      have hfr7 := hk7.fr (T' := [(11, _), (14, _)]) (.old rfl rfl <| .old rfl rfl <| .nil)
      obtain ⟨⟨⟨xb8, yb8⟩, q8⟩, e28, _, hq8⟩ := hk7.ex 47 rfl
      obtain ⟨g29, e29, _⟩ := hk7.ex 15 rfl
      replace hfr7 := hfr7.cons e29
      replace hfr7 := hfr7.cons (hk7.same 16 rfl e28)
      replace hst7 := hst7.fin (L' := [_, _, _]) (.cons e29 <| .cons e29 <| .nil)
      try simp only [List.take_succ_cons, List.take_zero, List.drop_succ_cons, List.drop_zero, List.cons_append, List.nil_append, List.append_nil, List.length_cons, List.length_nil, Nat.zero_add, Nat.reduceAdd] at hst7
      obtain ⟨⟨⟨x1, y1⟩, b1⟩, ⟨hx1, e1⟩, hst7⟩ := hst7.unx (k := 2) rfl (fun _ => rfl)
      replace har := har.mono hle7
      clear hst6 hfr6 hk7
      refine hK27 _ _ ?_; clear hK27
      refine seq_any fun _ hK31 => ?_
      replace hst7 := hst7.more (r := .free) trivial List.nodup_nil (by simp [Res.blocks])
      refine ra0 (tch := [(5, 3, (fun v => .blk v _)), (6, 3, (fun v => .blkx v _ _))]) hst7 hfr7 (.cons rfl (ob_loadLA (j := 1) rfl rfl Try.isAgg40 Try.sizeOf40 rfl) <| .cons rfl (ob_call (φ := MP.lastV (⟨[111, 112], ls, t⟩ : Ar)) rfl (.cons rfl <| .nil) Try.call13 (fun w m hK => by have hle_ := KC.le hK; have hA := KC.agree hK; have har := har.mono hle_; exact FnG.mono (lastR_c (a := (⟨[111, 112], ls, t⟩ : Ar)) hA har (by first | exact Nat.le_trans hct (by decide) | (show countM (callT (varT s) t) ≤ _; omega))) fun _ _ _ _ h => h)) <| .cons rfl (ob_imgV 50 rfl rfl rfl fun y50 => ob_move rfl) <| .cons rfl (ob_imgV 48 rfl rfl rfl fun y48 => ob_extract rfl rfl) <| .cons rfl (ob_imgV 48 rfl rfl rfl fun y48 => ob_extract rfl rfl) <| .consT rfl rfl (fun _ => rfl) rfl (ob_allocL Try.zeroValue33 rfl) <| .consT rfl rfl (fun _ => rfl) rfl (ob_imgT 17 rfl rfl rfl fun y17 => ob_imgTX 51 rfl rfl rfl fun y51 => ob_storeKF rfl rfl rfl rfl rfl Try.sizeOf33 rfl rfl (fun w m hK => hK.2.1.one)) <| .consA 52 rfl rfl <| .nil) ?_
      intro a8 w8 m8 hst8 hle8 hk8
      have hfr8 := hk8.fr (T' := [(11, _), (15, _), (16, _)]) (.old rfl rfl <| .old rfl rfl <| .old rfl rfl <| .nil)
      obtain ⟨⟨⟨xb9, yb9⟩, q9⟩, e32, _, hq9⟩ := hk8.ex 52 rfl
      obtain ⟨g33, e33, _⟩ := hk8.ex 17 rfl
      replace hfr8 := hfr8.cons e33
      replace hfr8 := hfr8.cons (hk8.same 18 rfl e32)
      replace hst8 := hst8.fin (L' := [_, _, _, _]) (.cons e33 <| .cons e33 <| .nil)
      try simp only [List.take_succ_cons, List.take_zero, List.drop_succ_cons, List.drop_zero, List.cons_append, List.nil_append, List.append_nil, List.length_cons, List.length_nil, Nat.zero_add, Nat.reduceAdd] at hst8
      obtain ⟨⟨⟨x2, y2⟩, b2⟩, ⟨hx2, e2⟩, hst8⟩ := hst8.unx (k := 3) rfl (fun _ => rfl)
      replace hx1 := hx1.mono hle8
      clear hst7 hfr7 hk8
      dsimp only at e1 e2 hq8 hq9 hx1 hx2
      have hxx : x2 = x1 := by have h9 := e2.trans e1.symm; injection h9
      subst hxx
      have hqq : q9 = q8 := by have h9 := hq9.trans hq8.symm; injection h9
      subst hqq
      refine hK31 _ _ ?_; clear hK31
      refine seq_any fun _ hK35 => ?_
      refine rp0 hst8 hfr8 (.cons rfl (ob_move rfl) <| .cons rfl (ob_move rfl) <| .cons rfl (ob_move rfl) <| .cons rfl (ob_move rfl) <| .cons rfl (ob_beql rfl rfl Try.underlying4) <| .cons rfl (ob_and rfl rfl rfl) <| .cons rfl (ob_move rfl) <| .cons rfl (ob_loadLA (j := 2) rfl rfl Try.isAgg33 Try.sizeOf33 rfl) <| .cons rfl (ob_loadLA (j := 3) rfl rfl Try.isAgg33 Try.sizeOf33 rfl) <| .cons rfl (ob_callE rfl (.cons rfl <| .cons rfl <| .nil) Try.call14 (fun w m hK => by have hle_ := KC.le hK; have hA := KC.agree hK; have hx1 := hx1.mono hle_; have hx2 := hx2.mono hle_; exact same_c x2 hA hx1 hx2)) <| .cons rfl (ob_and rfl rfl rfl) <| .cons rfl (ob_assign rfl) <| .nil) ?_
      intro a9 w9 m9 hst9 hle9 hk9
      have hfr9 := hk9.fr (T' := [(10, _)]) (.new rfl <| .nil)
      clear hst8 hfr8 hk9
      refine hK35 _ _ ?_; clear hK35
      refine wp_ret ?_
      repeat (with_reducible first | refine then_ret ?_ | refine block_ret ?_)
      exact fn_ret hst9 hfr9 rfl (.tmp rfl <| .nil) (by refine congrArg Value.bool ?_; simp)

end Go.Proofs.Ytppmbhjacjmfkaa
