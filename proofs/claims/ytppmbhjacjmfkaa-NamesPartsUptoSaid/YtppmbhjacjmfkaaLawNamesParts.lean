/-
  A law of chapter 13, walked. Conditions: those of the theorem.
-/
import Derived.Test.YtppmbhjacjmfkaaShown3
namespace Go.Proofs.Ytppmbhjacjmfkaa
set_option linter.all false
set_option maxRecDepth 4000
open Go.RowKit
theorem flag_ok {q : Bool} (h : (!q) = false) : q = true := by cases q; cases h; rfl
theorem kids_none {t : Tm} (h : RtT t) (hk : t.kind = 1 ∨ t.kind = 2 ∨ t.kind = 3 ∨ t.kind = 4) : t.kids = [] ∧ t.arms = [] := by
  obtain ⟨h1, h2⟩ := h.here
  refine ⟨?_, h2 (by omega) (by omega)⟩
  have : kidsM t.kind = 0 := by unfold kidsM; rw [if_pos (by omega)]
  rw [this] at h1
  exact List.eq_nil_of_length_eq_zero (by omega)
theorem value_plain {t : Tm} : RtT t → valueT t = true → plainT t = true := by
  induction t using Tm.rec_ with
  | h t ihk iha =>
    intro hr hv
    rw [valueT_eq] at hv
    rw [plainT_eq]
    simp only [Bool.or_eq_true, Bool.and_eq_true, decide_eq_true_eq] at hv
    rcases hv with hv | ⟨hv, hk⟩
    · by_cases h5 : t.kind = 5
      · rw [if_neg (by omega), if_pos h5]
      · obtain ⟨h1, h2⟩ := kids_none hr (by omega)
        rw [if_neg (by omega), if_neg h5, h1, h2]; rfl
    · rw [if_neg (by omega), if_neg (by omega), hr.here.2 (by omega) (by omega), decide_eq_false (by omega), plainKs_all]
      rw [valueKs_all, List.all_eq_true] at hk
      have : t.kids.all plainT = true := List.all_eq_true.2 fun u hu => ihk u hu (hr.kid hu) (hk u hu)
      rw [this]; rfl
theorem ShT.row {t : Tm} (h : ShT t) (r : Rw) : ShT ⟨t.kind, t.at_, t.name, t.param, t.n, t.kids, t.arms, r⟩ := .mk h.here (fun u hu => h.kid hu) (fun a ha => h.arm ha)
theorem count_row (t : Tm) (r : Rw) : countM ⟨t.kind, t.at_, t.name, t.param, t.n, t.kids, t.arms, r⟩ = countM t := by rw [countM_eq, countM_eq t]; rfl
theorem parts_law {s x : Str} (hx : x ≠ uS) (t u : Tm) : (true && ((decide (s ∈ freeT (callT t u))) == (decide (s ∈ freeT t) || decide (s ∈ freeT u))) && ((decide (s ∈ freeT (letT x t u))) == (decide (s ∈ freeT t) || (decide (s ∈ freeT u) && !decide (s = x)))) &&
    decide ((usesM s (callT t u) : Int) = (usesM s t : Int) + (usesM s u : Int))) = true := by
  have e1 := uses_call s t u
  have e2 : usesM s (letT x t u) = usesM s t + if s = x then 0 else usesM s u := by
    rw [uses_let]
    by_cases h : s = x
    · rw [if_pos h, if_neg (fun h2 => h2.elim (fun h2 => hx (h.symm.trans h2)) (fun h2 => h2 h))]
    · rw [if_neg h, if_pos (.inr h)]
  simp only [mem_free, e1, e2]
  generalize usesM s t = a; generalize usesM s u = b
  by_cases h3 : s = x
  · rw [if_pos h3]; cases a <;> cases b <;> simp [h3] <;> omega
  · rw [if_neg h3]; cases a <;> cases b <;> simp [h3] <;> omega
theorem plain_law (t u : Tm) (h : valueT t = true → plainT t = true) : (true && (!valueT t || plainT t) && valueT (funT [120] t) && plainT (funT [120] t) && !valueT (callT t u) && !plainT (callT t u) && (plainT (letT [120] t u) == (plainT t && plainT u)) && (!plainT t || quietT t)) = true := by
  have e1 : valueT (funT [120] t) = true := rfl
  have e2 : plainT (funT [120] t) = true := by rw [plainT_eq]; rfl
  have e3 : valueT (callT t u) = false := rfl
  have e4 : plainT (callT t u) = false := by rw [plainT_eq]; rfl
  have e5 : plainT (letT [120] t u) = (plainT t && plainT u) := by rw [plainT_eq]; show ((plainT t && (plainT u && true)) && true) = _; simp
  rw [e1, e2, e3, e4, e5]
  unfold quietT
  cases hv : valueT t <;> cases hp : plainT t <;> simp_all
theorem beq_dec {a b : Bool} (h : a = b) : (a == b) = true := by rw [h]; exact BEq.rfl
set_option maxHeartbeats 1600000 in
theorem namesParts_c {w : World} {m : Mem} {p : Pg} {vs_p : List Value} {n : Int} {k : Int} {s : Str} {x : Str} (hA : Agree w m) (h_p : PgR m p vs_p) (hbo : opsN p.effects ≤ 1000000000) (hbc : consN p.datas ≤ 1000000000) (hbd : p.datas.length ≤ 1000000000) (hB : bulkM p.body ≤ 2100000) : FnV Try.prog 5 #[.agg vs_p.toArray, .int .i64 n, .int .i64 k, S s, S x] w m (fun _ _ v => v = .bool true) := by
  obtain ⟨oE_p, cE_p, oD_p, cD_p, bs_p, rfl, hef_p, hda_p, hpb_p⟩ := id h_p
  have hbe_p := hef_p.big; have hce_p := hef_p.cap; have hbda_p := hda_p.big; have hcd_p := hda_p.cap
  obtain ⟨⟨oK_pb, cK_pb, oA_pb, cA_pb, oR_pb, cR_pb, t0_pb, t1_pb, t2_pb, t3_pb, t4_pb, t5_pb, u0_pb, u1_pb, u2_pb, u3_pb, u4_pb, u5_pb⟩, rfl, hon_pb, hkk_pb, haa_pb, hrr_pb⟩ := hpb_p.open_
  dsimp only at hkk_pb haa_pb hrr_pb
  have hbg_pb := hkk_pb.big; have hcp_pb := hkk_pb.cap; have hbh_pb := haa_pb.big; have hcq_pb := haa_pb.cap
  refine fn_enter (vs := [_, _, _, _, _]) Try.func5 rfl rfl rfl fun a0 hfr0 => ?_
  have hst0 := st_enter hA (loc_nil [] _ w m)
  have hM : MLe m m := MLe.refl m
  refine seq_any fun _ hK1 => ?_
  refine rp0 hst0 hfr0 (.cons rfl (ob_box rfl rfl) <| .cons rfl (ob_assign rfl) <| .nil) ?_
  intro a1 w1 m1 hst1 hle1 hk1
  have hfr1 := hk1.fr (T' := [(1, _), (2, _), (3, _), (4, _)]) (.old rfl rfl <| .old rfl rfl <| .old rfl rfl <| .old rfl rfl <| .nil)
  obtain ⟨g2, e2, hc5⟩ := hk1.ex 5 rfl
  replace hfr1 := hfr1.cons e2
  replace h_p := h_p.mono hle1
  clear hst0 hfr0 hk1
  refine hK1 _ _ ?_; clear hK1
  refine seq_any fun _ hK3 => ?_
  refine rp0 hst1 hfr1 (.cons rfl (ob_callE rfl (.nil) Try.call8 (fun w m hK => by have hle_ := KC.le hK; have hA := KC.agree hK; exact shown_c hA)) <| .cons rfl (ob_assign rfl) <| .nil) ?_
  intro a2 w2 m2 hst2 hle2 hk2
  have hfr2 := hk2.fr (T' := [(1, _), (2, _), (3, _), (4, _), (5, _), (11, _)]) (.old rfl rfl <| .old rfl rfl <| .old rfl rfl <| .old rfl rfl <| .old rfl rfl <| .new rfl <| .nil)
  replace h_p := h_p.mono hle2
  replace hc5 := hc5.mono hle2
  clear hst1 hfr1 hk2
  refine hK3 _ _ ?_; clear hK3
  refine seq_any fun _ hK4 => ?_
  replace hst2 := hst2.more (r := .free) trivial List.nodup_nil (by simp [Res.blocks])
  refine ra0 (tch := [(6, 0, (fun v => .blk v _)), (7, 0, (fun v => .blkx v _ _))]) hst2 hfr2 (.cons rfl (ob_loadS' rfl hc5 Try.isAgg35 Try.sizeOf35 rfl rfl) <| .cons rfl (ob_move rfl) <| .cons rfl (ob_call (φ := MP.partB 2100000) rfl (.cons rfl <| .cons rfl <| .nil) Try.call9 (fun w m hK => by have hle_ := KC.le hK; have hA := KC.agree hK; have h_p := h_p.mono hle_; exact FnG.mono (part_c hA h_p hbo hbc hbd 2100000 hB (by omega)) fun _ _ _ _ h => h)) <| .cons rfl (ob_imgV 25 rfl rfl rfl fun y25 => ob_move rfl) <| .cons rfl (ob_imgV 22 rfl rfl rfl fun y22 => ob_extract rfl rfl) <| .cons rfl (ob_imgV 22 rfl rfl rfl fun y22 => ob_extract rfl rfl) <| .consT rfl rfl (fun _ => rfl) rfl (ob_allocL Try.zeroValue33 rfl) <| .consT rfl rfl (fun _ => rfl) rfl (ob_imgT 12 rfl rfl rfl fun y12 => ob_imgTX 26 rfl rfl rfl fun y26 => ob_storeKF rfl rfl rfl rfl rfl Try.sizeOf33 rfl rfl (fun w m hK => hK.2.1.one)) <| .consA 27 rfl rfl <| .nil) ?_
  intro a3 w3 m3 hst3 hle3 hk3
  have hfr3 := hk3.fr (T' := [(2, _), (3, _), (4, _), (5, _), (11, _)]) (.old rfl rfl <| .old rfl rfl <| .old rfl rfl <| .old rfl rfl <| .old rfl rfl <| .nil)
  obtain ⟨⟨⟨xbt, ybt⟩, qt⟩, e5, _⟩ := hk3.ex 27 rfl
  obtain ⟨g6, e6, _⟩ := hk3.ex 12 rfl
  replace hfr3 := hfr3.cons e6
  replace hfr3 := hfr3.cons (hk3.same 13 rfl e5)
  replace hst3 := hst3.fin (L' := [_]) (.cons e6 <| .cons e6 <| .nil)
  try simp only [List.take_succ_cons, List.take_zero, List.drop_succ_cons, List.drop_zero, List.cons_append, List.nil_append, List.append_nil, List.length_cons, List.length_nil, Nat.zero_add, Nat.reduceAdd] at hst3
  obtain ⟨⟨⟨t, yt⟩, bt⟩, ⟨ht, hst, hct, hbt, hrt⟩, hst3⟩ := hst3.unx (k := 0) rfl (fun _ => rfl)
  replace h_p := h_p.mono hle3
  replace hc5 := hc5.mono hle3
  clear hst2 hfr2 hk3
  dsimp only at ht hst hct hbt hrt
  refine hK4 _ _ ?_; clear hK4
  refine seq_any fun _ hK8 => ?_
  replace hst3 := hst3.more (r := .free) trivial List.nodup_nil (by simp [Res.blocks])
  refine ra0 (tch := [(6, 1, (fun v => .blk v _)), (7, 1, (fun v => .blkx v _ _))]) hst3 hfr3 (.cons rfl (ob_loadS' rfl hc5 Try.isAgg35 Try.sizeOf35 rfl rfl) <| .cons rfl (ob_move rfl) <| .cons rfl (ob_call (φ := MP.partB 2100000) rfl (.cons rfl <| .cons rfl <| .nil) Try.call9 (fun w m hK => by have hle_ := KC.le hK; have hA := KC.agree hK; have h_p := h_p.mono hle_; exact FnG.mono (part_c hA h_p hbo hbc hbd 2100000 hB (by omega)) fun _ _ _ _ h => h)) <| .cons rfl (ob_imgV 31 rfl rfl rfl fun y31 => ob_move rfl) <| .cons rfl (ob_imgV 28 rfl rfl rfl fun y28 => ob_extract rfl rfl) <| .cons rfl (ob_imgV 28 rfl rfl rfl fun y28 => ob_extract rfl rfl) <| .consT rfl rfl (fun _ => rfl) rfl (ob_allocL Try.zeroValue33 rfl) <| .consT rfl rfl (fun _ => rfl) rfl (ob_imgT 14 rfl rfl rfl fun y14 => ob_imgTX 32 rfl rfl rfl fun y32 => ob_storeKF rfl rfl rfl rfl rfl Try.sizeOf33 rfl rfl (fun w m hK => hK.2.1.one)) <| .consA 33 rfl rfl <| .nil) ?_
  intro a4 w4 m4 hst4 hle4 hk4
  have hfr4 := hk4.fr (T' := [(3, _), (4, _), (11, _), (12, _), (13, _)]) (.old rfl rfl <| .old rfl rfl <| .old rfl rfl <| .old rfl rfl <| .old rfl rfl <| .nil)
  obtain ⟨⟨⟨xbu, ybu⟩, qu⟩, e9, _⟩ := hk4.ex 33 rfl
  obtain ⟨g10, e10, _⟩ := hk4.ex 14 rfl
  replace hfr4 := hfr4.cons e10
  replace hfr4 := hfr4.cons (hk4.same 15 rfl e9)
  replace hst4 := hst4.fin (L' := [_, _]) (.cons e10 <| .cons e10 <| .nil)
  try simp only [List.take_succ_cons, List.take_zero, List.drop_succ_cons, List.drop_zero, List.cons_append, List.nil_append, List.append_nil, List.length_cons, List.length_nil, Nat.zero_add, Nat.reduceAdd] at hst4
  obtain ⟨⟨⟨u, yu⟩, bu⟩, ⟨hu, hsu, hcu, hbu, hru⟩, hst4⟩ := hst4.unx (k := 1) rfl (fun _ => rfl)
  replace ht := ht.mono hle4
  clear hst3 hfr3 hk4
  dsimp only at hu hsu hcu hbu hru
  refine hK8 _ _ ?_; clear hK8
  refine seq_any fun _ hK12 => ?_
  refine seq_any fun _ hK13 => ?_
  refine rp0 hst4 hfr4 (.cons rfl (ob_move rfl) <| .cons rfl (ob_not rfl) <| .cons rfl (ob_move rfl) <| .cons rfl (ob_move rfl) <| .cons rfl (ob_not rfl) <| .cons rfl (ob_or rfl rfl rfl) <| .cons rfl (ob_move rfl) <| .cons rfl (ob_move rfl) <| .cons rfl (ob_seql rfl rfl) <| .cons rfl (ob_or rfl rfl rfl) <| .nil) ?_
  intro a5 w5 m5 hst5 hle5 hk5
  have hfr5 := hk5.fr (T' := [(3, _), (4, _), (11, _), (12, _), (14, _), (43, _)]) (.old rfl rfl <| .old rfl rfl <| .old rfl rfl <| .old rfl rfl <| .old rfl rfl <| .new rfl <| .nil)
  replace ht := ht.mono hle5
  replace hu := hu.mono hle5
  clear hst4 hfr4 hk5
  refine hK13 _ _ ?_; clear hK13
  refine cond_any hfr5 rfl rfl (fun hb43 => ?_) (fun hb43 => ?_)
  · try simp only [nq1, nq2, nq3, nq4, nq5, nq6, nq7, nq8, nq9, u8_eq] at hb43
    refine seq_any fun _ hK14 => ?_
    refine rp0 hst5 hfr5 (.cons rfl (ob_move rfl) <| .cons rfl (ob_assign rfl) <| .nil) ?_
    intro a6 w6 m6 hst6 hle6 hk6
    have hfr6 := hk6.fr (T' := [(10, _)]) (.new rfl <| .nil)
    clear hst5 hfr5 hk6
    refine hK14 _ _ ?_; clear hK14
    refine wp_ret ?_
    repeat (with_reducible first | refine then_ret ?_ | refine block_ret ?_)
    exact fn_ret hst6 hfr6 rfl (.tmp rfl <| .nil) (rfl)
  · try simp only [nq1, nq2, nq3, nq4, nq5, nq6, nq7, nq8, nq9, u8_eq] at hb43
    have hcf := count_call t u; have hcl := count_let x t u; have hul := usesM_le s t; have hul2 := usesM_le s u
    refine wp_skip ?_
    refine hK12 _ _ ?_; clear hK12
    refine seq_any fun _ hK16 => ?_
    refine rp0 hst5 hfr5 (.cons rfl (ob_loadLA (j := 0) rfl rfl Try.isAgg33 Try.sizeOf33 rfl) <| .cons rfl (ob_call (φ := MP.strs (freeT (t))) rfl (.cons rfl <| .nil) Try.call16 (fun w m hK => by have hle_ := KC.le hK; have hA := KC.agree hK; have ht := ht.mono hle_; exact FnG.mono (freeF_c (t := t) hA ht hst (by omega)) fun _ _ _ _ h => h)) <| .cons rfl (ob_move rfl) <| .cons rfl (ob_imgE 46 rfl rfl rfl fun y46 => ob_callE rfl (.cons rfl <| .cons rfl <| .nil) Try.call15 (fun w m hK => by have hle_ := KC.le hK; have hA := KC.agree hK; have hr0_ := hK.2; exact in_c (l := freeT t) (s := s) hA hr0_)) <| .cons rfl (ob_assign rfl) <| .nil) ?_
    intro a6 w6 m6 hst6 hle6 hk6
    have hfr6 := hk6.fr (T' := [(3, _), (4, _), (11, _), (12, _), (14, _), (16, _)]) (.old rfl rfl <| .old rfl rfl <| .old rfl rfl <| .old rfl rfl <| .old rfl rfl <| .new rfl <| .nil)
    replace ht := ht.mono hle6
    replace hu := hu.mono hle6
    clear hst5 hfr5 hk6
    refine hK16 _ _ ?_; clear hK16
    refine seq_any fun _ hK17 => ?_
    refine rp0 hst6 hfr6 (.cons rfl (ob_loadLA (j := 1) rfl rfl Try.isAgg33 Try.sizeOf33 rfl) <| .cons rfl (ob_call (φ := MP.strs (freeT (u))) rfl (.cons rfl <| .nil) Try.call16 (fun w m hK => by have hle_ := KC.le hK; have hA := KC.agree hK; have hu := hu.mono hle_; exact FnG.mono (freeF_c (t := u) hA hu hsu (by omega)) fun _ _ _ _ h => h)) <| .cons rfl (ob_move rfl) <| .cons rfl (ob_imgE 50 rfl rfl rfl fun y50 => ob_callE rfl (.cons rfl <| .cons rfl <| .nil) Try.call15 (fun w m hK => by have hle_ := KC.le hK; have hA := KC.agree hK; have hr0_ := hK.2; exact in_c (l := freeT u) (s := s) hA hr0_)) <| .cons rfl (ob_assign rfl) <| .nil) ?_
    intro a7 w7 m7 hst7 hle7 hk7
    have hfr7 := hk7.fr (T' := [(3, _), (4, _), (11, _), (12, _), (14, _), (16, _), (17, _)]) (.old rfl rfl <| .old rfl rfl <| .old rfl rfl <| .old rfl rfl <| .old rfl rfl <| .old rfl rfl <| .new rfl <| .nil)
    replace ht := ht.mono hle7
    replace hu := hu.mono hle7
    clear hst6 hfr6 hk7
    refine hK17 _ _ ?_; clear hK17
    refine seq_any fun _ hK18 => ?_
    refine rp0 hst7 hfr7 (.cons rfl (ob_loadLA (j := 0) rfl rfl Try.isAgg33 Try.sizeOf33 rfl) <| .cons rfl (ob_loadLA (j := 1) rfl rfl Try.isAgg33 Try.sizeOf33 rfl) <| .cons rfl (ob_call (φ := MP.tm (callT t u)) rfl (.cons rfl <| .cons rfl <| .nil) Try.call10 (fun w m hK => by have hle_ := KC.le hK; have hA := KC.agree hK; have ht := ht.mono hle_; have hu := hu.mono hle_; exact FnG.mono (call_c (f := t) (a := u) hA ht hu) fun _ _ _ _ h => h)) <| .cons rfl (ob_imgE 55 rfl rfl rfl fun y55 => ob_call (φ := MP.strs (freeT ((callT t u)))) rfl (.cons rfl <| .nil) Try.call16 (fun w m hK => by have hle_ := KC.le hK; have hA := KC.agree hK; have hr0_ := hK.2; exact FnG.mono (freeF_c (t := (callT t u)) hA hr0_ (.call hst hsu) (by omega)) fun _ _ _ _ h => h)) <| .cons rfl (ob_move rfl) <| .cons rfl (ob_imgE 56 rfl rfl rfl fun y56 => ob_callE rfl (.cons rfl <| .cons rfl <| .nil) Try.call15 (fun w m hK => by have hle_ := KC.le hK; have hA := KC.agree hK; have hr0_ := hK.2; exact in_c (l := freeT (callT t u)) (s := s) hA hr0_)) <| .cons rfl (ob_assign rfl) <| .nil) ?_
    intro a8 w8 m8 hst8 hle8 hk8
    have hfr8 := hk8.fr (T' := [(3, _), (4, _), (11, _), (12, _), (14, _), (16, _), (17, _), (18, _)]) (.old rfl rfl <| .old rfl rfl <| .old rfl rfl <| .old rfl rfl <| .old rfl rfl <| .old rfl rfl <| .old rfl rfl <| .new rfl <| .nil)
    replace ht := ht.mono hle8
    replace hu := hu.mono hle8
    clear hst7 hfr7 hk8
    refine hK18 _ _ ?_; clear hK18
    refine seq_any fun _ hK19 => ?_
    refine region_cut 5 (by kernel_rfl) ?_
    refine ops_seq (tch := []) hst8 hfr8 (by kernel_rfl) (by kernel_rfl) (by kernel_rfl) (.cons rfl (ob_move rfl) <| .cons rfl (ob_loadLA (j := 0) rfl rfl Try.isAgg33 Try.sizeOf33 rfl) <| .cons rfl (ob_loadLA (j := 1) rfl rfl Try.isAgg33 Try.sizeOf33 rfl) <| .cons rfl (ob_buildSlice2 rfl rfl Try.underlying24 Try.sizeOf33 Try.zeroValue33 rfl rfl rfl rfl rfl) <| .cons rfl (ob_imgV 62 rfl rfl rfl fun y62 => ob_buildS (.cons rfl <| .cons rfl <| .cons rfl <| .nil) Try.underlying33 Try.zeroValue33 (.cons Try.sizeOf3 <| .cons Try.sizeOf3 <| .cons Try.sizeOf9 <| .cons Try.sizeOf9 <| .cons Try.sizeOf3 <| .cons Try.sizeOf24 <| .cons Try.sizeOf25 <| .cons Try.sizeOf31 <| .cons Try.sizeOf29 <| .cons Try.sizeOf31 <| .nil) rfl) <| .nil) ?_
    intro a9 w9 m9 hst9 hle9 hk9
    have hfr9 := hk9.fr (T' := [(3, _), (4, _), (11, _), (12, _), (14, _), (16, _), (17, _), (18, _)]) (.old rfl rfl <| .old rfl rfl <| .old rfl rfl <| .old rfl rfl <| .old rfl rfl <| .old rfl rfl <| .old rfl rfl <| .old rfl rfl <| .nil)
    obtain ⟨g63, e20, h63⟩ := hk9.ex 63 rfl
    replace hfr9 := hfr9.cons e20
    replace ht := ht.mono hle9
    replace hu := hu.mono hle9
    clear hst8 hfr8 hk9
    have hln := let_R (s := x) h63 ht hu
    replace hst9 := hst9.more (r := .free) trivial List.nodup_nil (by simp [Res.blocks])
    refine ops_seq (tch := [(0, 2, (fun v => .blk v _)), (1, 2, (fun v => .blk v _))]) hst9 hfr9 (by kernel_rfl) (by kernel_rfl) (by kernel_rfl) (.consT rfl rfl (fun _ => rfl) rfl (ob_allocL Try.zeroValue33 rfl) <| .consT rfl rfl (fun _ => rfl) rfl (ob_imgT 19 rfl rfl rfl fun y19 => ob_storeF rfl rfl rfl rfl rfl Try.sizeOf33 rfl rfl hln.one) <| .nil) ?_
    intro a10 w10 m10 hst10 hle10 hk10
    have hfr10 := hk10.fr (T' := [(3, _), (4, _), (11, _), (12, _), (14, _), (16, _), (17, _), (18, _), (63, _)]) (.old rfl rfl <| .old rfl rfl <| .old rfl rfl <| .old rfl rfl <| .old rfl rfl <| .old rfl rfl <| .old rfl rfl <| .old rfl rfl <| .old rfl rfl <| .nil)
    obtain ⟨g21, e21, _⟩ := hk10.ex 19 rfl
    replace hfr10 := hfr10.cons e21
    replace hst10 := hst10.fin (L' := [_, _, _]) (.cons e21 <| .cons e21 <| .nil)
    try simp only [List.take_succ_cons, List.take_zero, List.drop_succ_cons, List.drop_zero, List.cons_append, List.nil_append, List.append_nil, List.length_cons, List.length_nil, Nat.zero_add, Nat.reduceAdd] at hst10
    replace ht := ht.mono hle10
    replace hu := hu.mono hle10
    replace hln := hln.mono hle10
    clear hst9 hfr9 hk10
    refine hK19 _ _ ?_; clear hK19
    refine seq_any fun _ hK22 => ?_
    refine rp0 hst10 hfr10 (.cons rfl (ob_loadLA (j := 2) rfl rfl Try.isAgg33 Try.sizeOf33 rfl) <| .cons rfl (ob_call (φ := MP.strs (freeT ((letT x t u)))) rfl (.cons rfl <| .nil) Try.call16 (fun w m hK => by have hle_ := KC.le hK; have hA := KC.agree hK; have hln := hln.mono hle_; exact FnG.mono (freeF_c (t := (letT x t u)) hA hln (.let_ _ hst hsu) (by omega)) fun _ _ _ _ h => h)) <| .cons rfl (ob_move rfl) <| .cons rfl (ob_imgE 65 rfl rfl rfl fun y65 => ob_callE rfl (.cons rfl <| .cons rfl <| .nil) Try.call15 (fun w m hK => by have hle_ := KC.le hK; have hA := KC.agree hK; have hr0_ := hK.2; exact in_c (l := freeT (letT x t u)) (s := s) hA hr0_)) <| .cons rfl (ob_assign rfl) <| .nil) ?_
    intro a11 w11 m11 hst11 hle11 hk11
    have hfr11 := hk11.fr (T' := [(3, _), (4, _), (11, _), (12, _), (14, _), (16, _), (17, _), (18, _), (20, _)]) (.old rfl rfl <| .old rfl rfl <| .old rfl rfl <| .old rfl rfl <| .old rfl rfl <| .old rfl rfl <| .old rfl rfl <| .old rfl rfl <| .new rfl <| .nil)
    replace ht := ht.mono hle11
    replace hu := hu.mono hle11
    clear hst10 hfr10 hk11
    refine hK22 _ _ ?_; clear hK22
    refine seq_any fun _ hK23 => ?_
    refine region_plain (fun _ => mixed) hst11 hfr11 (by kernel_rfl) (by kernel_rfl) (.cons rfl (ob_move rfl) <| .cons rfl (ob_move rfl) <| .cons rfl (ob_move rfl) <| .cons rfl (ob_move rfl) <| .cons rfl (ob_move rfl) <| .cons rfl (ob_move rfl) <| .cons rfl (ob_or rfl rfl rfl) <| .cons rfl (ob_beql rfl rfl Try.underlying4) <| .cons rfl (ob_and rfl rfl rfl) <| .cons rfl (ob_move rfl) <| .cons rfl (ob_move rfl) <| .cons rfl (ob_move rfl) <| .cons rfl (ob_move rfl) <| .cons rfl (ob_move rfl) <| .cons rfl (ob_move rfl) <| .cons rfl (ob_move rfl) <| .cons rfl (ob_move rfl) <| .cons rfl (ob_sneq rfl rfl) <| .cons rfl (ob_and rfl rfl rfl) <| .cons rfl (ob_or rfl rfl rfl) <| .cons rfl (ob_beql rfl rfl Try.underlying4) <| .cons rfl (ob_and rfl rfl rfl) <| .cons rfl (ob_move rfl) <| .cons rfl (ob_loadLA (j := 0) rfl rfl Try.isAgg33 Try.sizeOf33 rfl) <| .cons rfl (ob_loadLA (j := 1) rfl rfl Try.isAgg33 Try.sizeOf33 rfl) <| .cons rfl (ob_call (φ := MP.tm (callT t u)) rfl (.cons rfl <| .cons rfl <| .nil) Try.call10 (fun w m hK => by have hle_ := KC.le hK; have hA := KC.agree hK; have ht := ht.mono hle_; have hu := hu.mono hle_; exact FnG.mono (call_c (f := t) (a := u) hA ht hu) fun _ _ _ _ h => h)) <| .cons rfl (ob_move rfl) <| .cons rfl (ob_imgE 93 rfl rfl rfl fun y93 => ob_callE rfl (.cons rfl <| .cons rfl <| .nil) Try.call17 (fun w m hK => by have hle_ := KC.le hK; have hA := KC.agree hK; have hr0_ := hK.2; exact usesP_c (t := (callT t u)) (s := s) hA hr0_ (.call hst hsu) (by omega))) <| .cons rfl (ob_loadLA (j := 0) rfl rfl Try.isAgg33 Try.sizeOf33 rfl) <| .cons rfl (ob_move rfl) <| .cons rfl (ob_callE rfl (.cons rfl <| .cons rfl <| .nil) Try.call17 (fun w m hK => by have hle_ := KC.le hK; have hA := KC.agree hK; have ht := ht.mono hle_; exact usesP_c (t := t) (s := s) hA ht hst (by omega))) <| .cons rfl (ob_loadLA (j := 1) rfl rfl Try.isAgg33 Try.sizeOf33 rfl) <| .cons rfl (ob_move rfl) <| .cons rfl (ob_callE rfl (.cons rfl <| .cons rfl <| .nil) Try.call17 (fun w m hK => by have hle_ := KC.le hK; have hA := KC.agree hK; have hu := hu.mono hle_; exact usesP_c (t := u) (s := s) hA hu hsu (by omega))) <| .cons rfl (ob_add rfl rfl ⟨by omega, by omega⟩) <| .cons rfl (ob_eql rfl rfl) <| .cons rfl (ob_and rfl rfl rfl) <| .cons rfl (ob_assign rfl) <| .nil) ?_
    intro a12 w12 m12 hst12 hle12 hk12
    have hfr12 := hk12.fr (T' := [(10, _)]) (.new rfl <| .nil)
    clear hst11 hfr11 hk12
    refine hK23 _ _ ?_; clear hK23
    refine wp_ret ?_
    repeat (with_reducible first | refine then_ret ?_ | refine block_ret ?_)
    exact fn_ret hst12 hfr12 rfl (.tmp rfl <| .nil) (by refine congrArg Value.bool ?_; exact parts_law hb43.2 t u)

end Go.Proofs.Ytppmbhjacjmfkaa
