/-
  A law of chapter 13, walked. Conditions: those of the theorem.
-/
import Derived.Test.YtppmbhjacjmfkaaShown3
namespace Go.Proofs.Ytppmbhjacjmfkaa
set_option linter.all false
set_option maxRecDepth 4000
open Go.RowKit
theorem flag_ok {q : Bool} (h : (!q) = false) : q = true := by cases q; cases h; rfl
theorem kids_none {t : Tm} (h : RtT t) (hk : t.kind = 1 ∨ t.kind = 2 ∨ t.kind = 3 ∨ t.kind = 4) : t.kids = [] ∧ t.arms = [] := by
  obtain ⟨h1, h2⟩ := h.here
  refine ⟨?_, h2 (by omega) (by omega)⟩
  have : kidsM t.kind = 0 := by unfold kidsM; rw [if_pos (by omega)]
  rw [this] at h1
  exact List.eq_nil_of_length_eq_zero (by omega)
theorem value_plain {t : Tm} : RtT t → valueT t = true → plainT t = true := by
  induction t using Tm.rec_ with
  | h t ihk iha =>
    intro hr hv
    rw [valueT_eq] at hv
    rw [plainT_eq]
    simp only [Bool.or_eq_true, Bool.and_eq_true, decide_eq_true_eq] at hv
    rcases hv with hv | ⟨hv, hk⟩
    · by_cases h5 : t.kind = 5
      · rw [if_neg (by omega), if_pos h5]
      · obtain ⟨h1, h2⟩ := kids_none hr (by omega)
        rw [if_neg (by omega), if_neg h5, h1, h2]; rfl
    · rw [if_neg (by omega), if_neg (by omega), hr.here.2 (by omega) (by omega), decide_eq_false (by omega), plainKs_all]
      rw [valueKs_all, List.all_eq_true] at hk
      have : t.kids.all plainT = true := List.all_eq_true.2 fun u hu => ihk u hu (hr.kid hu) (hk u hu)
      rw [this]; rfl
theorem ShT.row {t : Tm} (h : ShT t) (r : Rw) : ShT ⟨t.kind, t.at_, t.name, t.param, t.n, t.kids, t.arms, r⟩ := .mk h.here (fun u hu => h.kid hu) (fun a ha => h.arm ha)
theorem count_row (t : Tm) (r : Rw) : countM ⟨t.kind, t.at_, t.name, t.param, t.n, t.kids, t.arms, r⟩ = countM t := by rw [countM_eq, countM_eq t]; rfl
theorem parts_law {s x : Str} (hx : x ≠ uS) (t u : Tm) : (true && ((decide (s ∈ freeT (callT t u))) == (decide (s ∈ freeT t) || decide (s ∈ freeT u))) && ((decide (s ∈ freeT (letT x t u))) == (decide (s ∈ freeT t) || (decide (s ∈ freeT u) && !decide (s = x)))) &&
    decide ((usesM s (callT t u) : Int) = (usesM s t : Int) + (usesM s u : Int))) = true := by
  have e1 := uses_call s t u
  have e2 : usesM s (letT x t u) = usesM s t + if s = x then 0 else usesM s u := by
    rw [uses_let]
    by_cases h : s = x
    · rw [if_pos h, if_neg (fun h2 => h2.elim (fun h2 => hx (h.symm.trans h2)) (fun h2 => h2 h))]
    · rw [if_neg h, if_pos (.inr h)]
  simp only [mem_free, e1, e2]
  generalize usesM s t = a; generalize usesM s u = b
  by_cases h3 : s = x
  · rw [if_pos h3]; cases a <;> cases b <;> simp [h3] <;> omega
  · rw [if_neg h3]; cases a <;> cases b <;> simp [h3] <;> omega
theorem plain_law (t u : Tm) (h : valueT t = true → plainT t = true) : (true && (!valueT t || plainT t) && valueT (funT [120] t) && plainT (funT [120] t) && !valueT (callT t u) && !plainT (callT t u) && (plainT (letT [120] t u) == (plainT t && plainT u)) && (!plainT t || quietT t)) = true := by
  have e1 : valueT (funT [120] t) = true := rfl
  have e2 : plainT (funT [120] t) = true := by rw [plainT_eq]; rfl
  have e3 : valueT (callT t u) = false := rfl
  have e4 : plainT (callT t u) = false := by rw [plainT_eq]; rfl
  have e5 : plainT (letT [120] t u) = (plainT t && plainT u) := by rw [plainT_eq]; show ((plainT t && (plainT u && true)) && true) = _; simp
  rw [e1, e2, e3, e4, e5]
  unfold quietT
  cases hv : valueT t <;> cases hp : plainT t <;> simp_all
theorem beq_dec {a b : Bool} (h : a = b) : (a == b) = true := by rw [h]; exact BEq.rfl
set_option maxHeartbeats 1600000 in
theorem namesPlain_c {w : World} {m : Mem} {p : Pg} {vs_p : List Value} {n : Int} {k : Int} (hA : Agree w m) (h_p : PgR m p vs_p) (hbo : opsN p.effects ≤ 1000000000) (hbc : consN p.datas ≤ 1000000000) (hbd : p.datas.length ≤ 1000000000) (hB : bulkM p.body ≤ 2100000) : FnV Try.prog 7 #[.agg vs_p.toArray, .int .i64 n, .int .i64 k] w m (fun _ _ v => v = .bool true) := by
  obtain ⟨oE_p, cE_p, oD_p, cD_p, bs_p, rfl, hef_p, hda_p, hpb_p⟩ := id h_p
  have hbe_p := hef_p.big; have hce_p := hef_p.cap; have hbda_p := hda_p.big; have hcd_p := hda_p.cap
  obtain ⟨⟨oK_pb, cK_pb, oA_pb, cA_pb, oR_pb, cR_pb, t0_pb, t1_pb, t2_pb, t3_pb, t4_pb, t5_pb, u0_pb, u1_pb, u2_pb, u3_pb, u4_pb, u5_pb⟩, rfl, hon_pb, hkk_pb, haa_pb, hrr_pb⟩ := hpb_p.open_
  dsimp only at hkk_pb haa_pb hrr_pb
  have hbg_pb := hkk_pb.big; have hcp_pb := hkk_pb.cap; have hbh_pb := haa_pb.big; have hcq_pb := haa_pb.cap
  refine fn_enter (vs := [_, _, _]) Try.func7 rfl rfl rfl fun a0 hfr0 => ?_
  have hst0 := st_enter hA (loc_nil [] _ w m)
  have hM : MLe m m := MLe.refl m
  refine seq_any fun _ hK1 => ?_
  refine rp0 hst0 hfr0 (.cons rfl (ob_box rfl rfl) <| .cons rfl (ob_assign rfl) <| .nil) ?_
  intro a1 w1 m1 hst1 hle1 hk1
  have hfr1 := hk1.fr (T' := [(1, _), (2, _)]) (.old rfl rfl <| .old rfl rfl <| .nil)
  obtain ⟨g2, e2, hc3⟩ := hk1.ex 3 rfl
  replace hfr1 := hfr1.cons e2
  replace h_p := h_p.mono hle1
  clear hst0 hfr0 hk1
  refine hK1 _ _ ?_; clear hK1
  refine seq_any fun _ hK3 => ?_
  refine rp0 hst1 hfr1 (.cons rfl (ob_callE rfl (.nil) Try.call8 (fun w m hK => by have hle_ := KC.le hK; have hA := KC.agree hK; exact shown_c hA)) <| .cons rfl (ob_assign rfl) <| .nil) ?_
  intro a2 w2 m2 hst2 hle2 hk2
  have hfr2 := hk2.fr (T' := [(1, _), (2, _), (3, _), (7, _)]) (.old rfl rfl <| .old rfl rfl <| .old rfl rfl <| .new rfl <| .nil)
  replace h_p := h_p.mono hle2
  replace hc3 := hc3.mono hle2
  clear hst1 hfr1 hk2
  refine hK3 _ _ ?_; clear hK3
  refine seq_any fun _ hK4 => ?_
  replace hst2 := hst2.more (r := .free) trivial List.nodup_nil (by simp [Res.blocks])
  refine ra0 (tch := [(6, 0, (fun v => .blk v _)), (7, 0, (fun v => .blkx v _ _))]) hst2 hfr2 (.cons rfl (ob_loadS' rfl hc3 Try.isAgg35 Try.sizeOf35 rfl rfl) <| .cons rfl (ob_move rfl) <| .cons rfl (ob_call (φ := MP.partB 2100000) rfl (.cons rfl <| .cons rfl <| .nil) Try.call9 (fun w m hK => by have hle_ := KC.le hK; have hA := KC.agree hK; have h_p := h_p.mono hle_; exact FnG.mono (part_c hA h_p hbo hbc hbd 2100000 hB (by omega)) fun _ _ _ _ h => h)) <| .cons rfl (ob_imgV 19 rfl rfl rfl fun y19 => ob_move rfl) <| .cons rfl (ob_imgV 16 rfl rfl rfl fun y16 => ob_extract rfl rfl) <| .cons rfl (ob_imgV 16 rfl rfl rfl fun y16 => ob_extract rfl rfl) <| .consT rfl rfl (fun _ => rfl) rfl (ob_allocL Try.zeroValue33 rfl) <| .consT rfl rfl (fun _ => rfl) rfl (ob_imgT 8 rfl rfl rfl fun y8 => ob_imgTX 20 rfl rfl rfl fun y20 => ob_storeKF rfl rfl rfl rfl rfl Try.sizeOf33 rfl rfl (fun w m hK => hK.2.1.one)) <| .consA 21 rfl rfl <| .nil) ?_
  intro a3 w3 m3 hst3 hle3 hk3
  have hfr3 := hk3.fr (T' := [(2, _), (3, _), (7, _)]) (.old rfl rfl <| .old rfl rfl <| .old rfl rfl <| .nil)
  obtain ⟨⟨⟨xbt, ybt⟩, qt⟩, e5, _⟩ := hk3.ex 21 rfl
  obtain ⟨g6, e6, _⟩ := hk3.ex 8 rfl
  replace hfr3 := hfr3.cons e6
  replace hfr3 := hfr3.cons (hk3.same 9 rfl e5)
  replace hst3 := hst3.fin (L' := [_]) (.cons e6 <| .cons e6 <| .nil)
  try simp only [List.take_succ_cons, List.take_zero, List.drop_succ_cons, List.drop_zero, List.cons_append, List.nil_append, List.append_nil, List.length_cons, List.length_nil, Nat.zero_add, Nat.reduceAdd] at hst3
  obtain ⟨⟨⟨t, yt⟩, bt⟩, ⟨ht, hst, hct, hbt, hrt⟩, hst3⟩ := hst3.unx (k := 0) rfl (fun _ => rfl)
  replace h_p := h_p.mono hle3
  replace hc3 := hc3.mono hle3
  clear hst2 hfr2 hk3
  dsimp only at ht hst hct hbt hrt
  refine hK4 _ _ ?_; clear hK4
  refine seq_any fun _ hK8 => ?_
  replace hst3 := hst3.more (r := .free) trivial List.nodup_nil (by simp [Res.blocks])
  refine ra0 (tch := [(6, 1, (fun v => .blk v _)), (7, 1, (fun v => .blkx v _ _))]) hst3 hfr3 (.cons rfl (ob_loadS' rfl hc3 Try.isAgg35 Try.sizeOf35 rfl rfl) <| .cons rfl (ob_move rfl) <| .cons rfl (ob_call (φ := MP.partB 2100000) rfl (.cons rfl <| .cons rfl <| .nil) Try.call9 (fun w m hK => by have hle_ := KC.le hK; have hA := KC.agree hK; have h_p := h_p.mono hle_; exact FnG.mono (part_c hA h_p hbo hbc hbd 2100000 hB (by omega)) fun _ _ _ _ h => h)) <| .cons rfl (ob_imgV 25 rfl rfl rfl fun y25 => ob_move rfl) <| .cons rfl (ob_imgV 22 rfl rfl rfl fun y22 => ob_extract rfl rfl) <| .cons rfl (ob_imgV 22 rfl rfl rfl fun y22 => ob_extract rfl rfl) <| .consT rfl rfl (fun _ => rfl) rfl (ob_allocL Try.zeroValue33 rfl) <| .consT rfl rfl (fun _ => rfl) rfl (ob_imgT 10 rfl rfl rfl fun y10 => ob_imgTX 26 rfl rfl rfl fun y26 => ob_storeKF rfl rfl rfl rfl rfl Try.sizeOf33 rfl rfl (fun w m hK => hK.2.1.one)) <| .consA 27 rfl rfl <| .nil) ?_
  intro a4 w4 m4 hst4 hle4 hk4
  have hfr4 := hk4.fr (T' := [(7, _), (8, _), (9, _)]) (.old rfl rfl <| .old rfl rfl <| .old rfl rfl <| .nil)
  obtain ⟨⟨⟨xbu, ybu⟩, qu⟩, e9, _⟩ := hk4.ex 27 rfl
  obtain ⟨g10, e10, _⟩ := hk4.ex 10 rfl
  replace hfr4 := hfr4.cons e10
  replace hfr4 := hfr4.cons (hk4.same 11 rfl e9)
  replace hst4 := hst4.fin (L' := [_, _]) (.cons e10 <| .cons e10 <| .nil)
  try simp only [List.take_succ_cons, List.take_zero, List.drop_succ_cons, List.drop_zero, List.cons_append, List.nil_append, List.append_nil, List.length_cons, List.length_nil, Nat.zero_add, Nat.reduceAdd] at hst4
  obtain ⟨⟨⟨u, yu⟩, bu⟩, ⟨hu, hsu, hcu, hbu, hru⟩, hst4⟩ := hst4.unx (k := 1) rfl (fun _ => rfl)
  replace ht := ht.mono hle4
  clear hst3 hfr3 hk4
  dsimp only at hu hsu hcu hbu hru
  refine hK8 _ _ ?_; clear hK8
  refine seq_any fun _ hK12 => ?_
  refine seq_any fun _ hK13 => ?_
  refine rp0 hst4 hfr4 (.cons rfl (ob_move rfl) <| .cons rfl (ob_not rfl) <| .cons rfl (ob_move rfl) <| .cons rfl (ob_move rfl) <| .cons rfl (ob_not rfl) <| .cons rfl (ob_or rfl rfl rfl) <| .nil) ?_
  intro a5 w5 m5 hst5 hle5 hk5
  have hfr5 := hk5.fr (T' := [(7, _), (8, _), (10, _), (33, _)]) (.old rfl rfl <| .old rfl rfl <| .old rfl rfl <| .new rfl <| .nil)
  replace ht := ht.mono hle5
  replace hu := hu.mono hle5
  clear hst4 hfr4 hk5
  refine hK13 _ _ ?_; clear hK13
  refine cond_any hfr5 rfl rfl (fun hb33 => ?_) (fun hb33 => ?_)
  · try simp only [nq1, nq2, nq3, nq4, nq5, nq6, nq7, nq8, nq9, u8_eq] at hb33
    refine seq_any fun _ hK14 => ?_
    refine rp0 hst5 hfr5 (.cons rfl (ob_move rfl) <| .cons rfl (ob_assign rfl) <| .nil) ?_
    intro a6 w6 m6 hst6 hle6 hk6
    have hfr6 := hk6.fr (T' := [(6, _)]) (.new rfl <| .nil)
    clear hst5 hfr5 hk6
    refine hK14 _ _ ?_; clear hK14
    refine wp_ret ?_
    repeat (with_reducible first | refine then_ret ?_ | refine block_ret ?_)
    exact fn_ret hst6 hfr6 rfl (.tmp rfl <| .nil) (rfl)
  · try simp only [nq1, nq2, nq3, nq4, nq5, nq6, nq7, nq8, nq9, u8_eq] at hb33
    have hcf := count_fun [120] t; have hcl := count_let [120] t u; have hcc := count_call t u
    refine wp_skip ?_
    refine hK12 _ _ ?_; clear hK12
    refine seq_any fun _ hK16 => ?_
    refine region_cut 3 (by kernel_rfl) ?_
    refine ops_seq (tch := []) hst5 hfr5 (by kernel_rfl) (by kernel_rfl) (by kernel_rfl) (.cons rfl (ob_loadLA (j := 0) rfl rfl Try.isAgg33 Try.sizeOf33 rfl) <| .cons rfl (ob_buildSlice1 rfl Try.underlying24 Try.sizeOf33 Try.zeroValue33 rfl rfl rfl rfl) <| .cons rfl (ob_imgV 36 rfl rfl rfl fun y36 => ob_buildS (.cons rfl <| .cons rfl <| .cons rfl <| .nil) Try.underlying33 Try.zeroValue33 (.cons Try.sizeOf3 <| .cons Try.sizeOf3 <| .cons Try.sizeOf9 <| .cons Try.sizeOf9 <| .cons Try.sizeOf3 <| .cons Try.sizeOf24 <| .cons Try.sizeOf25 <| .cons Try.sizeOf31 <| .cons Try.sizeOf29 <| .cons Try.sizeOf31 <| .nil) rfl) <| .nil) ?_
    intro a6 w6 m6 hst6 hle6 hk6
    have hfr6 := hk6.fr (T' := [(7, _), (8, _), (10, _)]) (.old rfl rfl <| .old rfl rfl <| .old rfl rfl <| .nil)
    obtain ⟨g37, e17, h37⟩ := hk6.ex 37 rfl
    replace hfr6 := hfr6.cons e17
    replace ht := ht.mono hle6
    replace hu := hu.mono hle6
    clear hst5 hfr5 hk6
    have hfn := fun_R (s := [120]) h37 ht
    replace hst6 := hst6.more (r := .free) trivial List.nodup_nil (by simp [Res.blocks])
    refine ops_seq (tch := [(0, 2, (fun v => .blk v _)), (1, 2, (fun v => .blk v _))]) hst6 hfr6 (by kernel_rfl) (by kernel_rfl) (by kernel_rfl) (.consT rfl rfl (fun _ => rfl) rfl (ob_allocL Try.zeroValue33 rfl) <| .consT rfl rfl (fun _ => rfl) rfl (ob_imgT 12 rfl rfl rfl fun y12 => ob_storeF rfl rfl rfl rfl rfl Try.sizeOf33 rfl rfl hfn.one) <| .nil) ?_
    intro a7 w7 m7 hst7 hle7 hk7
    have hfr7 := hk7.fr (T' := [(7, _), (8, _), (10, _), (37, _)]) (.old rfl rfl <| .old rfl rfl <| .old rfl rfl <| .old rfl rfl <| .nil)
    obtain ⟨g18, e18, _⟩ := hk7.ex 12 rfl
    replace hfr7 := hfr7.cons e18
    replace hst7 := hst7.fin (L' := [_, _, _]) (.cons e18 <| .cons e18 <| .nil)
    try simp only [List.take_succ_cons, List.take_zero, List.drop_succ_cons, List.drop_zero, List.cons_append, List.nil_append, List.append_nil, List.length_cons, List.length_nil, Nat.zero_add, Nat.reduceAdd] at hst7
    replace ht := ht.mono hle7
    replace hu := hu.mono hle7
    replace hfn := hfn.mono hle7
    clear hst6 hfr6 hk7
    refine hK16 _ _ ?_; clear hK16
    refine seq_any fun _ hK19 => ?_
    refine region_cut 4 (by kernel_rfl) ?_
    refine ops_seq (tch := []) hst7 hfr7 (by kernel_rfl) (by kernel_rfl) (by kernel_rfl) (.cons rfl (ob_loadLA (j := 0) rfl rfl Try.isAgg33 Try.sizeOf33 rfl) <| .cons rfl (ob_loadLA (j := 1) rfl rfl Try.isAgg33 Try.sizeOf33 rfl) <| .cons rfl (ob_buildSlice2 rfl rfl Try.underlying24 Try.sizeOf33 Try.zeroValue33 rfl rfl rfl rfl rfl) <| .cons rfl (ob_imgV 40 rfl rfl rfl fun y40 => ob_buildS (.cons rfl <| .cons rfl <| .cons rfl <| .nil) Try.underlying33 Try.zeroValue33 (.cons Try.sizeOf3 <| .cons Try.sizeOf3 <| .cons Try.sizeOf9 <| .cons Try.sizeOf9 <| .cons Try.sizeOf3 <| .cons Try.sizeOf24 <| .cons Try.sizeOf25 <| .cons Try.sizeOf31 <| .cons Try.sizeOf29 <| .cons Try.sizeOf31 <| .nil) rfl) <| .nil) ?_
    intro a8 w8 m8 hst8 hle8 hk8
    have hfr8 := hk8.fr (T' := [(7, _), (8, _), (10, _), (37, _), (12, _)]) (.old rfl rfl <| .old rfl rfl <| .old rfl rfl <| .old rfl rfl <| .old rfl rfl <| .nil)
    obtain ⟨g41, e20, h41⟩ := hk8.ex 41 rfl
    replace hfr8 := hfr8.cons e20
    replace ht := ht.mono hle8
    replace hu := hu.mono hle8
    replace hfn := hfn.mono hle8
    clear hst7 hfr7 hk8
    have hln := let_R (s := [120]) h41 ht hu
    replace hst8 := hst8.more (r := .free) trivial List.nodup_nil (by simp [Res.blocks])
    refine ops_seq (tch := [(0, 3, (fun v => .blk v _)), (1, 3, (fun v => .blk v _))]) hst8 hfr8 (by kernel_rfl) (by kernel_rfl) (by kernel_rfl) (.consT rfl rfl (fun _ => rfl) rfl (ob_allocL Try.zeroValue33 rfl) <| .consT rfl rfl (fun _ => rfl) rfl (ob_imgT 13 rfl rfl rfl fun y13 => ob_storeF rfl rfl rfl rfl rfl Try.sizeOf33 rfl rfl hln.one) <| .nil) ?_
    intro a9 w9 m9 hst9 hle9 hk9
    have hfr9 := hk9.fr (T' := [(7, _), (8, _), (10, _), (37, _), (12, _), (41, _)]) (.old rfl rfl <| .old rfl rfl <| .old rfl rfl <| .old rfl rfl <| .old rfl rfl <| .old rfl rfl <| .nil)
    obtain ⟨g21, e21, _⟩ := hk9.ex 13 rfl
    replace hfr9 := hfr9.cons e21
    replace hst9 := hst9.fin (L' := [_, _, _, _]) (.cons e21 <| .cons e21 <| .nil)
    try simp only [List.take_succ_cons, List.take_zero, List.drop_succ_cons, List.drop_zero, List.cons_append, List.nil_append, List.append_nil, List.length_cons, List.length_nil, Nat.zero_add, Nat.reduceAdd] at hst9
    replace ht := ht.mono hle9
    replace hu := hu.mono hle9
    replace hfn := hfn.mono hle9
    replace hln := hln.mono hle9
    clear hst8 hfr8 hk9
    refine hK19 _ _ ?_; clear hK19
    refine seq_any fun _ hK22 => ?_
    replace hst9 := hst9.more (r := .free) trivial List.nodup_nil (by simp [Res.blocks])
    refine ra0 (tch := [(3, 4, (fun v => .blk v _)), (4, 4, (fun v => .blkx v _ _))]) hst9 hfr9 (.cons rfl (ob_loadLA (j := 0) rfl rfl Try.isAgg33 Try.sizeOf33 rfl) <| .cons rfl (ob_loadLA (j := 1) rfl rfl Try.isAgg33 Try.sizeOf33 rfl) <| .cons rfl (ob_call (φ := MP.tm (callT t u)) rfl (.cons rfl <| .cons rfl <| .nil) Try.call10 (fun w m hK => by have hle_ := KC.le hK; have hA := KC.agree hK; have ht := ht.mono hle_; have hu := hu.mono hle_; exact FnG.mono (call_c (f := t) (a := u) hA ht hu) fun _ _ _ _ h => h)) <| .consT rfl rfl (fun _ => rfl) rfl (ob_allocL Try.zeroValue33 rfl) <| .consT rfl rfl (fun _ => rfl) rfl (ob_imgT 14 rfl rfl rfl fun y14 => ob_imgTX 44 rfl rfl rfl fun y44 => ob_storeKF rfl rfl rfl rfl rfl Try.sizeOf33 rfl rfl (fun w m hK => hK.2.one)) <| .nil) ?_
    intro a10 w10 m10 hst10 hle10 hk10
    have hfr10 := hk10.fr (T' := [(7, _), (8, _), (10, _), (12, _), (13, _)]) (.old rfl rfl <| .old rfl rfl <| .old rfl rfl <| .old rfl rfl <| .old rfl rfl <| .nil)
    obtain ⟨g23, e23, _⟩ := hk10.ex 14 rfl
    replace hfr10 := hfr10.cons e23
    replace hst10 := hst10.fin (L' := [_, _, _, _, _]) (.cons e23 <| .cons e23 <| .nil)
    try simp only [List.take_succ_cons, List.take_zero, List.drop_succ_cons, List.drop_zero, List.cons_append, List.nil_append, List.append_nil, List.length_cons, List.length_nil, Nat.zero_add, Nat.reduceAdd] at hst10
    obtain ⟨yc, hcl9, hst10⟩ := hst10.unx (k := 4) rfl (fun _ => rfl)
    replace ht := ht.mono hle10
    replace hu := hu.mono hle10
    replace hfn := hfn.mono hle10
    replace hln := hln.mono hle10
    clear hst9 hfr9 hk10
    refine hK22 _ _ ?_; clear hK22
    refine seq_any fun _ hK25 => ?_
    refine region_plain (fun _ => mixed) hst10 hfr10 (by kernel_rfl) (by kernel_rfl) (.cons rfl (ob_move rfl) <| .cons rfl (ob_move rfl) <| .cons rfl (ob_loadLA (j := 0) rfl rfl Try.isAgg33 Try.sizeOf33 rfl) <| .cons rfl (ob_callE rfl (.cons rfl <| .nil) Try.call21 (fun w m hK => by have hle_ := KC.le hK; have hA := KC.agree hK; have ht := ht.mono hle_; exact value_c (t) hA ht)) <| .cons rfl (ob_not rfl) <| .cons rfl (ob_move rfl) <| .cons rfl (ob_loadLA (j := 0) rfl rfl Try.isAgg33 Try.sizeOf33 rfl) <| .cons rfl (ob_callE rfl (.cons rfl <| .nil) Try.call23 (fun w m hK => by have hle_ := KC.le hK; have hA := KC.agree hK; have ht := ht.mono hle_; exact plain_c (t) hA ht (by omega))) <| .cons rfl (ob_or rfl rfl rfl) <| .cons rfl (ob_and rfl rfl rfl) <| .cons rfl (ob_move rfl) <| .cons rfl (ob_loadLA (j := 2) rfl rfl Try.isAgg33 Try.sizeOf33 rfl) <| .cons rfl (ob_callE rfl (.cons rfl <| .nil) Try.call21 (fun w m hK => by have hle_ := KC.le hK; have hA := KC.agree hK; have hfn := hfn.mono hle_; exact value_c ((funT [120] t)) hA hfn)) <| .cons rfl (ob_and rfl rfl rfl) <| .cons rfl (ob_move rfl) <| .cons rfl (ob_loadLA (j := 2) rfl rfl Try.isAgg33 Try.sizeOf33 rfl) <| .cons rfl (ob_callE rfl (.cons rfl <| .nil) Try.call23 (fun w m hK => by have hle_ := KC.le hK; have hA := KC.agree hK; have hfn := hfn.mono hle_; exact plain_c ((funT [120] t)) hA hfn (by omega))) <| .cons rfl (ob_and rfl rfl rfl) <| .cons rfl (ob_move rfl) <| .cons rfl (ob_loadLA (j := 4) rfl rfl Try.isAgg33 Try.sizeOf33 rfl) <| .cons rfl (ob_callE rfl (.cons rfl <| .nil) Try.call21 (fun w m hK => by have hle_ := KC.le hK; have hA := KC.agree hK; have hcl9 := hcl9.mono hle_; exact value_c ((callT t u)) hA hcl9)) <| .cons rfl (ob_not rfl) <| .cons rfl (ob_and rfl rfl rfl) <| .cons rfl (ob_move rfl) <| .cons rfl (ob_loadLA (j := 4) rfl rfl Try.isAgg33 Try.sizeOf33 rfl) <| .cons rfl (ob_callE rfl (.cons rfl <| .nil) Try.call23 (fun w m hK => by have hle_ := KC.le hK; have hA := KC.agree hK; have hcl9 := hcl9.mono hle_; exact plain_c ((callT t u)) hA hcl9 (by omega))) <| .cons rfl (ob_not rfl) <| .cons rfl (ob_and rfl rfl rfl) <| .cons rfl (ob_move rfl) <| .cons rfl (ob_loadLA (j := 3) rfl rfl Try.isAgg33 Try.sizeOf33 rfl) <| .cons rfl (ob_callE rfl (.cons rfl <| .nil) Try.call23 (fun w m hK => by have hle_ := KC.le hK; have hA := KC.agree hK; have hln := hln.mono hle_; exact plain_c ((letT [120] t u)) hA hln (by omega))) <| .cons rfl (ob_loadLA (j := 0) rfl rfl Try.isAgg33 Try.sizeOf33 rfl) <| .cons rfl (ob_callE rfl (.cons rfl <| .nil) Try.call23 (fun w m hK => by have hle_ := KC.le hK; have hA := KC.agree hK; have ht := ht.mono hle_; exact plain_c (t) hA ht (by omega))) <| .cons rfl (ob_move rfl) <| .cons rfl (ob_loadLA (j := 1) rfl rfl Try.isAgg33 Try.sizeOf33 rfl) <| .cons rfl (ob_callE rfl (.cons rfl <| .nil) Try.call23 (fun w m hK => by have hle_ := KC.le hK; have hA := KC.agree hK; have hu := hu.mono hle_; exact plain_c (u) hA hu (by omega))) <| .cons rfl (ob_and rfl rfl rfl) <| .cons rfl (ob_beql rfl rfl Try.underlying4) <| .cons rfl (ob_and rfl rfl rfl) <| .cons rfl (ob_move rfl) <| .cons rfl (ob_loadLA (j := 0) rfl rfl Try.isAgg33 Try.sizeOf33 rfl) <| .cons rfl (ob_callE rfl (.cons rfl <| .nil) Try.call23 (fun w m hK => by have hle_ := KC.le hK; have hA := KC.agree hK; have ht := ht.mono hle_; exact plain_c (t) hA ht (by omega))) <| .cons rfl (ob_not rfl) <| .cons rfl (ob_move rfl) <| .cons rfl (ob_loadLA (j := 0) rfl rfl Try.isAgg33 Try.sizeOf33 rfl) <| .cons rfl (ob_callE rfl (.cons rfl <| .nil) Try.call25 (fun w m hK => by have hle_ := KC.le hK; have hA := KC.agree hK; have ht := ht.mono hle_; exact quiet_c (t := t) hA ht (by omega))) <| .cons rfl (ob_or rfl rfl rfl) <| .cons rfl (ob_and rfl rfl rfl) <| .cons rfl (ob_assign rfl) <| .nil) ?_
    intro a11 w11 m11 hst11 hle11 hk11
    have hfr11 := hk11.fr (T' := [(6, _)]) (.new rfl <| .nil)
    clear hst10 hfr10 hk11
    refine hK25 _ _ ?_; clear hK25
    refine wp_ret ?_
    repeat (with_reducible first | refine then_ret ?_ | refine block_ret ?_)
    exact fn_ret hst11 hfr11 rfl (.tmp rfl <| .nil) (by refine congrArg Value.bool ?_; exact plain_law t u (hrt.elim value_plain (fun e => by subst e; intro h; cases h)))

end Go.Proofs.Ytppmbhjacjmfkaa
