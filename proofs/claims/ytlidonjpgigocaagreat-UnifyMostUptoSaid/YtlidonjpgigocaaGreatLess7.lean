/-
  What the laws of unify have of their own: what is shown in any case, what is small; a label less, as the reference has it. Conditions: those of each theorem.
-/
import Derived.Test.YtlidonjpgigocaaGreatUnify7
namespace Go.Proofs.YtlidonjpgigocaaGreat
set_option linter.all false
set_option maxRecDepth 4000
open Go.RowKit
set_option maxHeartbeats 1600000 in
theorem lessR_c {w : World} {m : Mem} {r : Rw} {vs_r : List Value} {s : Str} (hA : Agree w m) (h_r : RwR m r vs_r) (hbig : r.labels.length ≤ 1000000000) : FnV Tryz.prog 28 #[.agg vs_r.toArray, S s] w m (fun _ m v => (MP.rwb ⟨r.labels.erase s, r.var⟩ (decide (s ∈ r.labels))).p m v) := by
  obtain ⟨o_r, c_r, rfl, hs_r, hr_r⟩ := h_r.open_
  have hbs_r := hs_r.big; have hcs_r := hs_r.cap
  refine fn_enter (vs := [_, _]) Tryz.func28 rfl rfl rfl fun a0 hfr0 => ?_
  have hst0 := st_enter hA (loc_nil [] _ w m)
  have hM : MLe m m := MLe.refl m
  refine seq_any fun _ hK1 => ?_
  replace hst0 := hst0.more (r := .free) trivial List.nodup_nil (by simp [Res.blocks])
  refine ra0 (tch := [(1, 0, (fun v => .blk v _))]) hst0 hfr0 (.cons rfl (ob_box rfl rfl) <| .consT rfl rfl (fun _ => rfl) rfl (ob_allocL Tryz.zeroValue43 rfl) <| .cons rfl (ob_assign rfl) <| .nil) ?_
  intro a1 w1 m1 hst1 hle1 hk1
  have hfr1 := hk1.fr (T' := [(1, _)]) (.old rfl rfl <| .nil)
  obtain ⟨g2, e2, hc2⟩ := hk1.ex 2 rfl
  replace hfr1 := hfr1.cons e2
  obtain ⟨gO, e3, _⟩ := hk1.ex 4 rfl
  replace hfr1 := hfr1.cons e3
  replace hst1 := hst1.fin (L' := [_]) (.cons e3 <| .nil)
  replace h_r := h_r.mono hle1
  replace hs_r := hs_r.mono hle1
  clear hst0 hfr0 hk1
  refine hK1 _ _ ?_; clear hK1
  refine seq_any fun _ hK4 => ?_
  refine seq_any fun _ hK5 => ?_
  refine rp0 hst1 hfr1 (.cons rfl (ob_assign rfl) <| .nil) ?_
  intro a2 w2 m2 hst2 hle2 hk2
  have hfr2 := hk2.fr (T' := [(1, _), (2, _), (4, _), (6, _)]) (.old rfl rfl <| .old rfl rfl <| .old rfl rfl <| .new rfl <| .nil)
  replace h_r := h_r.mono hle2
  replace hs_r := hs_r.mono hle2
  replace hc2 := hc2.mono hle2
  clear hst1 hfr1 hk2
  refine hK5 _ _ ?_; clear hK5
  refine wp_block ?_
  refine loop_any (T := [(1, _), (2, _), (4, _)]) (fun (y : Nat) => ([(6, .int .i64 (y : Int))] : List (Nat × Value))) (fun _ => _) (fun (y : Nat) m => (y ≤ r.labels.length) ∧ (r.labels.erase s = r.labels.take y ++ (r.labels.drop y).erase s) ∧ (decide (s ∈ r.labels) = decide (s ∈ r.labels.drop y))) (fun y => r.labels.length - y) (0) ⟨hst2, MLe.refl _, hfr2.sub (.cons rfl <| .cons rfl <| .cons rfl <| .cons rfl <| .nil), ⟨Nat.zero_le _, rfl, rfl⟩⟩ fun y a3 w3 m3 hh3 => ?_
  have hst3 := hh3.st; have hle3 := hh3.le; have hfr3 := hh3.fr; have hrel := hh3.rel; clear hh3
  replace h_r := h_r.mono hle3
  replace hs_r := hs_r.mono hle3
  replace hc2 := hc2.mono hle3
  clear hst2 hfr2
  obtain ⟨hyn, hJe, hJm⟩ := hrel
  have hlh3 := hle3
  refine seq_any fun _ hK7 => ?_
  refine seq_any fun _ hK8 => ?_
  refine rp0 hst3 hfr3 (.cons rfl (ob_move rfl) <| .cons rfl (ob_fieldAddrO (off := 0) rfl Tryz.underlying43 rfl rfl Tryz.sizeOf41 rfl) <| .cons rfl (ob_load1 rfl hc2 Tryz.isAgg41 rfl) <| .cons rfl (ob_len rfl Tryz.underlying41) <| .cons rfl (ob_lss rfl rfl) <| .nil) ?_
  intro a4 w4 m4 hst4 hle4 hk4
  have hfr4 := hk4.fr (T' := [(6, _), (1, _), (2, _), (4, _), (11, _)]) (.old rfl rfl <| .old rfl rfl <| .old rfl rfl <| .old rfl rfl <| .new rfl <| .nil)
  replace h_r := h_r.mono hle4
  replace hs_r := hs_r.mono hle4
  replace hc2 := hc2.mono hle4
  have hlh4 := hlh3.trans hle4
  clear hst3 hfr3 hk4
  refine hK8 _ _ ?_; clear hK8
  refine cond_any hfr4 rfl rfl (fun hb11 => ?_) (fun hb11 => ?_)
  · try simp only [nq1, nq2, nq3, nq4, nq5, nq6, nq7, nq8, nq9, u8_eq] at hb11
    refine wp_skip ?_
    refine hK7 _ _ ?_; clear hK7
    refine seq_any fun _ hK9 => ?_
    refine wp_block ?_
    refine seq_any fun _ hK10 => ?_
    obtain ⟨p11, vs11, x11, ho11, hd11, hm_x11, ht11, hcv11, hl11, hv11⟩ := hs_r.nth (k := y) (by omega)
    cases ho11
    subst hv11
    refine rp0 hst4 hfr4 (.cons rfl (ob_fieldAddrO (off := 0) rfl Tryz.underlying43 rfl rfl Tryz.sizeOf41 rfl) <| .cons rfl (ob_load1 rfl hc2 Tryz.isAgg41 rfl) <| .cons rfl (ob_move rfl) <| .cons rfl (ob_indexAddr (k := y) rfl rfl Tryz.underlying41 Tryz.sizeOf9 rfl (by omega)) <| .cons rfl (ob_load1' rfl hcv11 Tryz.isAgg9 rfl) <| .cons rfl (ob_move rfl) <| .cons rfl (ob_seql rfl rfl) <| .nil) ?_
    intro a5 w5 m5 hst5 hle5 hk5
    have hfr5 := hk5.fr (T' := [(6, _), (1, _), (2, _), (4, _), (20, _)]) (.old rfl rfl <| .old rfl rfl <| .old rfl rfl <| .old rfl rfl <| .new rfl <| .nil)
    replace hs_r := hs_r.mono hle5
    replace hc2 := hc2.mono hle5
    have hlh5 := hlh4.trans hle5
    clear hst4 hfr4 hk5
    refine hK10 _ _ ?_; clear hK10
    refine cond_any hfr5 rfl rfl (fun hb20 => ?_) (fun hb20 => ?_)
    · try simp only [nq1, nq2, nq3, nq4, nq5, nq6, nq7, nq8, nq9, u8_eq] at hb20
      subst hb20
      rw [hd11, List.erase_cons_head] at hJe
      have hin9 : decide (x11 ∈ r.labels) = true := decide_eq_true hm_x11
      have hle9 : (((r.labels.take y).drop 0) ++ ((r.labels.take r.labels.length).drop (y + 1))) = r.labels.erase x11 := by rw [hJe]; simp
      have hlen9 : 0 + (y - 0) + (r.labels.length - (y + 1)) = (r.labels.erase x11).length := by rw [← hle9, List.length_append, List.length_drop, List.length_drop, List.length_take, List.length_take]; omega
      have hll9 : (r.labels.erase x11).length ≤ r.labels.length := List.length_erase_le
      refine seq_any fun _ hK12 => ?_
      have hcp9 := hs_r.cap
      have hct13 : Strs _ _ _ _ ((r.labels.take (y)).drop (0)) := hs_r.cut (l := 0) (k := y) (by omega) (by omega)
      have hcl13 : (y) - (0) = (((r.labels.take (y)).drop (0))).length := hct13.len.symm
      have hcu13 : Strs _ _ _ _ ((r.labels.take (y)).drop (0)) := hct13.lenL
      obtain ⟨cs_14, hrw_14, hrd_14, hcl_14⟩ := hct13.reads
      have hct15 : Strs _ _ _ _ ((r.labels.take (r.labels.length)).drop (y + 1)) := hs_r.cut (l := y + 1) (k := r.labels.length) (by omega) (by omega)
      have hcl15 : (r.labels.length) - (y + 1) = (((r.labels.take (r.labels.length)).drop (y + 1))).length := hct15.len.symm
      have hcu15 : Strs _ _ _ _ ((r.labels.take (r.labels.length)).drop (y + 1)) := hct15.lenL
      obtain ⟨cs_16, hrw_16, hrd_16, hcl_16⟩ := hct15.reads
      replace hst5 := hst5.more (r := .free) trivial List.nodup_nil (by simp [Res.blocks])
      refine region_any (tch := [(5, 1, (fun v => .row (nz v) _ _ _ _)), (11, 1, (fun v => .row (nz v) _ _ _ _)), (15, 0, (fun _ => .blkx _ _ _))]) (fun _ => mixed) hst5 hfr5 (by kernel_rfl) (by kernel_rfl) (by kernel_rfl) (.cons rfl (ob_buildSlice0 Tryz.underlying41 Tryz.sizeOf9) <| .cons rfl (ob_fieldAddrO (off := 0) rfl Tryz.underlying43 rfl rfl Tryz.sizeOf41 rfl) <| .cons rfl (ob_load1 rfl hc2 Tryz.isAgg41 rfl) <| .cons rfl (ob_move rfl) <| .cons rfl (ob_slice (l := 0) (h := y) rfl .none (.some rfl (by omega)) Tryz.underlying41 Tryz.sizeOf9 (by first | omega | (dsimp only; omega)) (by first | omega | (dsimp only; omega))) <| .consT rfl rfl (fun _ => rfl) rfl (ob_imgT 21 rfl rfl rfl fun y21 => ob_appendZ (size := 1) (bytes := 16) rfl rfl (fun _ => .inr ⟨rfl, rfl, rfl, rfl⟩) Tryz.underlying41 Tryz.type9 rfl rfl rfl rfl (fun w m hK => hrw_14.mono (KC.le hK)) hcl_14 (by decide) hrd_14.one (by simp only [maxLen]; omega) (by omega)) <| .cons rfl (ob_fieldAddrO (off := 0) rfl Tryz.underlying43 rfl rfl Tryz.sizeOf41 rfl) <| .cons rfl (ob_load1 rfl hc2 Tryz.isAgg41 rfl) <| .cons rfl (ob_move rfl) <| .cons rfl (ob_add rfl rfl ⟨by omega, by omega⟩) <| .cons rfl (ob_slice (l := y + 1) (h := r.labels.length) rfl (.some rfl (by omega)) .none Tryz.underlying41 Tryz.sizeOf9 (by first | omega | (dsimp only; omega)) (by first | omega | (dsimp only; omega))) <| .consT rfl rfl (fun _ => rfl) rfl (ob_imgT 26 rfl rfl rfl fun y26 => ob_appendZ (size := 1) (bytes := 16) rfl rfl (fun _ => .inl rfl) Tryz.underlying41 Tryz.type9 rfl rfl rfl rfl (fun w m hK => hrw_16.mono (KC.le hK)) hcl_16 (by decide) hrd_16.one (by simp only [maxLen]; omega) (by omega)) <| .cons rfl (ob_fieldAddrO (off := 1) rfl Tryz.underlying43 rfl rfl Tryz.sizeOf3 rfl) <| .cons rfl (ob_load1 rfl hc2 Tryz.isAgg3 rfl) <| .cons rfl (ob_imgV 32 rfl rfl rfl fun y32 => ob_buildS (.cons rfl <| .cons rfl <| .nil) Tryz.underlying43 Tryz.zeroValue43 (.cons Tryz.sizeOf41 <| .cons Tryz.sizeOf3 <| .nil) rfl) <| .consT rfl rfl (fun _ => rfl) rfl (ob_imgTX 35 rfl rfl rfl fun y35 => ob_store' rfl rfl rfl Tryz.sizeOf43 rfl rfl rfl) <| .cons rfl (ob_assign rfl) <| .nil) ?_
      intro a6 w6 m6 hst6 hle6 hk6
      have hfr6 := hk6.fr (T' := [(6, _), (4, _), (5, _)]) (.old rfl rfl <| .old rfl rfl <| .new rfl <| .nil)
      obtain ⟨⟨oz14, cz14⟩, e17, hrz14, hcz14⟩ := hk6.ex 26 rfl
      replace e17 : envOf a6 26 = .slice oz14 (((r.labels.take (y)).drop (0))).length cz14 := by rw [e17]; refine congrArg (fun q => Value.slice _ q _) ?_; first | omega | (simp only [List.length_append, List.length_cons, List.length_nil, List.nil_append, List.length_take, List.length_drop]; try omega)
      obtain ⟨⟨oz16, cz16⟩, e18, hrz16, hcz16⟩ := hk6.ex 32 rfl
      replace e18 : envOf a6 32 = .slice oz16 ((((r.labels.take (y)).drop (0)) ++ ((r.labels.take (r.labels.length)).drop (y + 1)))).length cz16 := by rw [e18]; refine congrArg (fun q => Value.slice _ q _) ?_; first | omega | (simp only [List.length_append, List.length_cons, List.length_nil, List.nil_append, List.length_take, List.length_drop]; try omega)
      replace hst6 := hst6.fin (L' := [_, _]) (.cons e17 <| .cons e18 <| .cons rfl <| .nil)
      try simp only [List.take_succ_cons, List.take_zero, List.drop_succ_cons, List.drop_zero, List.cons_append, List.nil_append, List.append_nil, List.length_cons, List.length_nil, Nat.zero_add, Nat.reduceAdd] at hst6
      obtain ⟨⟨oU, cU⟩, ⟨hrU, hcU⟩, hst6⟩ := hst6.unx (k := 0) rfl (fun _ => rfl)
      replace hrd_14 := hrd_14.mono hle6
      replace hrd_16 := hrd_16.mono hle6
      have hlh6 := hlh5.trans hle6
      clear hst5 hfr5 hk6
      have hsz16 : Strs m6 oz16 ((((r.labels.take (y)).drop (0)) ++ ((r.labels.take (r.labels.length)).drop (y + 1)))).length cz16 (((r.labels.take (y)).drop (0)) ++ ((r.labels.take (r.labels.length)).drop (y + 1))) := Reads.sl ((Reads.nil.app hrd_14).app hrd_16) hrz16 (by decide) rfl (by have h := hcz16; first | omega | (simp only [List.length_append, List.length_cons, List.length_nil, List.nil_append, List.length_take, List.length_drop] at h ⊢; omega)) (by first | omega | (simp only [List.length_append, List.length_cons, List.length_nil, List.nil_append, List.length_take, List.length_drop]; omega))
      have hsU := Reads.sl ((Reads.nil.app hrd_14).app hrd_16) hrU (by decide) (by rw [List.nil_append, hle9]) (by rw [← hlen9]; exact hcU) (by omega)
      rw [List.nil_append, hle9] at hsU
      refine hK12 _ _ ?_; clear hK12
      refine wp_ret ?_
      repeat (with_reducible first | refine then_ret ?_ | refine block_ret ?_)
      exact fn_ret hst6 hfr6 rfl (.cell rfl (load_blk (blk_heap (hst6.loc.at_ (k := 0) rfl)) Tryz.isAgg43 Tryz.sizeOf43) <| .tmp rfl <| .nil) (⟨(oU, cU), by rw [hin9]; exact congrArg (fun n => Value.tuple #[.agg #[.slice oU n cU, .int .i64 r.var], .bool true]) hlen9, ⟨_, _, rfl, hsU, hr_r⟩⟩)
    · try simp only [nq1, nq2, nq3, nq4, nq5, nq6, nq7, nq8, nq9, u8_eq] at hb20
      refine wp_skip ?_
      refine hK9 _ _ ?_; clear hK9
      refine rp0 hst5 hfr5 (.cons rfl (ob_move rfl) <| .cons rfl (ob_add rfl rfl ⟨by omega, by omega⟩) <| .cons rfl (ob_assign rfl) <| .nil) ?_
      intro a6 w6 m6 hst6 hle6 hk6
      have hfr6 := hk6.fr (T' := [(1, _), (2, _), (4, _), (6, _)]) (.old rfl rfl <| .old rfl rfl <| .old rfl rfl <| .new rfl <| .nil)
      have hlh6 := hlh5.trans hle6
      clear hst5 hfr5 hk6
      exact ⟨y + 1, m6, by show r.labels.length - (y + 1) < r.labels.length - y; omega, ⟨hst6, hlh6, hfr6.sub (.cons rfl <| .cons rfl <| .cons rfl <| .cons rfl <| .nil), ⟨by show y + 1 ≤ r.labels.length; omega, by rw [hJe, hd11, ht11, List.erase_cons_tail (by simpa using hb20)]; simp, by rw [hJm, hd11, decide_eq_decide, List.mem_cons]; exact ⟨fun h => h.resolve_left fun e => hb20 e.symm, .inr⟩⟩⟩⟩
  · try simp only [nq1, nq2, nq3, nq4, nq5, nq6, nq7, nq8, nq9, u8_eq] at hb11
    have hge : y = r.labels.length := by omega
    rw [List.drop_of_length_le (by omega)] at hJe hJm
    rw [List.take_of_length_le (by omega), List.erase_nil, List.append_nil] at hJe
    have hno : decide (s ∈ r.labels) = false := by rw [hJm]; exact decide_eq_false (by simp)
    refine wp_exit ?_
    refine hK4 _ _ ?_; clear hK4
    refine seq_any fun _ hK21 => ?_
    refine ra0 (tch := [(1, 0, (fun _ => .blk _ _))]) hst4 hfr4 (.cons rfl (ob_loadS' rfl hc2 Tryz.isAgg43 Tryz.sizeOf43 rfl rfl) <| .consT rfl rfl (fun _ => rfl) rfl (ob_store' rfl rfl rfl Tryz.sizeOf43 rfl rfl rfl) <| .cons rfl (ob_assign rfl) <| .nil) ?_
    intro a5 w5 m5 hst5 hle5 hk5
    have hfr5 := hk5.fr (T' := [(6, _), (4, _), (5, _)]) (.old rfl rfl <| .old rfl rfl <| .new rfl <| .nil)
    replace hst5 := hst5.fin (L' := [_]) (.cons rfl <| .nil)
    try simp only [List.take_succ_cons, List.take_zero, List.drop_succ_cons, List.drop_zero, List.cons_append, List.nil_append, List.append_nil, List.length_cons, List.length_nil, Nat.zero_add, Nat.reduceAdd] at hst5
    replace h_r := h_r.mono hle5
    have hlh5 := hlh4.trans hle5
    clear hst4 hfr4 hk5
    refine hK21 _ _ ?_; clear hK21
    refine wp_ret ?_
    repeat (with_reducible first | refine then_ret ?_ | refine block_ret ?_)
    exact fn_ret hst5 hfr5 rfl (.cell rfl (load_blk (blk_heap (hst5.loc.at_ (k := 0) rfl)) Tryz.isAgg43 Tryz.sizeOf43) <| .tmp rfl <| .nil) (⟨(o_r, c_r), by rw [hJe, hno]; rfl, by rw [hJe]; exact h_r⟩)

end Go.Proofs.YtlidonjpgigocaaGreat
