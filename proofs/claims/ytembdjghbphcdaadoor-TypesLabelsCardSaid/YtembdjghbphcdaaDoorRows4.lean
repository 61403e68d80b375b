/-
  Package types: rows in order, a label more, a label less. Conditions: those of each theorem.
-/
import Derived.Test.YtembdjghbphcdaaDoorSort1
import Derived.Test.YtembdjghbphcdaaDoorShown1
import Derived.Test.YtembdjghbphcdaaDoorTyapp
namespace Go.Proofs.YtembdjghbphcdaaDoor
set_option linter.all false
set_option maxRecDepth 4000
open Go.RowKit
def MP.rw (r : Rw) : MP := MP.mem (fun y : Option Addr × Nat => .agg #[.slice y.1 r.labels.length y.2, .int .i64 r.var]) (fun y m => RwR m r [.slice y.1 r.labels.length y.2, .int .i64 r.var]) fun hm h => h.mono hm
def MP.rwb (r : Rw) (b : Bool) : MP := MP.mem (fun y : Option Addr × Nat => .tuple #[.agg #[.slice y.1 r.labels.length y.2, .int .i64 r.var], .bool b]) (fun y m => RwR m r [.slice y.1 r.labels.length y.2, .int .i64 r.var]) fun hm h => h.mono hm
set_option maxHeartbeats 400000 in
theorem sorted_c {w : World} {m : Mem} {r : Rw} {vs_r : List Value} (hA : Agree w m) (h_r : RwR m r vs_r) (hbig : r.labels.length ≤ 1073741824) : FnV Tryd.prog 25 #[.agg vs_r.toArray] w m (fun _ m v => (MP.rw ⟨sortS r.labels, r.var⟩).p m v) := by
  obtain ⟨o_r, c_r, rfl, hs_r, hr_r⟩ := h_r.open_
  have hbs_r := hs_r.big; have hcs_r := hs_r.cap
  refine fn_enter (vs := [_]) Tryd.func25 rfl rfl rfl fun a0 hfr0 => ?_
  have hst0 := st_enter hA (loc_nil [] _ w m)
  have hM : MLe m m := MLe.refl m
  have hsl := sortS_len r.labels
  refine seq_any fun K1 hK1 => ?_
  replace hst0 := hst0.more (r := .free) trivial List.nodup_nil (by simp [Res.blocks])
  refine region_any (tch := [(1, 0, (fun v => .blk v _))]) (fun h => by cases h) hst0 hfr0 (by kernel_rfl) (by kernel_rfl) (by kernel_rfl) (.cons rfl (ob_box rfl rfl) <|
      .consT rfl rfl (fun _ => rfl) rfl (ob_allocL Tryd.zeroValue25 rfl) <|
      .nil) ?_
  intro a1 w1 m1 hst1 hle1 hk1
  have hfr1 := hk1.fr (T' := [(0, _)]) (.old rfl rfl <| .nil)
  obtain ⟨g2, e2, hc1⟩ := hk1.ex 1 rfl
  replace hfr1 := hfr1.cons e2
  obtain ⟨g3, e3, _⟩ := hk1.ex 2 rfl
  replace hfr1 := hfr1.cons e3
  replace hst1 := hst1.fin (L' := [_]) (.cons e3 <| .nil)
  replace h_r := h_r.mono hle1
  replace hs_r := hs_r.mono hle1
  replace hM := hM.trans hle1
  clear hst0 hfr0 hk1
  refine hK1 _ _ ?_; try clear hK1 K1
  refine seq_any fun K4 hK4 => ?_
  replace hst1 := hst1.more (r := .free) trivial List.nodup_nil (by simp [Res.blocks])
  refine region_any (tch := [(3, 1, (fun v => .mrow v _ _ _ _))]) (fun h => by cases h) hst1 hfr1 (by kernel_rfl) (by kernel_rfl) (by kernel_rfl) (.cons rfl (ob_fieldAddr rfl Tryd.underlying25 rfl Tryd.sizeOf23 rfl) <|
      .cons rfl (ob_load1 rfl hc1 Tryd.isAgg23 rfl) <|
      .cons rfl (ob_len rfl Tryd.underlying23) <|
      .consT rfl rfl (fun _ => rfl) rfl (ob_makeSliceM (size := 1) (bytes := 16) rfl rfl Tryd.underlying23 Tryd.type9 rfl rfl rfl rfl rfl (by simp only [maxLen]; omega) (by omega)) <|
      .consA 7 rfl rfl <|
      .nil) ?_
  intro a2 w2 m2 hst2 hle2 hk2
  have hfr2 := hk2.fr (T' := [(0, _), (1, _), (2, _)]) (.old rfl rfl <| .old rfl rfl <| .old rfl rfl <| .nil)
  obtain ⟨om7, e5, _⟩ := hk2.ex 7 rfl
  replace hfr2 := hfr2.cons e5
  replace hfr2 := hfr2.cons (hk2.same 3 rfl e5)
  replace hst2 := hst2.fin (L' := [_, _]) (.cons e5 <| .nil)
  replace h_r := h_r.mono hle2
  replace hs_r := hs_r.mono hle2
  replace hc1 := hc1.mono hle2
  replace hM := hM.trans hle2
  clear hst1 hfr1 hk2
  refine hK4 _ _ ?_; try clear hK4 K4
  refine seq_any fun K6 hK6 => ?_
  refine region_any (tch := [(3, 1, (fun _ => .mrow _ _ _ _ _))]) (fun h => by cases h) hst2 hfr2 (by kernel_rfl) (by kernel_rfl) (by kernel_rfl) (.cons rfl (ob_move rfl) <|
      .cons rfl (ob_fieldAddr rfl Tryd.underlying25 rfl Tryd.sizeOf23 rfl) <|
      .cons rfl (ob_load1 rfl hc1 Tryd.isAgg23 rfl) <|
      .consT rfl rfl (fun _ => rfl) rfl (ob_copyM rfl rfl Tryd.underlying23 Tryd.type9 rfl (fun w m hK => Sl.row1 (f := S) (Strs.mono hs_r (KC.le hK))) (by simp) (strs_one _)) <|
      .nil) ?_
  intro a3 w3 m3 hst3 hle3 hk3
  have hfr3 := hk3.fr (T' := [(0, _), (1, _), (2, _), (3, _)]) (.old rfl rfl <| .old rfl rfl <| .old rfl rfl <| .old rfl rfl <| .nil)
  replace hst3 := hst3.fin (L' := [_, _]) (.cons rfl <| .nil)
  replace h_r := h_r.mono hle3
  replace hs_r := hs_r.mono hle3
  replace hc1 := hc1.mono hle3
  replace hM := hM.trans hle3
  clear hst2 hfr2 hk3
  refine hK6 _ _ ?_; try clear hK6 K6
  refine seq_any fun K7 hK7 => ?_
  refine region_any (tch := [(1, 1, (fun _ => .mrow (.slice om7 r.labels.length r.labels.length) r.labels.length 1 9 ((sortS r.labels).map S)))]) (fun h => by cases h) hst3 hfr3 (by kernel_rfl) (by kernel_rfl) (by kernel_rfl) (.cons rfl (ob_move rfl) <|
      .consT rfl rfl (fun _ => rfl) rfl (ob_callT rfl (.cons rfl <| .nil) Tryd.call43 (κ := .ex (MP.any)) (fun σ w m hK hr hkn => by have hle_ := KC.le hK; have hA := KC.agree hK; have hM := hM.trans hle_; have h_r := h_r.mono hle_; have hs_r := hs_r.mono hle_; have hc1 := hc1.mono hle_; exact sortS_t hA hr (by omega))) <|
      .nil) ?_
  intro a4 w4 m4 hst4 hle4 hk4
  have hfr4 := hk4.fr (T' := [(0, _), (1, _), (2, _), (3, _)]) (.old rfl rfl <| .old rfl rfl <| .old rfl rfl <| .old rfl rfl <| .nil)
  obtain ⟨_, e8, _⟩ := hk4.ex 13 rfl
  replace hfr4 := hfr4.cons e8
  replace hst4 := hst4.fin (L' := [_, _]) (.cons e8 <| .nil)
  replace h_r := h_r.mono hle4
  replace hs_r := hs_r.mono hle4
  replace hc1 := hc1.mono hle4
  replace hM := hM.trans hle4
  clear hst3 hfr3 hk4
  obtain ⟨m5, hle5, hst5, oF_q, cF_q, eF_q, hcF_q, hmF_q, hrow_q⟩ := hst4.freeze (k := 1) rfl
  simp only [List.set_cons_succ, List.set_cons_zero] at hst5
  have hfr5 := hfr4; obtain ⟨a5, rfl⟩ : ∃ a, a = a4 := ⟨_, rfl⟩; obtain ⟨w5, rfl⟩ : ∃ w, w = w4 := ⟨_, rfl⟩
  replace h_r := h_r.mono hle5
  replace hs_r := hs_r.mono hle5
  replace hc1 := hc1.mono hle5
  replace hM := hM.trans hle5
  clear hst4 hfr4
  obtain ⟨rfl, rfl⟩ : om7 = oF_q ∧ r.labels.length = cF_q := by injection eF_q with q1 q2 q3; exact ⟨q1, q3⟩
  have hsq : Strs m5 om7 (sortS r.labels).length r.labels.length (sortS r.labels) := Strs.of_row hrow_q rfl (by omega) (by omega)
  refine hK7 _ _ ?_; try clear hK7 K7
  refine seq_any fun K9 hK9 => ?_
  refine region_any (tch := [(4, 0, (fun _ => .blk _ _))]) (fun h => by cases h) hst5 hfr5 (by kernel_rfl) (by kernel_rfl) (by kernel_rfl) (.cons rfl (ob_move rfl) <|
      .cons rfl (ob_fieldAddr rfl Tryd.underlying25 rfl Tryd.sizeOf3 rfl) <|
      .cons rfl (ob_load1 rfl hc1 Tryd.isAgg3 rfl) <|
      .cons rfl (ob_buildS (.cons rfl <| .cons rfl <| .nil) Tryd.underlying25 Tryd.zeroValue25 (.cons Tryd.sizeOf23 <| .cons Tryd.sizeOf3 <| .nil) rfl) <|
      .consT rfl rfl (fun _ => rfl) rfl (ob_store' rfl rfl rfl Tryd.sizeOf25 rfl rfl rfl) <|
      .nil) ?_
  intro a6 w6 m6 hst6 hle6 hk6
  have hfr6 := hk6.fr (T' := [(0, _), (1, _), (2, _), (3, _)]) (.old rfl rfl <| .old rfl rfl <| .old rfl rfl <| .old rfl rfl <| .nil)
  replace hst6 := hst6.fin (L' := [_, _]) (.cons rfl <| .nil)
  replace h_r := h_r.mono hle6
  replace hs_r := hs_r.mono hle6
  replace hc1 := hc1.mono hle6
  replace hrow_q := hrow_q.mono hle6
  replace hsq := hsq.mono hle6
  replace hM := hM.trans hle6
  clear hst5 hfr5 hk6
  refine hK9 _ _ ?_; try clear hK9 K9
  refine wp_ret ?_
  repeat (with_reducible first | refine then_ret ?_ | refine block_ret ?_)
  exact fn_ret hst6 hfr6 rfl (.cell rfl (load_blk (blk_heap (hst6.loc.at_ (k := 0) rfl)) Tryd.isAgg25 Tryd.sizeOf25) <| .nil) (⟨(om7, r.labels.length), by show _ = Value.agg #[.slice om7 (sortS r.labels).length _, _]; rw [hsl]; rfl, ⟨_, _, rfl, hsq, hr_r⟩⟩)

set_option maxHeartbeats 400000 in
theorem add_c {w : World} {m : Mem} {r : Rw} {vs_r : List Value} {s : Str} (hA : Agree w m) (h_r : RwR m r vs_r) (hbig : r.labels.length ≤ 1000000000) : FnV Tryd.prog 27 #[.agg vs_r.toArray, S s] w m (fun _ m v => (MP.rw ⟨sortS (r.labels ++ [s]), r.var⟩).p m v) := by
  obtain ⟨o_r, c_r, rfl, hs_r, hr_r⟩ := h_r.open_
  have hbs_r := hs_r.big; have hcs_r := hs_r.cap
  refine fn_enter (vs := [_, _]) Tryd.func27 rfl rfl rfl fun a0 hfr0 => ?_
  have hst0 := st_enter hA (loc_nil [] _ w m)
  have hM : MLe m m := MLe.refl m
  refine seq_any fun K1 hK1 => ?_
  replace hst0 := hst0.more (r := .free) trivial List.nodup_nil (by simp [Res.blocks])
  refine region_any (tch := [(1, 0, (fun v => .blk v _))]) (fun h => by cases h) hst0 hfr0 (by kernel_rfl) (by kernel_rfl) (by kernel_rfl) (.cons rfl (ob_box rfl rfl) <|
      .consT rfl rfl (fun _ => rfl) rfl (ob_allocL Tryd.zeroValue25 rfl) <|
      .nil) ?_
  intro a1 w1 m1 hst1 hle1 hk1
  have hfr1 := hk1.fr (T' := [(0, _), (1, _)]) (.old rfl rfl <| .old rfl rfl <| .nil)
  obtain ⟨g2, e2, hc2⟩ := hk1.ex 2 rfl
  replace hfr1 := hfr1.cons e2
  obtain ⟨g3, e3, _⟩ := hk1.ex 4 rfl
  replace hfr1 := hfr1.cons e3
  replace hst1 := hst1.fin (L' := [_]) (.cons e3 <| .nil)
  replace h_r := h_r.mono hle1
  replace hs_r := hs_r.mono hle1
  replace hM := hM.trans hle1
  clear hst0 hfr0 hk1
  refine hK1 _ _ ?_; try clear hK1 K1
  refine seq_any fun K4 hK4 => ?_
  replace hst1 := hst1.more (r := .free) trivial List.nodup_nil (by simp [Res.blocks])
  refine region_any (tch := [(2, 1, (fun v => .row (nz v) _ _ _ _)), (5, 1, (fun v => .row (nz v) _ _ _ _)), (10, 0, (fun _ => .blkx _ _ _))]) (fun _ => mixed) hst1 hfr1 (by kernel_rfl) (by kernel_rfl) (by kernel_rfl) (.cons rfl (ob_fieldAddr rfl Tryd.underlying25 rfl Tryd.sizeOf23 rfl) <|
      .cons rfl (ob_load1 rfl hc2 Tryd.isAgg23 rfl) <|
      .consT rfl rfl (fun _ => rfl) rfl (ob_callT rfl (.cons rfl <| .nil) Tryd.call45 (κ := .ex (MP.sl (r.labels).length ((r.labels).map S))) (fun σ w m hK hr hkn => by have hle_ := KC.le hK; have hA := KC.agree hK; have hM := hM.trans hle_; have h_r := h_r.mono hle_; have hs_r := hs_r.mono hle_; have hc2 := hc2.mono hle_; exact cloneR_t hA hs_r (by omega))) <|
      .cons rfl (ob_move rfl) <|
      .cons rfl (ob_buildSlice (.cons rfl <| .nil) Tryd.underlying23 Tryd.sizeOf9 Tryd.zeroValue9 rfl rfl rfl rfl) <|
      .consT rfl rfl (fun _ => rfl) rfl (ob_imgT 7 rfl rfl rfl fun y7 => ob_imgT 9 rfl rfl rfl fun y9 => ob_appendZ (size := 1) (bytes := 16) rfl rfl (fun _ => .inl rfl) Tryd.underlying23 Tryd.type9 rfl rfl rfl rfl (fun w m hK => .inr ⟨_, rfl, hK.2⟩) rfl (by decide) rfl (by simp only [maxLen]; omega) (by omega)) <|
      .cons rfl (ob_fieldAddr rfl Tryd.underlying25 rfl Tryd.sizeOf3 rfl) <|
      .cons rfl (ob_load1 rfl hc2 Tryd.isAgg3 rfl) <|
      .cons rfl (ob_imgV 10 rfl rfl rfl fun y10 => ob_buildS (.cons rfl <| .cons rfl <| .nil) Tryd.underlying25 Tryd.zeroValue25 (.cons Tryd.sizeOf23 <| .cons Tryd.sizeOf3 <| .nil) rfl) <|
      .cons rfl (ob_imgE 13 rfl rfl rfl fun y13 => ob_call (φ := MP.rw ⟨sortS (r.labels ++ [s]), r.var⟩) rfl (.cons rfl <| .nil) Tryd.call25 (fun w m hK => by have hle_ := KC.le hK; have hA := KC.agree hK; have hM := hM.trans hle_; have hr0_ := hK.2; exact FnG.mono (sorted_c (r := ⟨r.labels ++ [s], r.var⟩) hA ⟨_, _, by show _ = [Value.slice _ (r.labels ++ [s]).length _, _]; rw [List.length_append]; rfl, Reads.sl ((strs_reads r.labels).app (Reads.single (vs := [_]) rfl rfl)) hr0_.1 (by decide) rfl (by rw [List.length_append]; exact hr0_.2) (by rw [List.length_append]; simp; omega), hr_r⟩ (by rw [List.length_append]; simp; omega)) fun _ _ _ _ h => h)) <|
      .consT rfl rfl (fun _ => rfl) rfl (ob_imgTX 14 rfl rfl rfl fun y14 => ob_store' rfl rfl rfl Tryd.sizeOf25 rfl rfl rfl) <|
      .nil) ?_
  intro a2 w2 m2 hst2 hle2 hk2
  have hfr2 := hk2.fr (T' := [(0, _), (1, _), (2, _), (4, _)]) (.old rfl rfl <| .old rfl rfl <| .old rfl rfl <| .old rfl rfl <| .nil)
  obtain ⟨⟨oz5, cz5⟩, e7, hrz5, hcz5⟩ := hk2.ex 7 rfl
  replace hfr2 := hfr2.cons e7
  obtain ⟨⟨oz6, cz6⟩, e8, hrz6, hcz6⟩ := hk2.ex 10 rfl
  replace e8 : envOf a2 10 = .slice oz6 ((r.labels ++ [s])).length cz6 := by rw [e8]; refine congrArg (fun q => Value.slice _ q _) ?_; first | omega | (simp only [List.length_append, List.length_cons, List.length_nil, List.nil_append, List.length_take, List.length_drop]; try omega)
  replace hfr2 := hfr2.cons e8
  replace hst2 := hst2.fin (L' := [_, _]) (.cons e7 <| .cons e8 <| .cons rfl <| .nil)
  obtain ⟨⟨oa, ca⟩, hS, hst2⟩ := hst2.unx (k := 0) rfl (fun _ => rfl)
  replace h_r := h_r.mono hle2
  replace hs_r := hs_r.mono hle2
  replace hc2 := hc2.mono hle2
  replace hM := hM.trans hle2
  clear hst1 hfr1 hk2
  have hsz6 : Strs m2 oz6 ((r.labels ++ [s])).length cz6 (r.labels ++ [s]) := Reads.sl ((strs_reads r.labels).app (Reads.single (vs := [_]) rfl rfl)) hrz6 (by decide) rfl (by have h := hcz6; first | omega | (simp only [List.length_append, List.length_cons, List.length_nil, List.nil_append, List.length_take, List.length_drop] at h ⊢; omega)) (by first | omega | (simp only [List.length_append, List.length_cons, List.length_nil, List.nil_append, List.length_take, List.length_drop]; omega))
  refine hK4 _ _ ?_; try clear hK4 K4
  refine wp_ret ?_
  repeat (with_reducible first | refine then_ret ?_ | refine block_ret ?_)
  exact fn_ret hst2 hfr2 rfl (.cell rfl (load_blk (blk_heap (hst2.loc.at_ (k := 0) rfl)) Tryd.isAgg25 Tryd.sizeOf25) <| .nil) (⟨(oa, ca), rfl, hS⟩)

set_option maxHeartbeats 400000 in
theorem less_c {w : World} {m : Mem} {r : Rw} {vs_r : List Value} {s : Str} (hA : Agree w m) (h_r : RwR m r vs_r) (hbig : r.labels.length ≤ 1000000000) : FnV Tryd.prog 28 #[.agg vs_r.toArray, S s] w m (fun _ m v => (MP.rwb ⟨r.labels.erase s, r.var⟩ (decide (s ∈ r.labels))).p m v) := by
  obtain ⟨o_r, c_r, rfl, hs_r, hr_r⟩ := h_r.open_
  have hbs_r := hs_r.big; have hcs_r := hs_r.cap
  refine fn_enter (vs := [_, _]) Tryd.func28 rfl rfl rfl fun a0 hfr0 => ?_
  have hst0 := st_enter hA (loc_nil [] _ w m)
  have hM : MLe m m := MLe.refl m
  have him := idxA_mem s r.labels 0
  refine seq_any fun K1 hK1 => ?_
  replace hst0 := hst0.more (r := .free) trivial List.nodup_nil (by simp [Res.blocks])
  refine region_any (tch := [(1, 0, (fun v => .blk v _))]) (fun h => by cases h) hst0 hfr0 (by kernel_rfl) (by kernel_rfl) (by kernel_rfl) (.cons rfl (ob_box rfl rfl) <|
      .consT rfl rfl (fun _ => rfl) rfl (ob_allocL Tryd.zeroValue25 rfl) <|
      .cons rfl (ob_assign rfl) <|
      .nil) ?_
  intro a1 w1 m1 hst1 hle1 hk1
  have hfr1 := hk1.fr (T' := [(0, _), (1, _), (5, _)]) (.old rfl rfl <| .old rfl rfl <| .new rfl <| .nil)
  obtain ⟨g2, e2, hc2⟩ := hk1.ex 2 rfl
  replace hfr1 := hfr1.cons e2
  obtain ⟨g3, e3, _⟩ := hk1.ex 4 rfl
  replace hfr1 := hfr1.cons e3
  replace hst1 := hst1.fin (L' := [_]) (.cons e3 <| .nil)
  replace h_r := h_r.mono hle1
  replace hs_r := hs_r.mono hle1
  replace hM := hM.trans hle1
  clear hst0 hfr0 hk1
  refine hK1 _ _ ?_; try clear hK1 K1
  refine seq_any fun K4 hK4 => ?_
  refine region_plain (fun h => by cases h) hst1 hfr1 (by kernel_rfl) (by kernel_rfl) (.cons rfl (ob_fieldAddr rfl Tryd.underlying25 rfl Tryd.sizeOf23 rfl) <|
      .cons rfl (ob_load1 rfl hc2 Tryd.isAgg23 rfl) <|
      .cons rfl (ob_move rfl) <|
      .cons rfl (ob_callE rfl (.cons rfl <| .cons rfl <| .nil) Tryd.call46 (fun w m hK => by have hle_ := KC.le hK; have hA := KC.agree hK; have hM := hM.trans hle_; have h_r := h_r.mono hle_; have hs_r := hs_r.mono hle_; have hc2 := hc2.mono hle_; exact indexS_c hA (by first | assumption | omega | simp_all))) <|
      .cons rfl (ob_assign rfl) <|
      .nil) ?_
  intro a2 w2 m2 hst2 hle2 hk2
  have hfr2 := hk2.fr (T' := [(0, _), (1, _), (5, _), (2, _), (4, _), (6, _)]) (.old rfl rfl <| .old rfl rfl <| .old rfl rfl <| .old rfl rfl <| .old rfl rfl <| .new rfl <| .nil)
  replace h_r := h_r.mono hle2
  replace hs_r := hs_r.mono hle2
  replace hc2 := hc2.mono hle2
  replace hM := hM.trans hle2
  clear hst1 hfr1 hk2
  refine hK4 _ _ ?_; try clear hK4 K4
  refine seq_any fun K5 hK5 => ?_
  refine seq_any fun K6 hK6 => ?_
  refine region_plain (fun h => by cases h) hst2 hfr2 (by kernel_rfl) (by kernel_rfl) (.cons rfl (ob_move rfl) <|
      .cons rfl (ob_lss rfl rfl) <|
      .nil) ?_
  intro a3 w3 m3 hst3 hle3 hk3
  have hfr3 := hk3.fr (T' := [(0, _), (1, _), (5, _), (2, _), (4, _), (6, _), (12, _)]) (.old rfl rfl <| .old rfl rfl <| .old rfl rfl <| .old rfl rfl <| .old rfl rfl <| .old rfl rfl <| .new rfl <| .nil)
  replace h_r := h_r.mono hle3
  replace hs_r := hs_r.mono hle3
  replace hc2 := hc2.mono hle3
  replace hM := hM.trans hle3
  clear hst2 hfr2 hk3
  refine hK6 _ _ ?_; try clear hK6 K6
  refine cond_any hfr3 rfl rfl (fun hb12 => ?_) (fun hb12 => ?_)
  · try simp only [Bool.not_eq_true', Bool.not_eq_false', decide_eq_true_eq, decide_eq_false_iff_not, Bool.and_eq_true, Bool.or_eq_true, Bool.and_eq_false_iff, Bool.or_eq_false_iff, Bool.not_not, u8_eq] at hb12
    have hne : ¬ s ∈ r.labels := fun h => by have := him.2 h; omega
    have her : r.labels.erase s = r.labels := List.erase_of_not_mem hne
    refine seq_any fun K7 hK7 => ?_
    refine region_any (tch := [(1, 0, (fun _ => .blk _ _))]) (fun h => by cases h) hst3 hfr3 (by kernel_rfl) (by kernel_rfl) (by kernel_rfl) (.cons rfl (ob_loadS' rfl hc2 Tryd.isAgg25 Tryd.sizeOf25 rfl rfl) <|
        .consT rfl rfl (fun _ => rfl) rfl (ob_store' rfl rfl rfl Tryd.sizeOf25 rfl rfl rfl) <|
        .cons rfl (ob_assign rfl) <|
        .nil) ?_
    intro a4 w4 m4 hst4 hle4 hk4
    have hfr4 := hk4.fr (T' := [(0, _), (1, _), (2, _), (4, _), (6, _), (5, _)]) (.old rfl rfl <| .old rfl rfl <| .old rfl rfl <| .old rfl rfl <| .old rfl rfl <| .new rfl <| .nil)
    replace hst4 := hst4.fin (L' := [_]) (.cons rfl <| .nil)
    replace h_r := h_r.mono hle4
    replace hs_r := hs_r.mono hle4
    replace hc2 := hc2.mono hle4
    replace hM := hM.trans hle4
    clear hst3 hfr3 hk4
    refine hK7 _ _ ?_; try clear hK7 K7
    refine wp_ret ?_
    repeat (with_reducible first | refine then_ret ?_ | refine block_ret ?_)
    exact fn_ret hst4 hfr4 rfl (.cell rfl (load_blk (blk_heap (hst4.loc.at_ (k := 0) rfl)) Tryd.isAgg25 Tryd.sizeOf25) <| .tmp rfl <| .nil) (⟨(o_r, c_r), by rw [her, decide_eq_false hne]; rfl, by rw [her]; exact h_r⟩)
  · try simp only [Bool.not_eq_true', Bool.not_eq_false', decide_eq_true_eq, decide_eq_false_iff_not, Bool.and_eq_true, Bool.or_eq_true, Bool.and_eq_false_iff, Bool.or_eq_false_iff, Bool.not_not, u8_eq] at hb12
    have hin : s ∈ r.labels := him.1 (by omega)
    obtain ⟨k, hk1, hk2, hk3⟩ := idx_erase s r.labels 0 hin
    rw [Nat.zero_add] at hk1
    have hne : r.labels ≠ [] := fun h => by rw [h] at hin; cases hin
    have hel : (r.labels.erase s).length ≤ 1000000000 := by rw [← hk3]; simp only [List.length_append, List.length_take, List.length_drop]; omega
    refine wp_skip ?_
    refine hK5 _ _ ?_; try clear hK5 K5
    refine seq_any fun K9 hK9 => ?_
    replace hst3 := hst3.more (r := .free) trivial List.nodup_nil (by simp [Res.blocks])
    refine region_any (tch := [(2, 1, (fun v => .mrow v r.labels.length 1 9 (r.labels.map S))), (6, 1, (fun v => .row (nz v) (r.labels.take k ++ r.labels.drop (k + 1)).length 1 9 ((r.labels.take k ++ r.labels.drop (k + 1)).map S))), (10, 0, (fun _ => .blkx _ _ _))]) (fun _ => mixed) hst3 hfr3 (by kernel_rfl) (by kernel_rfl) (by kernel_rfl) (.cons rfl (ob_fieldAddr rfl Tryd.underlying25 rfl Tryd.sizeOf23 rfl) <|
        .cons rfl (ob_load1 rfl hc2 Tryd.isAgg23 rfl) <|
        .consT rfl rfl (fun _ => rfl) rfl (ob_callT rfl (.cons rfl <| .nil) Tryd.call45 (κ := .ex (MP.made' r.labels.length)) (fun σ w m hK hr hkn => by have hle_ := KC.le hK; have hA := KC.agree hK; have hM := hM.trans hle_; have h_r := h_r.mono hle_; have hs_r := hs_r.mono hle_; have hc2 := hc2.mono hle_; exact cloneS_t hA hs_r (by omega))) <|
        .cons rfl (ob_move rfl) <|
        .cons rfl (ob_move rfl) <|
        .cons rfl (ob_add rfl rfl ⟨by omega, by omega⟩) <|
        .consT rfl rfl (fun _ => rfl) rfl (ob_imgT 16 rfl rfl rfl fun y16 => ob_callTV (x := .tmp 16) (fun v => .mrow v r.labels.length 1 9 (r.labels.map S)) rfl (fun _ => rfl) rfl (.cons rfl <| .cons rfl <| .cons rfl <| .nil) Tryd.call47 (κ := .ex (MP.sl (r.labels.take k ++ r.labels.drop (k + 1)).length ((r.labels.take k ++ r.labels.drop (k + 1)).map S))) (fun w m hK hr => by have hle_ := KC.le hK; have hA := KC.agree hK; have hM := hM.trans hle_; have hr0_ := hK.2; have h_r := h_r.mono hle_; have hs_r := hs_r.mono hle_; have hc2 := hc2.mono hle_; exact deleteR_t (i := k) (j := k + 1) hk1 (by rw [hk1]; rfl) hA hr (by omega) (by omega) hne)) <|
        .cons rfl (ob_fieldAddr rfl Tryd.underlying25 rfl Tryd.sizeOf3 rfl) <|
        .cons rfl (ob_load1 rfl hc2 Tryd.isAgg3 rfl) <|
        .cons rfl (ob_imgV 20 rfl rfl rfl fun y20 => ob_buildS (.cons rfl <| .cons rfl <| .nil) Tryd.underlying25 Tryd.zeroValue25 (.cons Tryd.sizeOf23 <| .cons Tryd.sizeOf3 <| .nil) rfl) <|
        .consT rfl rfl (fun _ => rfl) rfl (ob_imgTX 23 rfl rfl rfl fun y23 => ob_store' rfl rfl rfl Tryd.sizeOf25 rfl rfl rfl) <|
        .cons rfl (ob_assign rfl) <|
        .nil) ?_
    intro a4 w4 m4 hst4 hle4 hk4
    have hfr4 := hk4.fr (T' := [(0, _), (1, _), (2, _), (4, _), (6, _), (5, _)]) (.old rfl rfl <| .old rfl rfl <| .old rfl rfl <| .old rfl rfl <| .old rfl rfl <| .new rfl <| .nil)
    obtain ⟨y10, e10, hy10⟩ := hk4.ex 16 rfl
    replace hfr4 := hfr4.cons e10
    obtain ⟨y11, e11, hy11⟩ := hk4.ex 20 rfl
    replace hfr4 := hfr4.cons e11
    replace hst4 := hst4.fin (L' := [_, _]) (.cons e10 <| .cons e11 <| .cons rfl <| .nil)
    obtain ⟨⟨o20, c20⟩, ⟨hrow_q, hc20⟩, hst4⟩ := hst4.unx (k := 0) rfl (fun _ => rfl)
    replace h_r := h_r.mono hle4
    replace hs_r := hs_r.mono hle4
    replace hc2 := hc2.mono hle4
    replace hM := hM.trans hle4
    clear hst3 hfr3 hk4
    rw [hk3] at hrow_q hc20
    have hsq : Strs m4 o20 (r.labels.erase s).length c20 (r.labels.erase s) := Strs.of_row hrow_q rfl hc20 (by omega)
    refine hK9 _ _ ?_; try clear hK9 K9
    refine wp_ret ?_
    repeat (with_reducible first | refine then_ret ?_ | refine block_ret ?_)
    exact fn_ret hst4 hfr4 rfl (.cell rfl (load_blk (blk_heap (hst4.loc.at_ (k := 0) rfl)) Tryd.isAgg25 Tryd.sizeOf25) <| .tmp rfl <| .nil) (⟨(o20, c20), by rw [← hk3, decide_eq_true hin]; rfl, ⟨_, _, rfl, hsq, hr_r⟩⟩)

end Go.Proofs.YtembdjghbphcdaaDoor
