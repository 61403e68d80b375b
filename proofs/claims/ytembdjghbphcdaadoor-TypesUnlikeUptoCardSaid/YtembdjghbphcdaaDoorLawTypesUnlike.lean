/-
  'brocadelaw04': the walk of the law. Conditions: those of each theorem.
-/
import Derived.Test.YtembdjghbphcdaaDoorShown1
import Derived.Test.YtembdjghbphcdaaDoorUnlike1
namespace Go.Proofs.YtembdjghbphcdaaDoor
set_option linter.all false
set_option maxRecDepth 4000
open Go.RowKit
open Go.Lib (itoa decDigits)
theorem cnt_bulk (t : Ty) : cntT t ≤ bulkT t := by
  induction t using Ty.rec_ with
  | h t ih =>
    have hk := args_all t ih (fun l => cntTs l ≤ bulkTs l) (by simp [cntTs, bulkTs]) (fun x l hx hl => by simp only [cntTs, bulkTs]; omega)
    rw [cntT_eq, bulkT_eq]; omega

theorem lensS_mem {ls : List Str} {s : Str} (h : s ∈ ls) : s.length ≤ lensS ls := by
  unfold lensS
  induction ls with
  | nil => cases h
  | cons x l ih =>
    simp only [List.map_cons, List.sum_cons]
    rcases List.mem_cons.1 h with rfl | h
    · omega
    · have := ih h; omega

abbrev plain_G (t : Ty) : Prop := ∀ {w : World} {m : Mem} {vs_t : List Value} (hA : Agree w m) (h_t : TyR m t vs_t) (hb : bulkT t ≤ 2097152), FnV Tryd.prog 16 #[.agg vs_t.toArray] w m (fun _ _ v => v = .bool (plainT t))
set_option maxHeartbeats 400000 in
theorem plain_s {t : Ty} (ih : ∀ u ∈ t.args, plain_G u) {w : World} {m : Mem} {vs_t : List Value} (hA : Agree w m) (h_t : TyR m t vs_t) (hb : bulkT t ≤ 2097152) : FnV Tryd.prog 16 #[.agg vs_t.toArray] w m (fun _ _ v => v = .bool (plainT t)) := by
  obtain ⟨o_t, c_t, oL_t, cL_t, rfl, hk_t, hs_t, hi_t, hj_t, hr_t⟩ := h_t.open_
  have hbg_t := hk_t.big; have hcp_t := hk_t.cap; have hbs_t := hs_t.big; have hcs_t := hs_t.cap
  have hrw_t : RwR _ ⟨t.labels, t.rv⟩ _ := ⟨_, _, rfl, hs_t, hr_t⟩
  refine fn_enter (vs := [_]) Tryd.func16 rfl rfl rfl fun a0 hfr0 => ?_
  have hst0 := st_enter hA (loc_nil [] _ w m)
  have hM : MLe m m := MLe.refl m
  have hbe := bulkT_eq t
  have hll := lensS_len t.labels
  have hbk := fun u (hu : u ∈ t.args) => bulkT_arg hu
  have hxs : (t.labels ++ [t.name]).all upS = (t.labels.all upS && upS t.name) := by simp
  have hxl : (t.labels ++ [t.name]).length = t.labels.length + 1 := by simp
  refine seq_any fun K1 hK1 => ?_
  refine region_plain (fun h => by cases h) hst0 hfr0 (by kernel_rfl) (by kernel_rfl) (.cons rfl (ob_box rfl rfl) <|
      .cons rfl (ob_assign rfl) <|
      .nil) ?_
  intro a1 w1 m1 hst1 hle1 hk1
  have hfr1 := hk1.fr (T' := [(0, _), (2, _)]) (.old rfl rfl <| .new rfl <| .nil)
  obtain ⟨g2, e2, hc1⟩ := hk1.ex 1 rfl
  replace hfr1 := hfr1.cons e2
  replace h_t := h_t.mono hle1
  replace hk_t := hk_t.mono hle1
  replace hs_t := hs_t.mono hle1
  replace hrw_t := hrw_t.mono hle1
  replace hM := hM.trans hle1
  clear hst0 hfr0 hk1
  refine hK1 _ _ ?_; try clear hK1 K1
  refine seq_any fun K3 hK3 => ?_
  refine seq_any fun K4 hK4 => ?_
  refine region_plain (fun h => by cases h) hst1 hfr1 (by kernel_rfl) (by kernel_rfl) (.cons rfl (ob_assign rfl) <|
      .nil) ?_
  intro a2 w2 m2 hst2 hle2 hk2
  have hfr2 := hk2.fr (T' := [(0, _), (2, _), (1, _), (3, _)]) (.old rfl rfl <| .old rfl rfl <| .old rfl rfl <| .new rfl <| .nil)
  replace h_t := h_t.mono hle2
  replace hk_t := hk_t.mono hle2
  replace hs_t := hs_t.mono hle2
  replace hrw_t := hrw_t.mono hle2
  replace hc1 := hc1.mono hle2
  replace hM := hM.trans hle2
  clear hst1 hfr1 hk2
  refine hK4 _ _ ?_; try clear hK4 K4
  refine wp_block ?_
  refine loop_any (T := [(0, _), (2, _), (1, _)]) (fun (y : Nat) => ([(3, .int .i64 (y : Int))] : List (Nat × Value))) (fun _ => _) (fun (y : Nat) m => (y ≤ (t.labels.length + 1)) ∧ ((t.labels ++ [t.name]).all upS = ((t.labels ++ [t.name]).drop y).all upS)) (fun y => (t.labels.length + 1) - y) (0) ⟨hst2, MLe.refl _, hfr2.sub (.cons rfl <| .cons rfl <| .cons rfl <| .cons rfl <| .nil), ⟨Nat.zero_le _, rfl⟩⟩ fun y a3 w3 m3 hh3 => ?_
  have hst3 := hh3.st; have hle3 := hh3.le; have hfr3 := hh3.fr; have hrel := hh3.rel; clear hh3
  replace h_t := h_t.mono hle3
  replace hk_t := hk_t.mono hle3
  replace hs_t := hs_t.mono hle3
  replace hrw_t := hrw_t.mono hle3
  replace hc1 := hc1.mono hle3
  clear hst2 hfr2
  replace hM := hM.trans hle3
  obtain ⟨hyn, hrem⟩ := hrel
  have hlh3 := hle3
  refine seq_any fun K6 hK6 => ?_
  refine seq_any fun K7 hK7 => ?_
  refine region_plain (fun h => by cases h) hst3 hfr3 (by kernel_rfl) (by kernel_rfl) (.cons rfl (ob_move rfl) <|
      .cons rfl (ob_fieldAddr rfl Tryd.underlying27 rfl Tryd.sizeOf25 rfl) <|
      .cons rfl (ob_fieldAddr rfl Tryd.underlying25 rfl Tryd.sizeOf23 rfl) <|
      .cons rfl (ob_load1 rfl (hc1.drop 4) Tryd.isAgg23 rfl) <|
      .cons rfl (ob_len rfl Tryd.underlying23) <|
      .cons rfl (ob_leq rfl rfl) <|
      .nil) ?_
  intro a4 w4 m4 hst4 hle4 hk4
  have hfr4 := hk4.fr (T' := [(3, _), (0, _), (2, _), (1, _), (12, _)]) (.old rfl rfl <| .old rfl rfl <| .old rfl rfl <| .old rfl rfl <| .new rfl <| .nil)
  replace h_t := h_t.mono hle4
  replace hk_t := hk_t.mono hle4
  replace hs_t := hs_t.mono hle4
  replace hrw_t := hrw_t.mono hle4
  replace hc1 := hc1.mono hle4
  have hlh4 := hlh3.trans hle4
  replace hM := hM.trans hle4
  clear hst3 hfr3 hk4
  refine hK7 _ _ ?_; try clear hK7 K7
  refine cond_any hfr4 rfl rfl (fun hb12 => ?_) (fun hb12 => ?_)
  · try simp only [Bool.not_eq_true', Bool.not_eq_false', decide_eq_true_eq, decide_eq_false_iff_not, Bool.and_eq_true, Bool.or_eq_true, Bool.and_eq_false_iff, Bool.or_eq_false_iff, Bool.not_not, u8_eq] at hb12
    refine wp_skip ?_
    refine hK6 _ _ ?_; try clear hK6 K6
    refine seq_any fun K8 hK8 => ?_
    refine wp_block ?_
    refine seq_any fun K9 hK9 => ?_
    refine region_plain (fun h => by cases h) hst4 hfr4 (by kernel_rfl) (by kernel_rfl) (.cons rfl (ob_fieldAddr rfl Tryd.underlying27 rfl Tryd.sizeOf9 rfl) <|
        .cons rfl (ob_load1 rfl hc1 Tryd.isAgg9 rfl) <|
        .cons rfl (ob_assign rfl) <|
        .nil) ?_
    intro a5 w5 m5 hst5 hle5 hk5
    have hfr5 := hk5.fr (T' := [(3, _), (0, _), (2, _), (1, _), (4, _)]) (.old rfl rfl <| .old rfl rfl <| .old rfl rfl <| .old rfl rfl <| .new rfl <| .nil)
    replace h_t := h_t.mono hle5
    replace hk_t := hk_t.mono hle5
    replace hs_t := hs_t.mono hle5
    replace hrw_t := hrw_t.mono hle5
    replace hc1 := hc1.mono hle5
    have hlh5 := hlh4.trans hle5
    replace hM := hM.trans hle5
    clear hst4 hfr4 hk5
    refine hK9 _ _ ?_; try clear hK9 K9
    refine seq_any fun K10 hK10 => ?_
    refine seq_any fun K11 hK11 => ?_
    refine region_plain (fun h => by cases h) hst5 hfr5 (by kernel_rfl) (by kernel_rfl) (.cons rfl (ob_move rfl) <|
        .cons rfl (ob_fieldAddr rfl Tryd.underlying27 rfl Tryd.sizeOf25 rfl) <|
        .cons rfl (ob_fieldAddr rfl Tryd.underlying25 rfl Tryd.sizeOf23 rfl) <|
        .cons rfl (ob_load1 rfl (hc1.drop 4) Tryd.isAgg23 rfl) <|
        .cons rfl (ob_len rfl Tryd.underlying23) <|
        .cons rfl (ob_lss rfl rfl) <|
        .nil) ?_
    intro a6 w6 m6 hst6 hle6 hk6
    have hfr6 := hk6.fr (T' := [(3, _), (0, _), (2, _), (1, _), (4, _), (22, _)]) (.old rfl rfl <| .old rfl rfl <| .old rfl rfl <| .old rfl rfl <| .old rfl rfl <| .new rfl <| .nil)
    replace h_t := h_t.mono hle6
    replace hk_t := hk_t.mono hle6
    replace hs_t := hs_t.mono hle6
    replace hrw_t := hrw_t.mono hle6
    replace hc1 := hc1.mono hle6
    have hlh6 := hlh5.trans hle6
    replace hM := hM.trans hle6
    clear hst5 hfr5 hk6
    refine hK11 _ _ ?_; try clear hK11 K11
    refine cond_any hfr6 rfl rfl (fun hb22 => ?_) (fun hb22 => ?_)
    · try simp only [Bool.not_eq_true', Bool.not_eq_false', decide_eq_true_eq, decide_eq_false_iff_not, Bool.and_eq_true, Bool.or_eq_true, Bool.and_eq_false_iff, Bool.or_eq_false_iff, Bool.not_not, u8_eq] at hb22
      obtain ⟨p12, vs12, x12, ho12, hd12, hm_x12, ht12, hcv12, hl12, hv12⟩ := hs_t.nth (k := y) (by omega)
      cases ho12
      subst hv12
      try rw [hd12] at hrem
      refine region_plain (fun h => by cases h) hst6 hfr6 (by kernel_rfl) (by kernel_rfl) (.cons rfl (ob_fieldAddr rfl Tryd.underlying27 rfl Tryd.sizeOf25 rfl) <|
          .cons rfl (ob_fieldAddr rfl Tryd.underlying25 rfl Tryd.sizeOf23 rfl) <|
          .cons rfl (ob_load1 rfl (hc1.drop 4) Tryd.isAgg23 rfl) <|
          .cons rfl (ob_move rfl) <|
          .cons rfl (ob_indexAddr (k := y) rfl rfl Tryd.underlying23 Tryd.sizeOf9 rfl (by omega)) <|
          .cons rfl (ob_load1' rfl hcv12 Tryd.isAgg9 rfl) <|
          .cons rfl (ob_assign rfl) <|
          .nil) ?_
      intro a7 w7 m7 hst7 hle7 hk7
      have hfr7 := hk7.fr (T' := [(3, _), (0, _), (2, _), (1, _), (4, _)]) (.old rfl rfl <| .old rfl rfl <| .old rfl rfl <| .old rfl rfl <| .new rfl <| .nil)
      replace h_t := h_t.mono hle7
      replace hk_t := hk_t.mono hle7
      replace hs_t := hs_t.mono hle7
      replace hrw_t := hrw_t.mono hle7
      replace hc1 := hc1.mono hle7
      replace hcv12 := hcv12.mono hle7
      have hlh7 := hlh6.trans hle7
      replace hM := hM.trans hle7
      clear hst6 hfr6 hk7
      have hx9 : (t.labels ++ [t.name]).drop y = x12 :: (t.labels ++ [t.name]).drop (y + 1) := by rw [List.drop_append_of_le_length (by omega), List.drop_append_of_le_length (by omega), hd12]; rfl
      have hsl := lensS_mem hm_x12
      obtain ⟨s9, rfl⟩ : ∃ s : Str, s = x12 := ⟨_, rfl⟩
      refine hK10 _ _ ?_; try clear hK10 K10
      refine seq_any fun K13 hK13 => ?_
      rw [hx9, List.all_cons] at hrem
      refine region_plain (fun h => by cases h) hst7 hfr7 (by kernel_rfl) (by kernel_rfl) (.cons rfl (ob_assign rfl) <|
          .nil) ?_
      intro a8 w8 m8 hst8 hle8 hk8
      have hfr8 := hk8.fr (T' := [(3, _), (0, _), (2, _), (1, _), (4, _), (5, _)]) (.old rfl rfl <| .old rfl rfl <| .old rfl rfl <| .old rfl rfl <| .old rfl rfl <| .new rfl <| .nil)
      replace h_t := h_t.mono hle8
      replace hk_t := hk_t.mono hle8
      replace hs_t := hs_t.mono hle8
      replace hrw_t := hrw_t.mono hle8
      replace hc1 := hc1.mono hle8
      replace hcv12 := hcv12.mono hle8
      have hlh8 := hlh7.trans hle8
      replace hM := hM.trans hle8
      clear hst7 hfr7 hk8
      refine hK13 _ _ ?_; try clear hK13 K13
      refine wp_block ?_
      have hlq14 := hlh8
      refine loop_any (T := [(3, _), (0, _), (2, _), (1, _), (4, _)]) (fun (k : Nat) => ([(5, .int .i64 (k : Int))] : List (Nat × Value))) (fun _ => _) (fun (k : Nat) m => (k ≤ s9.length) ∧ (upS s9 = (s9.drop k).all upB)) (fun k => s9.length - k) (0) ⟨hst8, MLe.refl _, hfr8.sub (.cons rfl <| .cons rfl <| .cons rfl <| .cons rfl <| .cons rfl <| .cons rfl <| .nil), ⟨Nat.zero_le _, rfl⟩⟩ fun k a9 w9 m9 hh9 => ?_
      have hst9 := hh9.st; have hle9 := hh9.le; have hfr9 := hh9.fr; have hrel := hh9.rel; clear hh9
      replace h_t := h_t.mono hle9
      replace hk_t := hk_t.mono hle9
      replace hs_t := hs_t.mono hle9
      replace hrw_t := hrw_t.mono hle9
      replace hc1 := hc1.mono hle9
      replace hcv12 := hcv12.mono hle9
      clear hst8 hfr8
      replace hM := hM.trans hle9
      obtain ⟨hkn, hremk⟩ := hrel
      replace hlq14 := hlq14.trans hle9
      have hlh9 := hle9
      refine seq_any fun K15 hK15 => ?_
      refine seq_any fun K16 hK16 => ?_
      refine region_plain (fun h => by cases h) hst9 hfr9 (by kernel_rfl) (by kernel_rfl) (.cons rfl (ob_move rfl) <|
          .cons rfl (ob_move rfl) <|
          .cons rfl (ob_slen rfl Tryd.underlying9) <|
          .cons rfl (ob_lss rfl rfl) <|
          .nil) ?_
      intro a10 w10 m10 hst10 hle10 hk10
      have hfr10 := hk10.fr (T' := [(5, _), (3, _), (0, _), (2, _), (1, _), (4, _), (32, _)]) (.old rfl rfl <| .old rfl rfl <| .old rfl rfl <| .old rfl rfl <| .old rfl rfl <| .old rfl rfl <| .new rfl <| .nil)
      replace h_t := h_t.mono hle10
      replace hk_t := hk_t.mono hle10
      replace hs_t := hs_t.mono hle10
      replace hrw_t := hrw_t.mono hle10
      replace hc1 := hc1.mono hle10
      replace hcv12 := hcv12.mono hle10
      have hlh10 := hlh9.trans hle10
      replace hlq14 := hlq14.trans hle10
      replace hM := hM.trans hle10
      clear hst9 hfr9 hk10
      refine hK16 _ _ ?_; try clear hK16 K16
      refine cond_any hfr10 rfl rfl (fun hb32 => ?_) (fun hb32 => ?_)
      · try simp only [Bool.not_eq_true', Bool.not_eq_false', decide_eq_true_eq, decide_eq_false_iff_not, Bool.and_eq_true, Bool.or_eq_true, Bool.and_eq_false_iff, Bool.or_eq_false_iff, Bool.not_not, u8_eq] at hb32
        refine wp_skip ?_
        refine hK15 _ _ ?_; try clear hK15 K15
        refine seq_any fun K17 hK17 => ?_
        refine wp_block ?_
        refine seq_any fun K18 hK18 => ?_
        obtain ⟨b19, hb_19, hd19⟩ := nth_str (s := s9) (k := k) (by omega)
        try rw [hd19] at hremk
        try simp only [List.all_cons, List.all_nil] at hremk
        refine region_plain (fun h => by cases h) hst10 hfr10 (by kernel_rfl) (by kernel_rfl) (.cons rfl (ob_move rfl) <|
            .cons rfl (ob_move rfl) <|
            .cons rfl (ob_sindex (k := k) (b := _) rfl rfl Tryd.underlying9 rfl hb_19) <|
            .cons rfl (ob_lss rfl rfl) <|
            .cons rfl (ob_move rfl) <|
            .cons rfl (ob_move rfl) <|
            .cons rfl (ob_move rfl) <|
            .cons rfl (ob_sindex (k := k) (b := _) rfl rfl Tryd.underlying9 rfl hb_19) <|
            .cons rfl (ob_gtr rfl rfl) <|
            .cons rfl (ob_or rfl rfl rfl) <|
            .nil) ?_
        intro a11 w11 m11 hst11 hle11 hk11
        have hfr11 := hk11.fr (T' := [(5, _), (3, _), (0, _), (2, _), (1, _), (4, _), (44, _)]) (.old rfl rfl <| .old rfl rfl <| .old rfl rfl <| .old rfl rfl <| .old rfl rfl <| .old rfl rfl <| .new rfl <| .nil)
        replace h_t := h_t.mono hle11
        replace hk_t := hk_t.mono hle11
        replace hs_t := hs_t.mono hle11
        replace hrw_t := hrw_t.mono hle11
        replace hc1 := hc1.mono hle11
        replace hcv12 := hcv12.mono hle11
        have hlh11 := hlh10.trans hle11
        replace hlq14 := hlq14.trans hle11
        replace hM := hM.trans hle11
        clear hst10 hfr10 hk11
        refine hK18 _ _ ?_; try clear hK18 K18
        refine cond_any hfr11 rfl rfl (fun hb44 => ?_) (fun hb44 => ?_)
        · try simp only [Bool.not_eq_true', Bool.not_eq_false', decide_eq_true_eq, decide_eq_false_iff_not, Bool.and_eq_true, Bool.or_eq_true, Bool.and_eq_false_iff, Bool.or_eq_false_iff, Bool.not_not, u8_eq] at hb44
          have hup : upB b19 = false := by unfold upB; simp only [Bool.and_eq_false_iff, decide_eq_false_iff_not]; omega
          refine seq_any fun K20 hK20 => ?_
          refine region_plain (fun h => by cases h) hst11 hfr11 (by kernel_rfl) (by kernel_rfl) (.cons rfl (ob_assign rfl) <|
              .nil) ?_
          intro a12 w12 m12 hst12 hle12 hk12
          have hfr12 := hk12.fr (T' := [(5, _), (3, _), (0, _), (1, _), (4, _), (2, _)]) (.old rfl rfl <| .old rfl rfl <| .old rfl rfl <| .old rfl rfl <| .old rfl rfl <| .new rfl <| .nil)
          replace h_t := h_t.mono hle12
          replace hk_t := hk_t.mono hle12
          replace hs_t := hs_t.mono hle12
          replace hrw_t := hrw_t.mono hle12
          replace hc1 := hc1.mono hle12
          replace hcv12 := hcv12.mono hle12
          have hlh12 := hlh11.trans hle12
          replace hlq14 := hlq14.trans hle12
          replace hM := hM.trans hle12
          clear hst11 hfr11 hk12
          refine hK20 _ _ ?_; try clear hK20 K20
          refine wp_ret ?_
          repeat (with_reducible first | refine then_ret ?_ | refine block_ret ?_)
          exact fn_ret hst12 hfr12 rfl (.tmp rfl <| .nil) (by refine congrArg Value.bool ?_; rw [plainT_eq, ← hxs, hrem, hremk, hup]; rfl)
        · try simp only [Bool.not_eq_true', Bool.not_eq_false', decide_eq_true_eq, decide_eq_false_iff_not, Bool.and_eq_true, Bool.or_eq_true, Bool.and_eq_false_iff, Bool.or_eq_false_iff, Bool.not_not, u8_eq] at hb44
          have hup : upB b19 = true := by unfold upB; simp only [Bool.and_eq_true, decide_eq_true_eq]; omega
          refine wp_skip ?_
          refine hK17 _ _ ?_; try clear hK17 K17
          refine region_plain (fun h => by cases h) hst11 hfr11 (by kernel_rfl) (by kernel_rfl) (.cons rfl (ob_move rfl) <|
              .cons rfl (ob_add rfl rfl ⟨by omega, by omega⟩) <|
              .cons rfl (ob_assign rfl) <|
              .nil) ?_
          intro a12 w12 m12 hst12 hle12 hk12
          have hfr12 := hk12.fr (T' := [(3, _), (0, _), (2, _), (1, _), (4, _), (5, _)]) (.old rfl rfl <| .old rfl rfl <| .old rfl rfl <| .old rfl rfl <| .old rfl rfl <| .new rfl <| .nil)
          replace h_t := h_t.mono hle12
          replace hk_t := hk_t.mono hle12
          replace hs_t := hs_t.mono hle12
          replace hrw_t := hrw_t.mono hle12
          replace hc1 := hc1.mono hle12
          replace hcv12 := hcv12.mono hle12
          have hlh12 := hlh11.trans hle12
          replace hlq14 := hlq14.trans hle12
          replace hM := hM.trans hle12
          clear hst11 hfr11 hk12
          exact ⟨k + 1, m12, by show s9.length - (k + 1) < s9.length - k; omega, ⟨hst12, hlh12, hfr12.sub (.cons rfl <| .cons rfl <| .cons rfl <| .cons rfl <| .cons rfl <| .cons rfl <| .nil), ⟨by show k + 1 ≤ s9.length; omega, by rw [hremk, hup]; rfl⟩⟩⟩
      · try simp only [Bool.not_eq_true', Bool.not_eq_false', decide_eq_true_eq, decide_eq_false_iff_not, Bool.and_eq_true, Bool.or_eq_true, Bool.and_eq_false_iff, Bool.or_eq_false_iff, Bool.not_not, u8_eq] at hb32
        have hgek : k = s9.length := by omega
        rw [List.drop_of_length_le (by omega)] at hremk
        simp only [List.all_cons, List.all_nil] at hremk
        refine wp_exit ?_
        refine hK8 _ _ ?_; try clear hK8 K8
        refine region_plain (fun h => by cases h) hst10 hfr10 (by kernel_rfl) (by kernel_rfl) (.cons rfl (ob_move rfl) <|
            .cons rfl (ob_add rfl rfl ⟨by omega, by omega⟩) <|
            .cons rfl (ob_assign rfl) <|
            .nil) ?_
        intro a11 w11 m11 hst11 hle11 hk11
        have hfr11 := hk11.fr (T' := [(5, _), (0, _), (2, _), (1, _), (4, _), (3, _)]) (.old rfl rfl <| .old rfl rfl <| .old rfl rfl <| .old rfl rfl <| .old rfl rfl <| .new rfl <| .nil)
        replace h_t := h_t.mono hle11
        replace hk_t := hk_t.mono hle11
        replace hs_t := hs_t.mono hle11
        replace hrw_t := hrw_t.mono hle11
        replace hc1 := hc1.mono hle11
        replace hcv12 := hcv12.mono hle11
        have hlh11 := hlh10.trans hle11
        replace hlq14 := hlq14.trans hle11
        replace hM := hM.trans hle11
        clear hst10 hfr10 hk11
        exact ⟨y + 1, m11, by show (t.labels.length + 1) - (y + 1) < (t.labels.length + 1) - y; omega, ⟨hst11, hlq14, hfr11.sub (.cons rfl <| .cons rfl <| .cons rfl <| .cons rfl <| .nil), ⟨by show y + 1 ≤ (t.labels.length + 1); omega, by rw [hrem, hremk]; rfl⟩⟩⟩
    · try simp only [Bool.not_eq_true', Bool.not_eq_false', decide_eq_true_eq, decide_eq_false_iff_not, Bool.and_eq_true, Bool.or_eq_true, Bool.and_eq_false_iff, Bool.or_eq_false_iff, Bool.not_not, u8_eq] at hb22
      obtain ⟨s9, es9⟩ : ∃ s : Str, s = t.name := ⟨_, rfl⟩
      have hx9 : (t.labels ++ [t.name]).drop y = s9 :: (t.labels ++ [t.name]).drop (y + 1) := by rw [es9, show y = t.labels.length by omega]; simp
      have hsl : s9.length ≤ 2097152 := by rw [es9]; omega
      replace hfr6 := hfr6.cons (t := 4) (v := S s9) (by rw [es9]; exact hfr6.at_ 4 _ rfl)
      refine wp_skip ?_
      refine hK10 _ _ ?_; try clear hK10 K10
      refine seq_any fun K22 hK22 => ?_
      rw [hx9, List.all_cons] at hrem
      refine region_plain (fun h => by cases h) hst6 hfr6 (by kernel_rfl) (by kernel_rfl) (.cons rfl (ob_assign rfl) <|
          .nil) ?_
      intro a7 w7 m7 hst7 hle7 hk7
      have hfr7 := hk7.fr (T' := [(3, _), (0, _), (2, _), (1, _), (4, _), (5, _)]) (.old rfl rfl <| .old rfl rfl <| .old rfl rfl <| .old rfl rfl <| .old rfl rfl <| .new rfl <| .nil)
      replace h_t := h_t.mono hle7
      replace hk_t := hk_t.mono hle7
      replace hs_t := hs_t.mono hle7
      replace hrw_t := hrw_t.mono hle7
      replace hc1 := hc1.mono hle7
      have hlh7 := hlh6.trans hle7
      replace hM := hM.trans hle7
      clear hst6 hfr6 hk7
      refine hK22 _ _ ?_; try clear hK22 K22
      refine wp_block ?_
      have hlq23 := hlh7
      refine loop_any (T := [(3, _), (0, _), (2, _), (1, _), (4, _)]) (fun (k : Nat) => ([(5, .int .i64 (k : Int))] : List (Nat × Value))) (fun _ => _) (fun (k : Nat) m => (k ≤ s9.length) ∧ (upS s9 = (s9.drop k).all upB)) (fun k => s9.length - k) (0) ⟨hst7, MLe.refl _, hfr7.sub (.cons rfl <| .cons rfl <| .cons rfl <| .cons rfl <| .cons rfl <| .cons rfl <| .nil), ⟨Nat.zero_le _, rfl⟩⟩ fun k a8 w8 m8 hh8 => ?_
      have hst8 := hh8.st; have hle8 := hh8.le; have hfr8 := hh8.fr; have hrel := hh8.rel; clear hh8
      replace h_t := h_t.mono hle8
      replace hk_t := hk_t.mono hle8
      replace hs_t := hs_t.mono hle8
      replace hrw_t := hrw_t.mono hle8
      replace hc1 := hc1.mono hle8
      clear hst7 hfr7
      replace hM := hM.trans hle8
      obtain ⟨hkn, hremk⟩ := hrel
      replace hlq23 := hlq23.trans hle8
      have hlh8 := hle8
      refine seq_any fun K24 hK24 => ?_
      refine seq_any fun K25 hK25 => ?_
      refine region_plain (fun h => by cases h) hst8 hfr8 (by kernel_rfl) (by kernel_rfl) (.cons rfl (ob_move rfl) <|
          .cons rfl (ob_move rfl) <|
          .cons rfl (ob_slen rfl Tryd.underlying9) <|
          .cons rfl (ob_lss rfl rfl) <|
          .nil) ?_
      intro a9 w9 m9 hst9 hle9 hk9
      have hfr9 := hk9.fr (T' := [(5, _), (3, _), (0, _), (2, _), (1, _), (4, _), (32, _)]) (.old rfl rfl <| .old rfl rfl <| .old rfl rfl <| .old rfl rfl <| .old rfl rfl <| .old rfl rfl <| .new rfl <| .nil)
      replace h_t := h_t.mono hle9
      replace hk_t := hk_t.mono hle9
      replace hs_t := hs_t.mono hle9
      replace hrw_t := hrw_t.mono hle9
      replace hc1 := hc1.mono hle9
      have hlh9 := hlh8.trans hle9
      replace hlq23 := hlq23.trans hle9
      replace hM := hM.trans hle9
      clear hst8 hfr8 hk9
      refine hK25 _ _ ?_; try clear hK25 K25
      refine cond_any hfr9 rfl rfl (fun hb32 => ?_) (fun hb32 => ?_)
      · try simp only [Bool.not_eq_true', Bool.not_eq_false', decide_eq_true_eq, decide_eq_false_iff_not, Bool.and_eq_true, Bool.or_eq_true, Bool.and_eq_false_iff, Bool.or_eq_false_iff, Bool.not_not, u8_eq] at hb32
        refine wp_skip ?_
        refine hK24 _ _ ?_; try clear hK24 K24
        refine seq_any fun K26 hK26 => ?_
        refine wp_block ?_
        refine seq_any fun K27 hK27 => ?_
        obtain ⟨b28, hb_28, hd28⟩ := nth_str (s := s9) (k := k) (by omega)
        try rw [hd28] at hremk
        try simp only [List.all_cons, List.all_nil] at hremk
        refine region_plain (fun h => by cases h) hst9 hfr9 (by kernel_rfl) (by kernel_rfl) (.cons rfl (ob_move rfl) <|
            .cons rfl (ob_move rfl) <|
            .cons rfl (ob_sindex (k := k) (b := _) rfl rfl Tryd.underlying9 rfl hb_28) <|
            .cons rfl (ob_lss rfl rfl) <|
            .cons rfl (ob_move rfl) <|
            .cons rfl (ob_move rfl) <|
            .cons rfl (ob_move rfl) <|
            .cons rfl (ob_sindex (k := k) (b := _) rfl rfl Tryd.underlying9 rfl hb_28) <|
            .cons rfl (ob_gtr rfl rfl) <|
            .cons rfl (ob_or rfl rfl rfl) <|
            .nil) ?_
        intro a10 w10 m10 hst10 hle10 hk10
        have hfr10 := hk10.fr (T' := [(5, _), (3, _), (0, _), (2, _), (1, _), (4, _), (44, _)]) (.old rfl rfl <| .old rfl rfl <| .old rfl rfl <| .old rfl rfl <| .old rfl rfl <| .old rfl rfl <| .new rfl <| .nil)
        replace h_t := h_t.mono hle10
        replace hk_t := hk_t.mono hle10
        replace hs_t := hs_t.mono hle10
        replace hrw_t := hrw_t.mono hle10
        replace hc1 := hc1.mono hle10
        have hlh10 := hlh9.trans hle10
        replace hlq23 := hlq23.trans hle10
        replace hM := hM.trans hle10
        clear hst9 hfr9 hk10
        refine hK27 _ _ ?_; try clear hK27 K27
        refine cond_any hfr10 rfl rfl (fun hb44 => ?_) (fun hb44 => ?_)
        · try simp only [Bool.not_eq_true', Bool.not_eq_false', decide_eq_true_eq, decide_eq_false_iff_not, Bool.and_eq_true, Bool.or_eq_true, Bool.and_eq_false_iff, Bool.or_eq_false_iff, Bool.not_not, u8_eq] at hb44
          have hup : upB b28 = false := by unfold upB; simp only [Bool.and_eq_false_iff, decide_eq_false_iff_not]; omega
          refine seq_any fun K29 hK29 => ?_
          refine region_plain (fun h => by cases h) hst10 hfr10 (by kernel_rfl) (by kernel_rfl) (.cons rfl (ob_assign rfl) <|
              .nil) ?_
          intro a11 w11 m11 hst11 hle11 hk11
          have hfr11 := hk11.fr (T' := [(5, _), (3, _), (0, _), (1, _), (4, _), (2, _)]) (.old rfl rfl <| .old rfl rfl <| .old rfl rfl <| .old rfl rfl <| .old rfl rfl <| .new rfl <| .nil)
          replace h_t := h_t.mono hle11
          replace hk_t := hk_t.mono hle11
          replace hs_t := hs_t.mono hle11
          replace hrw_t := hrw_t.mono hle11
          replace hc1 := hc1.mono hle11
          have hlh11 := hlh10.trans hle11
          replace hlq23 := hlq23.trans hle11
          replace hM := hM.trans hle11
          clear hst10 hfr10 hk11
          refine hK29 _ _ ?_; try clear hK29 K29
          refine wp_ret ?_
          repeat (with_reducible first | refine then_ret ?_ | refine block_ret ?_)
          exact fn_ret hst11 hfr11 rfl (.tmp rfl <| .nil) (by refine congrArg Value.bool ?_; rw [plainT_eq, ← hxs, hrem, hremk, hup]; rfl)
        · try simp only [Bool.not_eq_true', Bool.not_eq_false', decide_eq_true_eq, decide_eq_false_iff_not, Bool.and_eq_true, Bool.or_eq_true, Bool.and_eq_false_iff, Bool.or_eq_false_iff, Bool.not_not, u8_eq] at hb44
          have hup : upB b28 = true := by unfold upB; simp only [Bool.and_eq_true, decide_eq_true_eq]; omega
          refine wp_skip ?_
          refine hK26 _ _ ?_; try clear hK26 K26
          refine region_plain (fun h => by cases h) hst10 hfr10 (by kernel_rfl) (by kernel_rfl) (.cons rfl (ob_move rfl) <|
              .cons rfl (ob_add rfl rfl ⟨by omega, by omega⟩) <|
              .cons rfl (ob_assign rfl) <|
              .nil) ?_
          intro a11 w11 m11 hst11 hle11 hk11
          have hfr11 := hk11.fr (T' := [(3, _), (0, _), (2, _), (1, _), (4, _), (5, _)]) (.old rfl rfl <| .old rfl rfl <| .old rfl rfl <| .old rfl rfl <| .old rfl rfl <| .new rfl <| .nil)
          replace h_t := h_t.mono hle11
          replace hk_t := hk_t.mono hle11
          replace hs_t := hs_t.mono hle11
          replace hrw_t := hrw_t.mono hle11
          replace hc1 := hc1.mono hle11
          have hlh11 := hlh10.trans hle11
          replace hlq23 := hlq23.trans hle11
          replace hM := hM.trans hle11
          clear hst10 hfr10 hk11
          exact ⟨k + 1, m11, by show s9.length - (k + 1) < s9.length - k; omega, ⟨hst11, hlh11, hfr11.sub (.cons rfl <| .cons rfl <| .cons rfl <| .cons rfl <| .cons rfl <| .cons rfl <| .nil), ⟨by show k + 1 ≤ s9.length; omega, by rw [hremk, hup]; rfl⟩⟩⟩
      · try simp only [Bool.not_eq_true', Bool.not_eq_false', decide_eq_true_eq, decide_eq_false_iff_not, Bool.and_eq_true, Bool.or_eq_true, Bool.and_eq_false_iff, Bool.or_eq_false_iff, Bool.not_not, u8_eq] at hb32
        have hgek : k = s9.length := by omega
        rw [List.drop_of_length_le (by omega)] at hremk
        simp only [List.all_cons, List.all_nil] at hremk
        refine wp_exit ?_
        refine hK8 _ _ ?_; try clear hK8 K8
        refine region_plain (fun h => by cases h) hst9 hfr9 (by kernel_rfl) (by kernel_rfl) (.cons rfl (ob_move rfl) <|
            .cons rfl (ob_add rfl rfl ⟨by omega, by omega⟩) <|
            .cons rfl (ob_assign rfl) <|
            .nil) ?_
        intro a10 w10 m10 hst10 hle10 hk10
        have hfr10 := hk10.fr (T' := [(5, _), (0, _), (2, _), (1, _), (4, _), (3, _)]) (.old rfl rfl <| .old rfl rfl <| .old rfl rfl <| .old rfl rfl <| .old rfl rfl <| .new rfl <| .nil)
        replace h_t := h_t.mono hle10
        replace hk_t := hk_t.mono hle10
        replace hs_t := hs_t.mono hle10
        replace hrw_t := hrw_t.mono hle10
        replace hc1 := hc1.mono hle10
        have hlh10 := hlh9.trans hle10
        replace hlq23 := hlq23.trans hle10
        replace hM := hM.trans hle10
        clear hst9 hfr9 hk10
        exact ⟨y + 1, m10, by show (t.labels.length + 1) - (y + 1) < (t.labels.length + 1) - y; omega, ⟨hst10, hlq23, hfr10.sub (.cons rfl <| .cons rfl <| .cons rfl <| .cons rfl <| .nil), ⟨by show y + 1 ≤ (t.labels.length + 1); omega, by rw [hrem, hremk]; rfl⟩⟩⟩
  · try simp only [Bool.not_eq_true', Bool.not_eq_false', decide_eq_true_eq, decide_eq_false_iff_not, Bool.and_eq_true, Bool.or_eq_true, Bool.and_eq_false_iff, Bool.or_eq_false_iff, Bool.not_not, u8_eq] at hb12
    rw [List.drop_of_length_le (by omega), List.all_nil] at hrem
    rw [hrem] at hxs
    refine wp_exit ?_
    refine hK3 _ _ ?_; try clear hK3 K3
    refine seq_any fun K31 hK31 => ?_
    refine seq_any fun K32 hK32 => ?_
    refine region_plain (fun h => by cases h) hst4 hfr4 (by kernel_rfl) (by kernel_rfl) (.cons rfl (ob_assign rfl) <|
        .nil) ?_
    intro a5 w5 m5 hst5 hle5 hk5
    have hfr5 := hk5.fr (T' := [(3, _), (0, _), (2, _), (1, _), (6, _)]) (.old rfl rfl <| .old rfl rfl <| .old rfl rfl <| .old rfl rfl <| .new rfl <| .nil)
    replace h_t := h_t.mono hle5
    replace hk_t := hk_t.mono hle5
    replace hs_t := hs_t.mono hle5
    replace hrw_t := hrw_t.mono hle5
    replace hc1 := hc1.mono hle5
    have hlh5 := hlh4.trans hle5
    replace hM := hM.trans hle5
    clear hst4 hfr4 hk5
    refine hK32 _ _ ?_; try clear hK32 K32
    refine wp_block ?_
    have hlq33 := hlh5
    refine loop_any (T := [(3, _), (0, _), (2, _), (1, _)]) (fun (y : Nat) => ([(6, .int .i64 (y : Int))] : List (Nat × Value))) (fun _ => _) (fun (y : Nat) m => (y ≤ t.args.length) ∧ (plainTs t.args = plainTs (t.args.drop y))) (fun y => t.args.length - y) (0) ⟨hst5, MLe.refl _, hfr5.sub (.cons rfl <| .cons rfl <| .cons rfl <| .cons rfl <| .cons rfl <| .nil), ⟨Nat.zero_le _, rfl⟩⟩ fun y a6 w6 m6 hh6 => ?_
    have hst6 := hh6.st; have hle6 := hh6.le; have hfr6 := hh6.fr; have hrel := hh6.rel; clear hh6
    replace h_t := h_t.mono hle6
    replace hk_t := hk_t.mono hle6
    replace hs_t := hs_t.mono hle6
    replace hrw_t := hrw_t.mono hle6
    replace hc1 := hc1.mono hle6
    clear hst5 hfr5
    replace hM := hM.trans hle6
    obtain ⟨hyn, hrem⟩ := hrel
    replace hlq33 := hlq33.trans hle6
    have hlh6 := hle6
    refine seq_any fun K34 hK34 => ?_
    refine seq_any fun K35 hK35 => ?_
    refine region_plain (fun h => by cases h) hst6 hfr6 (by kernel_rfl) (by kernel_rfl) (.cons rfl (ob_move rfl) <|
        .cons rfl (ob_fieldAddr rfl Tryd.underlying27 rfl Tryd.sizeOf22 rfl) <|
        .cons rfl (ob_load1 rfl hc1 Tryd.isAgg22 rfl) <|
        .cons rfl (ob_len rfl Tryd.underlying22) <|
        .cons rfl (ob_lss rfl rfl) <|
        .nil) ?_
    intro a7 w7 m7 hst7 hle7 hk7
    have hfr7 := hk7.fr (T' := [(6, _), (3, _), (0, _), (2, _), (1, _), (49, _)]) (.old rfl rfl <| .old rfl rfl <| .old rfl rfl <| .old rfl rfl <| .old rfl rfl <| .new rfl <| .nil)
    replace h_t := h_t.mono hle7
    replace hk_t := hk_t.mono hle7
    replace hs_t := hs_t.mono hle7
    replace hrw_t := hrw_t.mono hle7
    replace hc1 := hc1.mono hle7
    have hlh7 := hlh6.trans hle7
    replace hlq33 := hlq33.trans hle7
    replace hM := hM.trans hle7
    clear hst6 hfr6 hk7
    refine hK35 _ _ ?_; try clear hK35 K35
    refine cond_any hfr7 rfl rfl (fun hb49 => ?_) (fun hb49 => ?_)
    · try simp only [Bool.not_eq_true', Bool.not_eq_false', decide_eq_true_eq, decide_eq_false_iff_not, Bool.and_eq_true, Bool.or_eq_true, Bool.and_eq_false_iff, Bool.or_eq_false_iff, Bool.not_not, u8_eq] at hb49
      refine wp_skip ?_
      refine hK34 _ _ ?_; try clear hK34 K34
      refine seq_any fun K36 hK36 => ?_
      refine wp_block ?_
      refine seq_any fun K37 hK37 => ?_
      obtain ⟨p38, vs38, x38, ho38, hd38, hm_x38, ht38, hcv38, hl38, hv38⟩ := hk_t.nth (k := y) (by omega)
      cases ho38
      obtain ⟨o38, c38, oL38, cL38, rfl, hkd38, hs38, hi38, hj38, hr38⟩ := hv38.open_
      have hbg38 := hkd38.big; have hcp38 := hkd38.cap; have hbs38 := hs38.big; have hcs38 := hs38.cap
      have hrw38 : RwR _ ⟨x38.labels, x38.rv⟩ _ := ⟨_, _, rfl, hs38, hr38⟩
      try rw [hd38] at hrem
      try simp only [plainTs] at hrem
      refine region_plain (fun h => by cases h) hst7 hfr7 (by kernel_rfl) (by kernel_rfl) (.cons rfl (ob_fieldAddr rfl Tryd.underlying27 rfl Tryd.sizeOf22 rfl) <|
          .cons rfl (ob_load1 rfl hc1 Tryd.isAgg22 rfl) <|
          .cons rfl (ob_move rfl) <|
          .cons rfl (ob_indexAddr (k := y) rfl rfl Tryd.underlying22 Tryd.sizeOf27 rfl (by omega)) <|
          .cons rfl (ob_loadS' rfl hcv38 Tryd.isAgg27 Tryd.sizeOf27 rfl rfl) <|
          .cons rfl (ob_callE rfl (.cons rfl <| .nil) Tryd.call16 (fun w m hK => by have hle_ := KC.le hK; have hA := KC.agree hK; have hM := hM.trans hle_; have h_t := h_t.mono hle_; have hk_t := hk_t.mono hle_; have hs_t := hs_t.mono hle_; have hrw_t := hrw_t.mono hle_; have hc1 := hc1.mono hle_; have hcv38 := hcv38.mono hle_; have hv38 := hv38.mono hle_; have hkd38 := hkd38.mono hle_; have hs38 := hs38.mono hle_; have hrw38 := hrw38.mono hle_; exact ih _ (by assumption) hA (by assumption) (Nat.le_trans (hbk _ (by assumption)) hb))) <|
          .cons rfl (ob_not rfl) <|
          .nil) ?_
      intro a8 w8 m8 hst8 hle8 hk8
      have hfr8 := hk8.fr (T' := [(6, _), (3, _), (0, _), (2, _), (1, _), (58, _)]) (.old rfl rfl <| .old rfl rfl <| .old rfl rfl <| .old rfl rfl <| .old rfl rfl <| .new rfl <| .nil)
      replace h_t := h_t.mono hle8
      replace hk_t := hk_t.mono hle8
      replace hs_t := hs_t.mono hle8
      replace hrw_t := hrw_t.mono hle8
      replace hc1 := hc1.mono hle8
      replace hcv38 := hcv38.mono hle8
      replace hv38 := hv38.mono hle8
      replace hkd38 := hkd38.mono hle8
      replace hs38 := hs38.mono hle8
      replace hrw38 := hrw38.mono hle8
      have hlh8 := hlh7.trans hle8
      replace hlq33 := hlq33.trans hle8
      replace hM := hM.trans hle8
      clear hst7 hfr7 hk8
      refine hK37 _ _ ?_; try clear hK37 K37
      refine cond_any hfr8 rfl rfl (fun hb58 => ?_) (fun hb58 => ?_)
      · try simp only [Bool.not_eq_true', Bool.not_eq_false', decide_eq_true_eq, decide_eq_false_iff_not, Bool.and_eq_true, Bool.or_eq_true, Bool.and_eq_false_iff, Bool.or_eq_false_iff, Bool.not_not, u8_eq] at hb58
        refine seq_any fun K39 hK39 => ?_
        refine region_plain (fun h => by cases h) hst8 hfr8 (by kernel_rfl) (by kernel_rfl) (.cons rfl (ob_assign rfl) <|
            .nil) ?_
        intro a9 w9 m9 hst9 hle9 hk9
        have hfr9 := hk9.fr (T' := [(6, _), (3, _), (0, _), (1, _), (2, _)]) (.old rfl rfl <| .old rfl rfl <| .old rfl rfl <| .old rfl rfl <| .new rfl <| .nil)
        replace h_t := h_t.mono hle9
        replace hk_t := hk_t.mono hle9
        replace hs_t := hs_t.mono hle9
        replace hrw_t := hrw_t.mono hle9
        replace hc1 := hc1.mono hle9
        replace hcv38 := hcv38.mono hle9
        replace hv38 := hv38.mono hle9
        replace hkd38 := hkd38.mono hle9
        replace hs38 := hs38.mono hle9
        replace hrw38 := hrw38.mono hle9
        have hlh9 := hlh8.trans hle9
        replace hlq33 := hlq33.trans hle9
        replace hM := hM.trans hle9
        clear hst8 hfr8 hk9
        refine hK39 _ _ ?_; try clear hK39 K39
        refine wp_ret ?_
        repeat (with_reducible first | refine then_ret ?_ | refine block_ret ?_)
        exact fn_ret hst9 hfr9 rfl (.tmp rfl <| .nil) (by refine congrArg Value.bool ?_; rw [plainT_eq, ← hxs, hrem, hb58]; rfl)
      · try simp only [Bool.not_eq_true', Bool.not_eq_false', decide_eq_true_eq, decide_eq_false_iff_not, Bool.and_eq_true, Bool.or_eq_true, Bool.and_eq_false_iff, Bool.or_eq_false_iff, Bool.not_not, u8_eq] at hb58
        refine wp_skip ?_
        refine hK36 _ _ ?_; try clear hK36 K36
        refine region_plain (fun h => by cases h) hst8 hfr8 (by kernel_rfl) (by kernel_rfl) (.cons rfl (ob_move rfl) <|
            .cons rfl (ob_add rfl rfl ⟨by omega, by omega⟩) <|
            .cons rfl (ob_assign rfl) <|
            .nil) ?_
        intro a9 w9 m9 hst9 hle9 hk9
        have hfr9 := hk9.fr (T' := [(3, _), (0, _), (2, _), (1, _), (6, _)]) (.old rfl rfl <| .old rfl rfl <| .old rfl rfl <| .old rfl rfl <| .new rfl <| .nil)
        replace h_t := h_t.mono hle9
        replace hk_t := hk_t.mono hle9
        replace hs_t := hs_t.mono hle9
        replace hrw_t := hrw_t.mono hle9
        replace hc1 := hc1.mono hle9
        replace hcv38 := hcv38.mono hle9
        replace hv38 := hv38.mono hle9
        replace hkd38 := hkd38.mono hle9
        replace hs38 := hs38.mono hle9
        replace hrw38 := hrw38.mono hle9
        have hlh9 := hlh8.trans hle9
        replace hlq33 := hlq33.trans hle9
        replace hM := hM.trans hle9
        clear hst8 hfr8 hk9
        exact ⟨y + 1, m9, by show t.args.length - (y + 1) < t.args.length - y; omega, ⟨hst9, hlh9, hfr9.sub (.cons rfl <| .cons rfl <| .cons rfl <| .cons rfl <| .cons rfl <| .nil), ⟨by show y + 1 ≤ t.args.length; omega, by rw [hrem, hb58]; rfl⟩⟩⟩
    · try simp only [Bool.not_eq_true', Bool.not_eq_false', decide_eq_true_eq, decide_eq_false_iff_not, Bool.and_eq_true, Bool.or_eq_true, Bool.and_eq_false_iff, Bool.or_eq_false_iff, Bool.not_not, u8_eq] at hb49
      have hge : y = t.args.length := by omega
      rw [List.drop_of_length_le (by omega)] at hrem
      simp only [plainTs] at hrem
      refine wp_exit ?_
      refine hK31 _ _ ?_; try clear hK31 K31
      refine seq_any fun K41 hK41 => ?_
      refine region_plain (fun h => by cases h) hst7 hfr7 (by kernel_rfl) (by kernel_rfl) (.cons rfl (ob_assign rfl) <|
          .nil) ?_
      intro a8 w8 m8 hst8 hle8 hk8
      have hfr8 := hk8.fr (T' := [(6, _), (3, _), (0, _), (1, _), (2, _)]) (.old rfl rfl <| .old rfl rfl <| .old rfl rfl <| .old rfl rfl <| .new rfl <| .nil)
      replace h_t := h_t.mono hle8
      replace hk_t := hk_t.mono hle8
      replace hs_t := hs_t.mono hle8
      replace hrw_t := hrw_t.mono hle8
      replace hc1 := hc1.mono hle8
      have hlh8 := hlh7.trans hle8
      replace hlq33 := hlq33.trans hle8
      replace hM := hM.trans hle8
      clear hst7 hfr7 hk8
      refine hK41 _ _ ?_; try clear hK41 K41
      refine wp_ret ?_
      repeat (with_reducible first | refine then_ret ?_ | refine block_ret ?_)
      exact fn_ret hst8 hfr8 rfl (.tmp rfl <| .nil) (by refine congrArg Value.bool ?_; rw [plainT_eq, ← hxs, hrem]; rfl)
theorem plain_c (t : Ty) : plain_G t := Ty.rec_ (p := plain_G) (fun t ih => plain_s ih) t

set_option maxHeartbeats 400000 in
theorem typesUnlike_c {w : World} {m : Mem} {a : Ty} {vs_a : List Value} {b : Ty} {vs_b : List Value} (hA : Agree w m) (h_a : TyR m a vs_a) (h_b : TyR m b vs_b) (hT : Tab w) (hb_a : bulkT a ≤ 2097152) (hb_b : bulkT b ≤ 2097152) : FnV Tryd.prog 4 #[.agg vs_a.toArray, .agg vs_b.toArray] w m (fun _ _ v => v = .bool true) := by
  obtain ⟨o_a, c_a, oL_a, cL_a, rfl, hk_a, hs_a, hi_a, hj_a, hr_a⟩ := h_a.open_
  have hbg_a := hk_a.big; have hcp_a := hk_a.cap; have hbs_a := hs_a.big; have hcs_a := hs_a.cap
  have hrw_a : RwR _ ⟨a.labels, a.rv⟩ _ := ⟨_, _, rfl, hs_a, hr_a⟩
  obtain ⟨o_b, c_b, oL_b, cL_b, rfl, hk_b, hs_b, hi_b, hj_b, hr_b⟩ := h_b.open_
  have hbg_b := hk_b.big; have hcp_b := hk_b.cap; have hbs_b := hs_b.big; have hcs_b := hs_b.cap
  have hrw_b : RwR _ ⟨b.labels, b.rv⟩ _ := ⟨_, _, rfl, hs_b, hr_b⟩
  refine fn_enter (vs := [_, _]) Tryd.func4 rfl rfl rfl fun a0 hfr0 => ?_
  have hst0 := st_enter hA (loc_nil [] _ w m)
  have hM : MLe m m := MLe.refl m
  have hca := cnt_bulk a
  have hcb := cnt_bulk b
  refine seq_any fun K1 hK1 => ?_
  refine region_plain (fun h => by cases h) hst0 hfr0 (by kernel_rfl) (by kernel_rfl) (.cons rfl (ob_box rfl rfl) <|
      .cons rfl (ob_box rfl rfl) <|
      .cons rfl (ob_assign rfl) <|
      .nil) ?_
  intro a1 w1 m1 hst1 hle1 hk1
  have hfr1 := hk1.fr (T' := [(0, _), (1, _), (4, _)]) (.old rfl rfl <| .old rfl rfl <| .new rfl <| .nil)
  obtain ⟨g2, e2, hc2⟩ := hk1.ex 2 rfl
  replace hfr1 := hfr1.cons e2
  obtain ⟨g3, e3, hc3⟩ := hk1.ex 3 rfl
  replace hfr1 := hfr1.cons e3
  replace h_a := h_a.mono hle1
  replace hk_a := hk_a.mono hle1
  replace hs_a := hs_a.mono hle1
  replace hrw_a := hrw_a.mono hle1
  replace h_b := h_b.mono hle1
  replace hk_b := hk_b.mono hle1
  replace hs_b := hs_b.mono hle1
  replace hrw_b := hrw_b.mono hle1
  replace hM := hM.trans hle1
  clear hst0 hfr0 hk1
  refine hK1 _ _ ?_; try clear hK1 K1
  refine seq_any fun K4 hK4 => ?_
  refine region_plain (fun h => by cases h) hst1 hfr1 (by kernel_rfl) (by kernel_rfl) (.cons rfl (ob_callE rfl (.nil) Tryd.call11 (fun w m hK => by have hle_ := KC.le hK; have hA := KC.agree hK; have hM := hM.trans hle_; have hT := tab_keep hT hK.st.ext; have h_a := h_a.mono hle_; have hk_a := hk_a.mono hle_; have hs_a := hs_a.mono hle_; have hrw_a := hrw_a.mono hle_; have h_b := h_b.mono hle_; have hk_b := hk_b.mono hle_; have hs_b := hs_b.mono hle_; have hrw_b := hrw_b.mono hle_; have hc2 := hc2.mono hle_; have hc3 := hc3.mono hle_; exact shown_c hA (by first | assumption | omega | simp_all))) <|
      .cons rfl (ob_assign rfl) <|
      .nil) ?_
  intro a2 w2 m2 hst2 hle2 hk2
  have hfr2 := hk2.fr (T' := [(0, _), (1, _), (4, _), (2, _), (3, _), (5, _)]) (.old rfl rfl <| .old rfl rfl <| .old rfl rfl <| .old rfl rfl <| .old rfl rfl <| .new rfl <| .nil)
  replace h_a := h_a.mono hle2
  replace hk_a := hk_a.mono hle2
  replace hs_a := hs_a.mono hle2
  replace hrw_a := hrw_a.mono hle2
  replace h_b := h_b.mono hle2
  replace hk_b := hk_b.mono hle2
  replace hs_b := hs_b.mono hle2
  replace hrw_b := hrw_b.mono hle2
  replace hc2 := hc2.mono hle2
  replace hc3 := hc3.mono hle2
  replace hM := hM.trans hle2
  clear hst1 hfr1 hk2
  refine hK4 _ _ ?_; try clear hK4 K4
  refine seq_any fun K5 hK5 => ?_
  refine seq_any fun K6 hK6 => ?_
  refine region_plain (fun h => by cases h) hst2 hfr2 (by kernel_rfl) (by kernel_rfl) (.cons rfl (ob_loadS' rfl hc2 Tryd.isAgg27 Tryd.sizeOf27 rfl rfl) <|
      .cons rfl (ob_callE rfl (.cons rfl <| .nil) Tryd.call12 (fun w m hK => by have hle_ := KC.le hK; have hA := KC.agree hK; have hM := hM.trans hle_; have hT := tab_keep hT hK.st.ext; have h_a := h_a.mono hle_; exact count_c a hA h_a (by omega))) <|
      .cons rfl (ob_gtr rfl rfl) <|
      .cons rfl (ob_move rfl) <|
      .cons rfl (ob_loadS' rfl hc3 Tryd.isAgg27 Tryd.sizeOf27 rfl rfl) <|
      .cons rfl (ob_callE rfl (.cons rfl <| .nil) Tryd.call12 (fun w m hK => by have hle_ := KC.le hK; have hA := KC.agree hK; have hM := hM.trans hle_; have hT := tab_keep hT hK.st.ext; have h_b := h_b.mono hle_; exact count_c b hA h_b (by omega))) <|
      .cons rfl (ob_gtr rfl rfl) <|
      .cons rfl (ob_or rfl rfl rfl) <|
      .cons rfl (ob_move rfl) <|
      .cons rfl (ob_loadS' rfl hc2 Tryd.isAgg27 Tryd.sizeOf27 rfl rfl) <|
      .cons rfl (ob_callE rfl (.cons rfl <| .nil) Tryd.call13 (fun w m hK => by have hle_ := KC.le hK; have hA := KC.agree hK; have hM := hM.trans hle_; have hT := tab_keep hT hK.st.ext; have h_a := h_a.mono hle_; exact right0_c (t := a) hA h_a)) <|
      .cons rfl (ob_not rfl) <|
      .cons rfl (ob_or rfl rfl rfl) <|
      .cons rfl (ob_move rfl) <|
      .cons rfl (ob_loadS' rfl hc3 Tryd.isAgg27 Tryd.sizeOf27 rfl rfl) <|
      .cons rfl (ob_callE rfl (.cons rfl <| .nil) Tryd.call13 (fun w m hK => by have hle_ := KC.le hK; have hA := KC.agree hK; have hM := hM.trans hle_; have hT := tab_keep hT hK.st.ext; have h_b := h_b.mono hle_; exact right0_c (t := b) hA h_b)) <|
      .cons rfl (ob_not rfl) <|
      .cons rfl (ob_or rfl rfl rfl) <|
      .cons rfl (ob_move rfl) <|
      .cons rfl (ob_loadS' rfl hc2 Tryd.isAgg27 Tryd.sizeOf27 rfl rfl) <|
      .cons rfl (ob_callE rfl (.cons rfl <| .nil) Tryd.call16 (fun w m hK => by have hle_ := KC.le hK; have hA := KC.agree hK; have hM := hM.trans hle_; have hT := tab_keep hT hK.st.ext; have h_a := h_a.mono hle_; exact plain_c a hA h_a hb_a)) <|
      .cons rfl (ob_not rfl) <|
      .cons rfl (ob_or rfl rfl rfl) <|
      .cons rfl (ob_move rfl) <|
      .cons rfl (ob_loadS' rfl hc3 Tryd.isAgg27 Tryd.sizeOf27 rfl rfl) <|
      .cons rfl (ob_callE rfl (.cons rfl <| .nil) Tryd.call16 (fun w m hK => by have hle_ := KC.le hK; have hA := KC.agree hK; have hM := hM.trans hle_; have hT := tab_keep hT hK.st.ext; have h_b := h_b.mono hle_; exact plain_c b hA h_b hb_b)) <|
      .cons rfl (ob_not rfl) <|
      .cons rfl (ob_or rfl rfl rfl) <|
      .nil) ?_
  intro a3 w3 m3 hst3 hle3 hk3
  have hfr3 := hk3.fr (T' := [(0, _), (1, _), (4, _), (2, _), (3, _), (5, _), (34, _)]) (.old rfl rfl <| .old rfl rfl <| .old rfl rfl <| .old rfl rfl <| .old rfl rfl <| .old rfl rfl <| .new rfl <| .nil)
  replace h_a := h_a.mono hle3
  replace hk_a := hk_a.mono hle3
  replace hs_a := hs_a.mono hle3
  replace hrw_a := hrw_a.mono hle3
  replace h_b := h_b.mono hle3
  replace hk_b := hk_b.mono hle3
  replace hs_b := hs_b.mono hle3
  replace hrw_b := hrw_b.mono hle3
  replace hc2 := hc2.mono hle3
  replace hc3 := hc3.mono hle3
  replace hM := hM.trans hle3
  clear hst2 hfr2 hk3
  refine hK6 _ _ ?_; try clear hK6 K6
  refine cond_any hfr3 rfl rfl (fun hb34 => ?_) (fun hb34 => ?_)
  · try simp only [Bool.not_eq_true', Bool.not_eq_false', decide_eq_true_eq, decide_eq_false_iff_not, Bool.and_eq_true, Bool.or_eq_true, Bool.and_eq_false_iff, Bool.or_eq_false_iff, Bool.not_not, u8_eq] at hb34
    refine seq_any fun K7 hK7 => ?_
    refine region_plain (fun h => by cases h) hst3 hfr3 (by kernel_rfl) (by kernel_rfl) (.cons rfl (ob_move rfl) <|
        .cons rfl (ob_assign rfl) <|
        .nil) ?_
    intro a4 w4 m4 hst4 hle4 hk4
    have hfr4 := hk4.fr (T' := [(0, _), (1, _), (2, _), (3, _), (5, _), (4, _)]) (.old rfl rfl <| .old rfl rfl <| .old rfl rfl <| .old rfl rfl <| .old rfl rfl <| .new rfl <| .nil)
    replace h_a := h_a.mono hle4
    replace hk_a := hk_a.mono hle4
    replace hs_a := hs_a.mono hle4
    replace hrw_a := hrw_a.mono hle4
    replace h_b := h_b.mono hle4
    replace hk_b := hk_b.mono hle4
    replace hs_b := hs_b.mono hle4
    replace hrw_b := hrw_b.mono hle4
    replace hc2 := hc2.mono hle4
    replace hc3 := hc3.mono hle4
    replace hM := hM.trans hle4
    clear hst3 hfr3 hk4
    refine hK7 _ _ ?_; try clear hK7 K7
    refine wp_ret ?_
    repeat (with_reducible first | refine then_ret ?_ | refine block_ret ?_)
    exact fn_ret hst4 hfr4 rfl (.tmp rfl <| .nil) (rfl)
  · try simp only [Bool.not_eq_true', Bool.not_eq_false', decide_eq_true_eq, decide_eq_false_iff_not, Bool.and_eq_true, Bool.or_eq_true, Bool.and_eq_false_iff, Bool.or_eq_false_iff, Bool.not_not, u8_eq] at hb34
    have hq : rightT a = true ∧ rightT b = true ∧ plainT a = true ∧ plainT b = true := by simp_all
    have htt := texts_same hq.1 hq.2.1 hq.2.2.1 hq.2.2.2
    refine wp_skip ?_
    refine hK5 _ _ ?_; try clear hK5 K5
    refine seq_any fun K9 hK9 => ?_
    refine region_plain (fun _ => mixed) hst3 hfr3 (by kernel_rfl) (by kernel_rfl) (.cons rfl (ob_move rfl) <|
        .cons rfl (ob_move rfl) <|
        .cons rfl (ob_loadS' rfl hc2 Tryd.isAgg27 Tryd.sizeOf27 rfl rfl) <|
        .cons rfl (ob_callE rfl (.cons rfl <| .nil) Tryd.call14 (fun w m hK => by have hle_ := KC.le hK; have hA := KC.agree hK; have hM := hM.trans hle_; have hT := tab_keep hT hK.st.ext; have h_a := h_a.mono hle_; exact text_c a hA h_a hT (by omega))) <|
        .cons rfl (ob_loadS' rfl hc3 Tryd.isAgg27 Tryd.sizeOf27 rfl rfl) <|
        .cons rfl (ob_callE rfl (.cons rfl <| .nil) Tryd.call14 (fun w m hK => by have hle_ := KC.le hK; have hA := KC.agree hK; have hM := hM.trans hle_; have hT := tab_keep hT hK.st.ext; have h_b := h_b.mono hle_; exact text_c b hA h_b hT (by omega))) <|
        .cons rfl (ob_seql rfl rfl) <|
        .cons rfl (ob_loadS' rfl hc2 Tryd.isAgg27 Tryd.sizeOf27 rfl rfl) <|
        .cons rfl (ob_loadS' rfl hc3 Tryd.isAgg27 Tryd.sizeOf27 rfl rfl) <|
        .cons rfl (ob_callE rfl (.cons rfl <| .cons rfl <| .nil) Tryd.call17 (fun w m hK => by have hle_ := KC.le hK; have hA := KC.agree hK; have hM := hM.trans hle_; have hT := tab_keep hT hK.st.ext; have h_a := h_a.mono hle_; have h_b := h_b.mono hle_; exact same_c a (u := b) hA h_a h_b)) <|
        .cons rfl (ob_beql rfl rfl Tryd.underlying4) <|
        .cons rfl (ob_and rfl rfl rfl) <|
        .cons rfl (ob_assign rfl) <|
        .nil) ?_
    intro a4 w4 m4 hst4 hle4 hk4
    have hfr4 := hk4.fr (T' := [(0, _), (1, _), (2, _), (3, _), (5, _), (4, _)]) (.old rfl rfl <| .old rfl rfl <| .old rfl rfl <| .old rfl rfl <| .old rfl rfl <| .new rfl <| .nil)
    replace h_a := h_a.mono hle4
    replace hk_a := hk_a.mono hle4
    replace hs_a := hs_a.mono hle4
    replace hrw_a := hrw_a.mono hle4
    replace h_b := h_b.mono hle4
    replace hk_b := hk_b.mono hle4
    replace hs_b := hs_b.mono hle4
    replace hrw_b := hrw_b.mono hle4
    replace hc2 := hc2.mono hle4
    replace hc3 := hc3.mono hle4
    replace hM := hM.trans hle4
    clear hst3 hfr3 hk4
    refine hK9 _ _ ?_; try clear hK9 K9
    refine wp_ret ?_
    repeat (with_reducible first | refine then_ret ?_ | refine block_ret ?_)
    exact fn_ret hst4 hfr4 rfl (.tmp rfl <| .nil) (by refine congrArg Value.bool ?_; rw [htt]; simp)

end Go.Proofs.YtembdjghbphcdaaDoor
