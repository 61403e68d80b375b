/-
  'brocadelaw04': the walk of the law. Conditions: those of each theorem.
-/
import Derived.Test.YtembdjghbphcdaaDoorShown1
import Derived.Test.YtembdjghbphcdaaDoorRefText
namespace Go.Proofs.YtembdjghbphcdaaDoor
set_option linter.all false
set_option maxRecDepth 4000
open Go.RowKit
open Go.Lib (itoa decDigits)
theorem cnt_bulk (t : Ty) : cntT t ≤ bulkT t := by
  induction t using Ty.rec_ with
  | h t ih =>
    have hk := args_all t ih (fun l => cntTs l ≤ bulkTs l) (by simp [cntTs, bulkTs]) (fun x l hx hl => by simp only [cntTs, bulkTs]; omega)
    rw [cntT_eq, bulkT_eq]; omega

set_option maxHeartbeats 400000 in
theorem typesTexts_c {w : World} {m : Mem} {t : Ty} {vs_t : List Value} (hA : Agree w m) (h_t : TyR m t vs_t) (hT : Tab w) (hb_t : bulkT t ≤ 2097152) : FnV Tryd.prog 3 #[.agg vs_t.toArray] w m (fun _ _ v => v = .bool true) := by
  obtain ⟨o_t, c_t, oL_t, cL_t, rfl, hk_t, hs_t, hi_t, hj_t, hr_t⟩ := h_t.open_
  have hbg_t := hk_t.big; have hcp_t := hk_t.cap; have hbs_t := hs_t.big; have hcs_t := hs_t.cap
  have hrw_t : RwR _ ⟨t.labels, t.rv⟩ _ := ⟨_, _, rfl, hs_t, hr_t⟩
  refine fn_enter (vs := [_]) Tryd.func3 rfl rfl rfl fun a0 hfr0 => ?_
  have hst0 := st_enter hA (loc_nil [] _ w m)
  have hM : MLe m m := MLe.refl m
  have hcb := cnt_bulk t
  refine seq_any fun K1 hK1 => ?_
  refine region_plain (fun h => by cases h) hst0 hfr0 (by kernel_rfl) (by kernel_rfl) (.cons rfl (ob_box rfl rfl) <|
      .cons rfl (ob_assign rfl) <|
      .nil) ?_
  intro a1 w1 m1 hst1 hle1 hk1
  have hfr1 := hk1.fr (T' := [(0, _), (2, _)]) (.old rfl rfl <| .new rfl <| .nil)
  obtain ⟨g2, e2, hc1⟩ := hk1.ex 1 rfl
  replace hfr1 := hfr1.cons e2
  replace h_t := h_t.mono hle1
  replace hk_t := hk_t.mono hle1
  replace hs_t := hs_t.mono hle1
  replace hrw_t := hrw_t.mono hle1
  replace hM := hM.trans hle1
  clear hst0 hfr0 hk1
  refine hK1 _ _ ?_; try clear hK1 K1
  refine seq_any fun K3 hK3 => ?_
  refine region_plain (fun h => by cases h) hst1 hfr1 (by kernel_rfl) (by kernel_rfl) (.cons rfl (ob_callE rfl (.nil) Tryd.call11 (fun w m hK => by have hle_ := KC.le hK; have hA := KC.agree hK; have hM := hM.trans hle_; have hT := tab_keep hT hK.st.ext; have h_t := h_t.mono hle_; have hk_t := hk_t.mono hle_; have hs_t := hs_t.mono hle_; have hrw_t := hrw_t.mono hle_; have hc1 := hc1.mono hle_; exact shown_c hA (by first | assumption | omega | simp_all))) <|
      .cons rfl (ob_assign rfl) <|
      .nil) ?_
  intro a2 w2 m2 hst2 hle2 hk2
  have hfr2 := hk2.fr (T' := [(0, _), (2, _), (1, _), (3, _)]) (.old rfl rfl <| .old rfl rfl <| .old rfl rfl <| .new rfl <| .nil)
  replace h_t := h_t.mono hle2
  replace hk_t := hk_t.mono hle2
  replace hs_t := hs_t.mono hle2
  replace hrw_t := hrw_t.mono hle2
  replace hc1 := hc1.mono hle2
  replace hM := hM.trans hle2
  clear hst1 hfr1 hk2
  refine hK3 _ _ ?_; try clear hK3 K3
  refine seq_any fun K4 hK4 => ?_
  refine seq_any fun K5 hK5 => ?_
  refine region_plain (fun h => by cases h) hst2 hfr2 (by kernel_rfl) (by kernel_rfl) (.cons rfl (ob_loadS' rfl hc1 Tryd.isAgg27 Tryd.sizeOf27 rfl rfl) <|
      .cons rfl (ob_callE rfl (.cons rfl <| .nil) Tryd.call12 (fun w m hK => by have hle_ := KC.le hK; have hA := KC.agree hK; have hM := hM.trans hle_; have hT := tab_keep hT hK.st.ext; have h_t := h_t.mono hle_; exact count_c t hA h_t (by omega))) <|
      .cons rfl (ob_gtr rfl rfl) <|
      .cons rfl (ob_move rfl) <|
      .cons rfl (ob_loadS' rfl hc1 Tryd.isAgg27 Tryd.sizeOf27 rfl rfl) <|
      .cons rfl (ob_callE rfl (.cons rfl <| .nil) Tryd.call13 (fun w m hK => by have hle_ := KC.le hK; have hA := KC.agree hK; have hM := hM.trans hle_; have hT := tab_keep hT hK.st.ext; have h_t := h_t.mono hle_; exact right0_c (t := t) hA h_t)) <|
      .cons rfl (ob_not rfl) <|
      .cons rfl (ob_or rfl rfl rfl) <|
      .nil) ?_
  intro a3 w3 m3 hst3 hle3 hk3
  have hfr3 := hk3.fr (T' := [(0, _), (2, _), (1, _), (3, _), (12, _)]) (.old rfl rfl <| .old rfl rfl <| .old rfl rfl <| .old rfl rfl <| .new rfl <| .nil)
  replace h_t := h_t.mono hle3
  replace hk_t := hk_t.mono hle3
  replace hs_t := hs_t.mono hle3
  replace hrw_t := hrw_t.mono hle3
  replace hc1 := hc1.mono hle3
  replace hM := hM.trans hle3
  clear hst2 hfr2 hk3
  refine hK5 _ _ ?_; try clear hK5 K5
  refine cond_any hfr3 rfl rfl (fun hb12 => ?_) (fun hb12 => ?_)
  · try simp only [Bool.not_eq_true', Bool.not_eq_false', decide_eq_true_eq, decide_eq_false_iff_not, Bool.and_eq_true, Bool.or_eq_true, Bool.and_eq_false_iff, Bool.or_eq_false_iff, Bool.not_not, u8_eq] at hb12
    refine seq_any fun K6 hK6 => ?_
    refine region_plain (fun h => by cases h) hst3 hfr3 (by kernel_rfl) (by kernel_rfl) (.cons rfl (ob_move rfl) <|
        .cons rfl (ob_assign rfl) <|
        .nil) ?_
    intro a4 w4 m4 hst4 hle4 hk4
    have hfr4 := hk4.fr (T' := [(0, _), (1, _), (3, _), (2, _)]) (.old rfl rfl <| .old rfl rfl <| .old rfl rfl <| .new rfl <| .nil)
    replace h_t := h_t.mono hle4
    replace hk_t := hk_t.mono hle4
    replace hs_t := hs_t.mono hle4
    replace hrw_t := hrw_t.mono hle4
    replace hc1 := hc1.mono hle4
    replace hM := hM.trans hle4
    clear hst3 hfr3 hk4
    refine hK6 _ _ ?_; try clear hK6 K6
    refine wp_ret ?_
    repeat (with_reducible first | refine then_ret ?_ | refine block_ret ?_)
    exact fn_ret hst4 hfr4 rfl (.tmp rfl <| .nil) (rfl)
  · try simp only [Bool.not_eq_true', Bool.not_eq_false', decide_eq_true_eq, decide_eq_false_iff_not, Bool.and_eq_true, Bool.or_eq_true, Bool.and_eq_false_iff, Bool.or_eq_false_iff, Bool.not_not, u8_eq] at hb12
    have hrr : rightT t = true := by simp_all
    refine wp_skip ?_
    refine hK4 _ _ ?_; try clear hK4 K4
    refine seq_any fun K8 hK8 => ?_
    refine region_plain (fun _ => mixed) hst3 hfr3 (by kernel_rfl) (by kernel_rfl) (.cons rfl (ob_move rfl) <|
        .cons rfl (ob_move rfl) <|
        .cons rfl (ob_loadS' rfl hc1 Tryd.isAgg27 Tryd.sizeOf27 rfl rfl) <|
        .cons rfl (ob_callE rfl (.cons rfl <| .nil) Tryd.call14 (fun w m hK => by have hle_ := KC.le hK; have hA := KC.agree hK; have hM := hM.trans hle_; have hT := tab_keep hT hK.st.ext; have h_t := h_t.mono hle_; exact text_c t hA h_t hT (by omega))) <|
        .cons rfl (ob_loadS' rfl hc1 Tryd.isAgg27 Tryd.sizeOf27 rfl rfl) <|
        .cons rfl (ob_callE rfl (.cons rfl <| .nil) Tryd.call15 (fun w m hK => by have hle_ := KC.le hK; have hA := KC.agree hK; have hM := hM.trans hle_; have hT := tab_keep hT hK.st.ext; have h_t := h_t.mono hle_; exact rtext_c t hA h_t hrr (by omega))) <|
        .cons rfl (ob_seql rfl rfl) <|
        .cons rfl (ob_and rfl rfl rfl) <|
        .cons rfl (ob_assign rfl) <|
        .nil) ?_
    intro a4 w4 m4 hst4 hle4 hk4
    have hfr4 := hk4.fr (T' := [(0, _), (1, _), (3, _), (2, _)]) (.old rfl rfl <| .old rfl rfl <| .old rfl rfl <| .new rfl <| .nil)
    replace h_t := h_t.mono hle4
    replace hk_t := hk_t.mono hle4
    replace hs_t := hs_t.mono hle4
    replace hrw_t := hrw_t.mono hle4
    replace hc1 := hc1.mono hle4
    replace hM := hM.trans hle4
    clear hst3 hfr3 hk4
    refine hK8 _ _ ?_; try clear hK8 K8
    refine wp_ret ?_
    repeat (with_reducible first | refine then_ret ?_ | refine block_ret ?_)
    exact fn_ret hst4 hfr4 rfl (.tmp rfl <| .nil) (by refine congrArg Value.bool ?_; simp)

end Go.Proofs.YtembdjghbphcdaaDoor
