/-
  'brocadelaw11': the walk of the law. Conditions: those of each theorem.
-/
import Derived.Test.YtineijefefjpeaaDoorShown1
import Derived.Test.YtineijefefjpeaaDoorPlain2
import Derived.Test.YtineijefefjpeaaDoorPlain3
namespace Go.Proofs.YtineijefefjpeaaDoor
set_option linter.all false
open Go.RowKit
open Go.Lib (itoa formatBool decDigits)
set_option maxHeartbeats 400000 in
theorem valueTexts_c {w : World} {m : Mem} {t : VT} {vs_t : List Value} {u : VT} {vs_u : List Value} (hA : Agree w m) (h_t : VR m t vs_t) (h_u : VR m u vs_u) (hT : Tab w) (hb_t : bulkV t ≤ 1048576) (hb_u : bulkV u ≤ 1048576) : FnV Tryd.prog 6 #[.agg vs_t.toArray, .agg vs_u.toArray] w m (fun _ _ v => v = .bool true) := by
  obtain ⟨o_t, c_t, rfl, hk_t, hi_t, hj_t⟩ := h_t.open_
  have hbg_t := hk_t.big; have hcp_t := hk_t.cap
  obtain ⟨o_u, c_u, rfl, hk_u, hi_u, hj_u⟩ := h_u.open_
  have hbg_u := hk_u.big; have hcp_u := hk_u.cap
  refine fn_enter (vs := [_, _]) Tryd.func6 rfl rfl rfl fun a0 hfr0 => ?_
  have hst0 := st_enter hA (loc_nil [] _ w m)
  have hM : MLe m m := MLe.refl m
  have hb : bulkV t ≤ 1073741824 := by omega
  have hb2 : bulkV u ≤ 1073741824 := by omega
  refine seq_any fun K1 hK1 => ?_
  refine region_plain (fun h => by cases h) hst0 hfr0 (by kernel_rfl) (by kernel_rfl) (.cons rfl (ob_box rfl rfl) <|
      .cons rfl (ob_box rfl rfl) <|
      .cons rfl (ob_assign rfl) <|
      .nil) ?_
  intro a1 w1 m1 hst1 hle1 hk1
  have hfr1 := hk1.fr (T' := [(0, _), (1, _), (4, _)]) (.old rfl rfl <| .old rfl rfl <| .new rfl <| .nil)
  obtain ⟨g2, e2, hc2⟩ := hk1.ex 2 rfl
  replace hfr1 := hfr1.cons e2
  obtain ⟨g3, e3, hc3⟩ := hk1.ex 3 rfl
  replace hfr1 := hfr1.cons e3
  replace h_t := h_t.mono hle1
  replace hk_t := hk_t.mono hle1
  replace h_u := h_u.mono hle1
  replace hk_u := hk_u.mono hle1
  replace hM := hM.trans hle1
  clear hst0 hfr0 hk1
  refine hK1 _ _ ?_; try clear hK1 K1
  refine seq_any fun K4 hK4 => ?_
  refine region_plain (fun h => by cases h) hst1 hfr1 (by kernel_rfl) (by kernel_rfl) (.cons rfl (ob_callE rfl (.nil) Tryd.call11 (fun w m hK => by have hle_ := KC.le hK; have hA := KC.agree hK; have hM := hM.trans hle_; have hT := tab_keep hT hK.st.ext; have h_t := h_t.mono hle_; have hk_t := hk_t.mono hle_; have h_u := h_u.mono hle_; have hk_u := hk_u.mono hle_; have hc2 := hc2.mono hle_; have hc3 := hc3.mono hle_; exact shown_c hA (by first | assumption | omega | simp_all))) <|
      .cons rfl (ob_assign rfl) <|
      .nil) ?_
  intro a2 w2 m2 hst2 hle2 hk2
  have hfr2 := hk2.fr (T' := [(0, _), (1, _), (4, _), (2, _), (3, _), (5, _)]) (.old rfl rfl <| .old rfl rfl <| .old rfl rfl <| .old rfl rfl <| .old rfl rfl <| .new rfl <| .nil)
  replace h_t := h_t.mono hle2
  replace hk_t := hk_t.mono hle2
  replace h_u := h_u.mono hle2
  replace hk_u := hk_u.mono hle2
  replace hc2 := hc2.mono hle2
  replace hc3 := hc3.mono hle2
  replace hM := hM.trans hle2
  clear hst1 hfr1 hk2
  refine hK4 _ _ ?_; try clear hK4 K4
  refine seq_any fun K5 hK5 => ?_
  refine seq_any fun K6 hK6 => ?_
  refine region_plain (fun h => by cases h) hst2 hfr2 (by kernel_rfl) (by kernel_rfl) (.cons rfl (ob_loadS' rfl hc2 Tryd.isAgg24 Tryd.sizeOf24 rfl rfl) <|
      .cons rfl (ob_callE rfl (.cons rfl <| .nil) Tryd.call16 (fun w m hK => by have hle_ := KC.le hK; have hA := KC.agree hK; have hM := hM.trans hle_; have hT := tab_keep hT hK.st.ext; have h_t := h_t.mono hle_; exact first_c (t := t) hA h_t)) <|
      .cons rfl (ob_not rfl) <|
      .cons rfl (ob_move rfl) <|
      .cons rfl (ob_loadS' rfl hc3 Tryd.isAgg24 Tryd.sizeOf24 rfl rfl) <|
      .cons rfl (ob_callE rfl (.cons rfl <| .nil) Tryd.call16 (fun w m hK => by have hle_ := KC.le hK; have hA := KC.agree hK; have hM := hM.trans hle_; have hT := tab_keep hT hK.st.ext; have h_u := h_u.mono hle_; exact first_c (t := u) hA h_u)) <|
      .cons rfl (ob_not rfl) <|
      .cons rfl (ob_or rfl rfl rfl) <|
      .cons rfl (ob_move rfl) <|
      .cons rfl (ob_loadS' rfl hc2 Tryd.isAgg24 Tryd.sizeOf24 rfl rfl) <|
      .cons rfl (ob_callE rfl (.cons rfl <| .nil) Tryd.call24 (fun w m hK => by have hle_ := KC.le hK; have hA := KC.agree hK; have hM := hM.trans hle_; have hT := tab_keep hT hK.st.ext; have h_t := h_t.mono hle_; exact named_c t hA h_t hb)) <|
      .cons rfl (ob_not rfl) <|
      .cons rfl (ob_or rfl rfl rfl) <|
      .cons rfl (ob_move rfl) <|
      .cons rfl (ob_loadS' rfl hc3 Tryd.isAgg24 Tryd.sizeOf24 rfl rfl) <|
      .cons rfl (ob_callE rfl (.cons rfl <| .nil) Tryd.call24 (fun w m hK => by have hle_ := KC.le hK; have hA := KC.agree hK; have hM := hM.trans hle_; have hT := tab_keep hT hK.st.ext; have h_u := h_u.mono hle_; exact named_c u hA h_u hb2)) <|
      .cons rfl (ob_not rfl) <|
      .cons rfl (ob_or rfl rfl rfl) <|
      .nil) ?_
  intro a3 w3 m3 hst3 hle3 hk3
  have hfr3 := hk3.fr (T' := [(0, _), (1, _), (4, _), (2, _), (3, _), (5, _), (29, _)]) (.old rfl rfl <| .old rfl rfl <| .old rfl rfl <| .old rfl rfl <| .old rfl rfl <| .old rfl rfl <| .new rfl <| .nil)
  replace h_t := h_t.mono hle3
  replace hk_t := hk_t.mono hle3
  replace h_u := h_u.mono hle3
  replace hk_u := hk_u.mono hle3
  replace hc2 := hc2.mono hle3
  replace hc3 := hc3.mono hle3
  replace hM := hM.trans hle3
  clear hst2 hfr2 hk3
  refine hK6 _ _ ?_; try clear hK6 K6
  refine cond_any hfr3 rfl rfl (fun hb29 => ?_) (fun hb29 => ?_)
  · try simp only [Bool.not_eq_true', Bool.not_eq_false', decide_eq_true_eq, decide_eq_false_iff_not, Bool.and_eq_true, Bool.or_eq_true, Bool.and_eq_false_iff, Bool.or_eq_false_iff, Bool.not_not, u8_eq] at hb29
    refine seq_any fun K7 hK7 => ?_
    refine region_plain (fun h => by cases h) hst3 hfr3 (by kernel_rfl) (by kernel_rfl) (.cons rfl (ob_move rfl) <|
        .cons rfl (ob_assign rfl) <|
        .nil) ?_
    intro a4 w4 m4 hst4 hle4 hk4
    have hfr4 := hk4.fr (T' := [(0, _), (1, _), (2, _), (3, _), (5, _), (4, _)]) (.old rfl rfl <| .old rfl rfl <| .old rfl rfl <| .old rfl rfl <| .old rfl rfl <| .new rfl <| .nil)
    replace h_t := h_t.mono hle4
    replace hk_t := hk_t.mono hle4
    replace h_u := h_u.mono hle4
    replace hk_u := hk_u.mono hle4
    replace hc2 := hc2.mono hle4
    replace hc3 := hc3.mono hle4
    replace hM := hM.trans hle4
    clear hst3 hfr3 hk4
    refine hK7 _ _ ?_; try clear hK7 K7
    refine wp_ret ?_
    repeat (with_reducible first | refine then_ret ?_ | refine block_ret ?_)
    exact fn_ret hst4 hfr4 rfl (.tmp rfl <| .nil) (rfl)
  · try simp only [Bool.not_eq_true', Bool.not_eq_false', decide_eq_true_eq, decide_eq_false_iff_not, Bool.and_eq_true, Bool.or_eq_true, Bool.and_eq_false_iff, Bool.or_eq_false_iff, Bool.not_not, u8_eq] at hb29
    refine wp_skip ?_
    refine hK5 _ _ ?_; try clear hK5 K5
    refine seq_any fun K9 hK9 => ?_
    refine region_plain (fun h => by cases h) hst3 hfr3 (by kernel_rfl) (by kernel_rfl) (.cons rfl (ob_loadS' rfl hc2 Tryd.isAgg24 Tryd.sizeOf24 rfl rfl) <|
        .cons rfl (ob_callE rfl (.cons rfl <| .nil) Tryd.call12 (fun w m hK => by have hle_ := KC.le hK; have hA := KC.agree hK; have hM := hM.trans hle_; have hT := tab_keep hT hK.st.ext; have h_t := h_t.mono hle_; exact text0_c (t := t) hA h_t hT hb)) <|
        .cons rfl (ob_move rfl) <|
        .cons rfl (ob_extract rfl rfl) <|
        .cons rfl (ob_extract rfl rfl) <|
        .cons rfl (ob_assign rfl) <|
        .cons rfl (ob_assign rfl) <|
        .nil) ?_
    intro a4 w4 m4 hst4 hle4 hk4
    have hfr4 := hk4.fr (T' := [(0, _), (1, _), (4, _), (2, _), (3, _), (5, _), (6, _), (7, _)]) (.old rfl rfl <| .old rfl rfl <| .old rfl rfl <| .old rfl rfl <| .old rfl rfl <| .old rfl rfl <| .new rfl <| .new rfl <| .nil)
    replace h_t := h_t.mono hle4
    replace hk_t := hk_t.mono hle4
    replace h_u := h_u.mono hle4
    replace hk_u := hk_u.mono hle4
    replace hc2 := hc2.mono hle4
    replace hc3 := hc3.mono hle4
    replace hM := hM.trans hle4
    clear hst3 hfr3 hk4
    refine hK9 _ _ ?_; try clear hK9 K9
    refine seq_any fun K10 hK10 => ?_
    refine region_plain (fun h => by cases h) hst4 hfr4 (by kernel_rfl) (by kernel_rfl) (.cons rfl (ob_loadS' rfl hc3 Tryd.isAgg24 Tryd.sizeOf24 rfl rfl) <|
        .cons rfl (ob_callE rfl (.cons rfl <| .nil) Tryd.call12 (fun w m hK => by have hle_ := KC.le hK; have hA := KC.agree hK; have hM := hM.trans hle_; have hT := tab_keep hT hK.st.ext; have h_u := h_u.mono hle_; exact text0_c (t := u) hA h_u hT hb2)) <|
        .cons rfl (ob_move rfl) <|
        .cons rfl (ob_extract rfl rfl) <|
        .cons rfl (ob_extract rfl rfl) <|
        .cons rfl (ob_assign rfl) <|
        .cons rfl (ob_assign rfl) <|
        .nil) ?_
    intro a5 w5 m5 hst5 hle5 hk5
    have hfr5 := hk5.fr (T' := [(0, _), (1, _), (4, _), (2, _), (3, _), (5, _), (6, _), (7, _), (8, _), (9, _)]) (.old rfl rfl <| .old rfl rfl <| .old rfl rfl <| .old rfl rfl <| .old rfl rfl <| .old rfl rfl <| .old rfl rfl <| .old rfl rfl <| .new rfl <| .new rfl <| .nil)
    replace h_t := h_t.mono hle5
    replace hk_t := hk_t.mono hle5
    replace h_u := h_u.mono hle5
    replace hk_u := hk_u.mono hle5
    replace hc2 := hc2.mono hle5
    replace hc3 := hc3.mono hle5
    replace hM := hM.trans hle5
    clear hst4 hfr4 hk5
    refine hK10 _ _ ?_; try clear hK10 K10
    refine seq_any fun K11 hK11 => ?_
    refine region_plain (fun h => by cases h) hst5 hfr5 (by kernel_rfl) (by kernel_rfl) (.cons rfl (ob_loadS' rfl hc2 Tryd.isAgg24 Tryd.sizeOf24 rfl rfl) <|
        .cons rfl (ob_loadS' rfl hc3 Tryd.isAgg24 Tryd.sizeOf24 rfl rfl) <|
        .cons rfl (ob_callE rfl (.cons rfl <| .cons rfl <| .nil) Tryd.call18 (fun w m hK => by have hle_ := KC.le hK; have hA := KC.agree hK; have hM := hM.trans hle_; have hT := tab_keep hT hK.st.ext; have h_t := h_t.mono hle_; have h_u := h_u.mono hle_; exact same_c t (u := u) hA h_t h_u)) <|
        .cons rfl (ob_assign rfl) <|
        .nil) ?_
    intro a6 w6 m6 hst6 hle6 hk6
    have hfr6 := hk6.fr (T' := [(0, _), (1, _), (4, _), (2, _), (3, _), (5, _), (6, _), (7, _), (8, _), (9, _), (10, _)]) (.old rfl rfl <| .old rfl rfl <| .old rfl rfl <| .old rfl rfl <| .old rfl rfl <| .old rfl rfl <| .old rfl rfl <| .old rfl rfl <| .old rfl rfl <| .old rfl rfl <| .new rfl <| .nil)
    replace h_t := h_t.mono hle6
    replace hk_t := hk_t.mono hle6
    replace h_u := h_u.mono hle6
    replace hk_u := hk_u.mono hle6
    replace hc2 := hc2.mono hle6
    replace hc3 := hc3.mono hle6
    replace hM := hM.trans hle6
    clear hst5 hfr5 hk6
    refine hK11 _ _ ?_; try clear hK11 K11
    refine seq_any fun K12 hK12 => ?_
    refine region_plain (fun h => by cases h) hst6 hfr6 (by kernel_rfl) (by kernel_rfl) (.cons rfl (ob_move rfl) <|
        .cons rfl (ob_move rfl) <|
        .cons rfl (ob_move rfl) <|
        .cons rfl (ob_eql rfl rfl) <|
        .cons rfl (ob_and rfl rfl rfl) <|
        .cons rfl (ob_move rfl) <|
        .cons rfl (ob_move rfl) <|
        .cons rfl (ob_eql rfl rfl) <|
        .cons rfl (ob_and rfl rfl rfl) <|
        .cons rfl (ob_move rfl) <|
        .cons rfl (ob_move rfl) <|
        .cons rfl (ob_move rfl) <|
        .cons rfl (ob_move rfl) <|
        .cons rfl (ob_seql rfl rfl) <|
        .cons rfl (ob_beql rfl rfl Tryd.underlying4) <|
        .cons rfl (ob_and rfl rfl rfl) <|
        .cons rfl (ob_assign rfl) <|
        .nil) ?_
    intro a7 w7 m7 hst7 hle7 hk7
    have hfr7 := hk7.fr (T' := [(0, _), (1, _), (2, _), (3, _), (5, _), (6, _), (7, _), (8, _), (9, _), (10, _), (4, _)]) (.old rfl rfl <| .old rfl rfl <| .old rfl rfl <| .old rfl rfl <| .old rfl rfl <| .old rfl rfl <| .old rfl rfl <| .old rfl rfl <| .old rfl rfl <| .old rfl rfl <| .new rfl <| .nil)
    replace h_t := h_t.mono hle7
    replace hk_t := hk_t.mono hle7
    replace h_u := h_u.mono hle7
    replace hk_u := hk_u.mono hle7
    replace hc2 := hc2.mono hle7
    replace hc3 := hc3.mono hle7
    replace hM := hM.trans hle7
    clear hst6 hfr6 hk7
    refine hK12 _ _ ?_; try clear hK12 K12
    refine wp_ret ?_
    repeat (with_reducible first | refine then_ret ?_ | refine block_ret ?_)
    exact fn_ret hst7 hfr7 rfl (.tmp rfl <| .nil) (by obtain ⟨⟨⟨⟨r1, p1⟩, ⟨r2, p2⟩⟩, n1⟩, n2⟩ := hb29; refine congrArg Value.bool ?_; rw [if_pos r1, if_pos r1, if_pos r2, if_pos r2]; have q1 := plain_shape t; have q2 := plain_shape u; rw [right0_eq, Bool.and_eq_true] at r1 r2; rw [r1.2, p1] at q1; rw [r2.2, p2] at q2; rcases sameV_dec t u with h | ⟨h, hn⟩; (rw [h, (sameV_iff t u).1 h]; simp); (rw [h, decide_eq_false (fun e => hn (texts_same (by unfold fine; rw [q1, n1]; rfl) (by unfold fine; rw [q2, n2]; rfl) e))]; rfl))

end Go.Proofs.YtineijefefjpeaaDoor
