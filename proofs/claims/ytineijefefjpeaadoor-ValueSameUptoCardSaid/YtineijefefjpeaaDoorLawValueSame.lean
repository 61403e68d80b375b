/-
  'brocadelaw11': the walk of the law. Conditions: those of each theorem.
-/
import Derived.Test.YtineijefefjpeaaDoorShown1
import Derived.Test.YtineijefefjpeaaDoorPlain2
namespace Go.Proofs.YtineijefefjpeaaDoor
set_option linter.all false
open Go.RowKit
open Go.Lib (itoa formatBool decDigits)
set_option maxHeartbeats 400000 in
theorem valueSame_c {w : World} {m : Mem} {a : VT} {vs_a : List Value} {b : VT} {vs_b : List Value} {c : VT} {vs_c : List Value} (hA : Agree w m) (h_a : VR m a vs_a) (h_b : VR m b vs_b) (h_c : VR m c vs_c) (hT : Tab w) (hb_a : bulkV a ≤ 1048576) (hb_b : bulkV b ≤ 1048576) : FnV Tryd.prog 8 #[.agg vs_a.toArray, .agg vs_b.toArray, .agg vs_c.toArray] w m (fun _ _ v => v = .bool true) := by
  obtain ⟨o_a, c_a, rfl, hk_a, hi_a, hj_a⟩ := h_a.open_
  have hbg_a := hk_a.big; have hcp_a := hk_a.cap
  obtain ⟨o_b, c_b, rfl, hk_b, hi_b, hj_b⟩ := h_b.open_
  have hbg_b := hk_b.big; have hcp_b := hk_b.cap
  obtain ⟨o_c, c_c, rfl, hk_c, hi_c, hj_c⟩ := h_c.open_
  have hbg_c := hk_c.big; have hcp_c := hk_c.cap
  refine fn_enter (vs := [_, _, _]) Tryd.func8 rfl rfl rfl fun a0 hfr0 => ?_
  have hst0 := st_enter hA (loc_nil [] _ w m)
  have hM : MLe m m := MLe.refl m
  have hb1 : bulkV a ≤ 1073741824 := by omega
  have hb2 : bulkV b ≤ 1073741824 := by omega
  refine seq_any fun K1 hK1 => ?_
  refine region_plain (fun h => by cases h) hst0 hfr0 (by kernel_rfl) (by kernel_rfl) (.cons rfl (ob_box rfl rfl) <|
      .cons rfl (ob_box rfl rfl) <|
      .cons rfl (ob_box rfl rfl) <|
      .cons rfl (ob_assign rfl) <|
      .nil) ?_
  intro a1 w1 m1 hst1 hle1 hk1
  have hfr1 := hk1.fr (T' := [(0, _), (1, _), (2, _), (6, _)]) (.old rfl rfl <| .old rfl rfl <| .old rfl rfl <| .new rfl <| .nil)
  obtain ⟨g2, e2, hc3⟩ := hk1.ex 3 rfl
  replace hfr1 := hfr1.cons e2
  obtain ⟨g3, e3, hc4⟩ := hk1.ex 4 rfl
  replace hfr1 := hfr1.cons e3
  obtain ⟨g4, e4, hc5⟩ := hk1.ex 5 rfl
  replace hfr1 := hfr1.cons e4
  replace h_a := h_a.mono hle1
  replace hk_a := hk_a.mono hle1
  replace h_b := h_b.mono hle1
  replace hk_b := hk_b.mono hle1
  replace h_c := h_c.mono hle1
  replace hk_c := hk_c.mono hle1
  replace hM := hM.trans hle1
  clear hst0 hfr0 hk1
  refine hK1 _ _ ?_; try clear hK1 K1
  refine seq_any fun K5 hK5 => ?_
  refine region_plain (fun h => by cases h) hst1 hfr1 (by kernel_rfl) (by kernel_rfl) (.cons rfl (ob_callE rfl (.nil) Tryd.call11 (fun w m hK => by have hle_ := KC.le hK; have hA := KC.agree hK; have hM := hM.trans hle_; have hT := tab_keep hT hK.st.ext; have h_a := h_a.mono hle_; have hk_a := hk_a.mono hle_; have h_b := h_b.mono hle_; have hk_b := hk_b.mono hle_; have h_c := h_c.mono hle_; have hk_c := hk_c.mono hle_; have hc3 := hc3.mono hle_; have hc4 := hc4.mono hle_; have hc5 := hc5.mono hle_; exact shown_c hA (by first | assumption | omega | simp_all))) <|
      .cons rfl (ob_assign rfl) <|
      .nil) ?_
  intro a2 w2 m2 hst2 hle2 hk2
  have hfr2 := hk2.fr (T' := [(0, _), (1, _), (2, _), (6, _), (3, _), (4, _), (5, _), (7, _)]) (.old rfl rfl <| .old rfl rfl <| .old rfl rfl <| .old rfl rfl <| .old rfl rfl <| .old rfl rfl <| .old rfl rfl <| .new rfl <| .nil)
  replace h_a := h_a.mono hle2
  replace hk_a := hk_a.mono hle2
  replace h_b := h_b.mono hle2
  replace hk_b := hk_b.mono hle2
  replace h_c := h_c.mono hle2
  replace hk_c := hk_c.mono hle2
  replace hc3 := hc3.mono hle2
  replace hc4 := hc4.mono hle2
  replace hc5 := hc5.mono hle2
  replace hM := hM.trans hle2
  clear hst1 hfr1 hk2
  refine hK5 _ _ ?_; try clear hK5 K5
  refine seq_any fun K6 hK6 => ?_
  refine region_plain (fun h => by cases h) hst2 hfr2 (by kernel_rfl) (by kernel_rfl) (.cons rfl (ob_loadS' rfl hc3 Tryd.isAgg24 Tryd.sizeOf24 rfl rfl) <|
      .cons rfl (ob_loadS' rfl hc4 Tryd.isAgg24 Tryd.sizeOf24 rfl rfl) <|
      .cons rfl (ob_callE rfl (.cons rfl <| .cons rfl <| .nil) Tryd.call18 (fun w m hK => by have hle_ := KC.le hK; have hA := KC.agree hK; have hM := hM.trans hle_; have hT := tab_keep hT hK.st.ext; have h_a := h_a.mono hle_; have h_b := h_b.mono hle_; exact same_c a (u := b) hA h_a h_b)) <|
      .cons rfl (ob_assign rfl) <|
      .nil) ?_
  intro a3 w3 m3 hst3 hle3 hk3
  have hfr3 := hk3.fr (T' := [(0, _), (1, _), (2, _), (6, _), (3, _), (4, _), (5, _), (7, _), (8, _)]) (.old rfl rfl <| .old rfl rfl <| .old rfl rfl <| .old rfl rfl <| .old rfl rfl <| .old rfl rfl <| .old rfl rfl <| .old rfl rfl <| .new rfl <| .nil)
  replace h_a := h_a.mono hle3
  replace hk_a := hk_a.mono hle3
  replace h_b := h_b.mono hle3
  replace hk_b := hk_b.mono hle3
  replace h_c := h_c.mono hle3
  replace hk_c := hk_c.mono hle3
  replace hc3 := hc3.mono hle3
  replace hc4 := hc4.mono hle3
  replace hc5 := hc5.mono hle3
  replace hM := hM.trans hle3
  clear hst2 hfr2 hk3
  refine hK6 _ _ ?_; try clear hK6 K6
  refine seq_any fun K7 hK7 => ?_
  refine region_plain (fun h => by cases h) hst3 hfr3 (by kernel_rfl) (by kernel_rfl) (.cons rfl (ob_loadS' rfl hc4 Tryd.isAgg24 Tryd.sizeOf24 rfl rfl) <|
      .cons rfl (ob_loadS' rfl hc5 Tryd.isAgg24 Tryd.sizeOf24 rfl rfl) <|
      .cons rfl (ob_callE rfl (.cons rfl <| .cons rfl <| .nil) Tryd.call18 (fun w m hK => by have hle_ := KC.le hK; have hA := KC.agree hK; have hM := hM.trans hle_; have hT := tab_keep hT hK.st.ext; have h_b := h_b.mono hle_; have h_c := h_c.mono hle_; exact same_c b (u := c) hA h_b h_c)) <|
      .cons rfl (ob_assign rfl) <|
      .nil) ?_
  intro a4 w4 m4 hst4 hle4 hk4
  have hfr4 := hk4.fr (T' := [(0, _), (1, _), (2, _), (6, _), (3, _), (4, _), (5, _), (7, _), (8, _), (9, _)]) (.old rfl rfl <| .old rfl rfl <| .old rfl rfl <| .old rfl rfl <| .old rfl rfl <| .old rfl rfl <| .old rfl rfl <| .old rfl rfl <| .old rfl rfl <| .new rfl <| .nil)
  replace h_a := h_a.mono hle4
  replace hk_a := hk_a.mono hle4
  replace h_b := h_b.mono hle4
  replace hk_b := hk_b.mono hle4
  replace h_c := h_c.mono hle4
  replace hk_c := hk_c.mono hle4
  replace hc3 := hc3.mono hle4
  replace hc4 := hc4.mono hle4
  replace hc5 := hc5.mono hle4
  replace hM := hM.trans hle4
  clear hst3 hfr3 hk4
  refine hK7 _ _ ?_; try clear hK7 K7
  refine seq_any fun K8 hK8 => ?_
  refine seq_any fun K9 hK9 => ?_
  refine region_plain (fun h => by cases h) hst4 hfr4 (by kernel_rfl) (by kernel_rfl) (.cons rfl (ob_loadS' rfl hc3 Tryd.isAgg24 Tryd.sizeOf24 rfl rfl) <|
      .cons rfl (ob_loadS' rfl hc3 Tryd.isAgg24 Tryd.sizeOf24 rfl rfl) <|
      .cons rfl (ob_callE rfl (.cons rfl <| .cons rfl <| .nil) Tryd.call18 (fun w m hK => by have hle_ := KC.le hK; have hA := KC.agree hK; have hM := hM.trans hle_; have hT := tab_keep hT hK.st.ext; have h_a := h_a.mono hle_; exact same_c a (u := a) hA h_a h_a)) <|
      .cons rfl (ob_not rfl) <|
      .cons rfl (ob_move rfl) <|
      .cons rfl (ob_move rfl) <|
      .cons rfl (ob_loadS' rfl hc4 Tryd.isAgg24 Tryd.sizeOf24 rfl rfl) <|
      .cons rfl (ob_loadS' rfl hc3 Tryd.isAgg24 Tryd.sizeOf24 rfl rfl) <|
      .cons rfl (ob_callE rfl (.cons rfl <| .cons rfl <| .nil) Tryd.call18 (fun w m hK => by have hle_ := KC.le hK; have hA := KC.agree hK; have hM := hM.trans hle_; have hT := tab_keep hT hK.st.ext; have h_a := h_a.mono hle_; have h_b := h_b.mono hle_; exact same_c b (u := a) hA h_b h_a)) <|
      .cons rfl (ob_bneq rfl rfl Tryd.underlying4) <|
      .cons rfl (ob_or rfl rfl rfl) <|
      .cons rfl (ob_move rfl) <|
      .cons rfl (ob_move rfl) <|
      .cons rfl (ob_move rfl) <|
      .cons rfl (ob_move rfl) <|
      .cons rfl (ob_and rfl rfl rfl) <|
      .cons rfl (ob_move rfl) <|
      .cons rfl (ob_loadS' rfl hc3 Tryd.isAgg24 Tryd.sizeOf24 rfl rfl) <|
      .cons rfl (ob_loadS' rfl hc5 Tryd.isAgg24 Tryd.sizeOf24 rfl rfl) <|
      .cons rfl (ob_callE rfl (.cons rfl <| .cons rfl <| .nil) Tryd.call18 (fun w m hK => by have hle_ := KC.le hK; have hA := KC.agree hK; have hM := hM.trans hle_; have hT := tab_keep hT hK.st.ext; have h_a := h_a.mono hle_; have h_c := h_c.mono hle_; exact same_c a (u := c) hA h_a h_c)) <|
      .cons rfl (ob_not rfl) <|
      .cons rfl (ob_and rfl rfl rfl) <|
      .cons rfl (ob_or rfl rfl rfl) <|
      .nil) ?_
  intro a5 w5 m5 hst5 hle5 hk5
  have hfr5 := hk5.fr (T' := [(0, _), (1, _), (2, _), (6, _), (3, _), (4, _), (5, _), (7, _), (8, _), (9, _), (43, _)]) (.old rfl rfl <| .old rfl rfl <| .old rfl rfl <| .old rfl rfl <| .old rfl rfl <| .old rfl rfl <| .old rfl rfl <| .old rfl rfl <| .old rfl rfl <| .old rfl rfl <| .new rfl <| .nil)
  replace h_a := h_a.mono hle5
  replace hk_a := hk_a.mono hle5
  replace h_b := h_b.mono hle5
  replace hk_b := hk_b.mono hle5
  replace h_c := h_c.mono hle5
  replace hk_c := hk_c.mono hle5
  replace hc3 := hc3.mono hle5
  replace hc4 := hc4.mono hle5
  replace hc5 := hc5.mono hle5
  replace hM := hM.trans hle5
  clear hst4 hfr4 hk5
  refine hK9 _ _ ?_; try clear hK9 K9
  refine cond_any hfr5 rfl rfl (fun hb43 => ?_) (fun hb43 => ?_)
  · exfalso; rw [sameV_self] at hb43
    rcases sameV_dec a b with h1 | ⟨h1, n1⟩ <;> rcases sameV_dec b a with h2 | ⟨h2, n2⟩ <;> rcases sameV_dec b c with h3 | ⟨h3, n3⟩ <;> rcases sameV_dec a c with h4 | ⟨h4, n4⟩ <;> simp only [h1, h2, h3, h4] at hb43 <;> first | (simp at hb43; done) | (have e1 := (sameV_iff a b).1 h1; subst e1; first | exact absurd rfl n2 | (have e3 := (sameV_iff _ _).1 h3; exact absurd e3 n4)) | exact absurd ((sameV_iff b a).1 h2).symm n1
  · try simp only [Bool.not_eq_true', Bool.not_eq_false', decide_eq_true_eq, decide_eq_false_iff_not, Bool.and_eq_true, Bool.or_eq_true, Bool.and_eq_false_iff, Bool.or_eq_false_iff, Bool.not_not, u8_eq] at hb43
    refine wp_skip ?_
    refine hK8 _ _ ?_; try clear hK8 K8
    refine seq_any fun K10 hK10 => ?_
    refine region_plain (fun h => by cases h) hst5 hfr5 (by kernel_rfl) (by kernel_rfl) (.cons rfl (ob_loadS' rfl hc3 Tryd.isAgg24 Tryd.sizeOf24 rfl rfl) <|
        .cons rfl (ob_callE rfl (.cons rfl <| .nil) Tryd.call12 (fun w m hK => by have hle_ := KC.le hK; have hA := KC.agree hK; have hM := hM.trans hle_; have hT := tab_keep hT hK.st.ext; have h_a := h_a.mono hle_; exact text0_c (t := a) hA h_a hT hb1)) <|
        .cons rfl (ob_move rfl) <|
        .cons rfl (ob_extract rfl rfl) <|
        .cons rfl (ob_extract rfl rfl) <|
        .cons rfl (ob_assign rfl) <|
        .cons rfl (ob_assign rfl) <|
        .nil) ?_
    intro a6 w6 m6 hst6 hle6 hk6
    have hfr6 := hk6.fr (T' := [(0, _), (1, _), (2, _), (6, _), (3, _), (4, _), (5, _), (7, _), (8, _), (9, _), (10, _), (11, _)]) (.old rfl rfl <| .old rfl rfl <| .old rfl rfl <| .old rfl rfl <| .old rfl rfl <| .old rfl rfl <| .old rfl rfl <| .old rfl rfl <| .old rfl rfl <| .old rfl rfl <| .new rfl <| .new rfl <| .nil)
    replace h_a := h_a.mono hle6
    replace hk_a := hk_a.mono hle6
    replace h_b := h_b.mono hle6
    replace hk_b := hk_b.mono hle6
    replace h_c := h_c.mono hle6
    replace hk_c := hk_c.mono hle6
    replace hc3 := hc3.mono hle6
    replace hc4 := hc4.mono hle6
    replace hc5 := hc5.mono hle6
    replace hM := hM.trans hle6
    clear hst5 hfr5 hk6
    refine hK10 _ _ ?_; try clear hK10 K10
    refine seq_any fun K11 hK11 => ?_
    refine region_plain (fun h => by cases h) hst6 hfr6 (by kernel_rfl) (by kernel_rfl) (.cons rfl (ob_loadS' rfl hc4 Tryd.isAgg24 Tryd.sizeOf24 rfl rfl) <|
        .cons rfl (ob_callE rfl (.cons rfl <| .nil) Tryd.call12 (fun w m hK => by have hle_ := KC.le hK; have hA := KC.agree hK; have hM := hM.trans hle_; have hT := tab_keep hT hK.st.ext; have h_b := h_b.mono hle_; exact text0_c (t := b) hA h_b hT hb2)) <|
        .cons rfl (ob_move rfl) <|
        .cons rfl (ob_extract rfl rfl) <|
        .cons rfl (ob_extract rfl rfl) <|
        .cons rfl (ob_assign rfl) <|
        .cons rfl (ob_assign rfl) <|
        .nil) ?_
    intro a7 w7 m7 hst7 hle7 hk7
    have hfr7 := hk7.fr (T' := [(0, _), (1, _), (2, _), (6, _), (3, _), (4, _), (5, _), (7, _), (8, _), (9, _), (10, _), (11, _), (12, _), (13, _)]) (.old rfl rfl <| .old rfl rfl <| .old rfl rfl <| .old rfl rfl <| .old rfl rfl <| .old rfl rfl <| .old rfl rfl <| .old rfl rfl <| .old rfl rfl <| .old rfl rfl <| .old rfl rfl <| .old rfl rfl <| .new rfl <| .new rfl <| .nil)
    replace h_a := h_a.mono hle7
    replace hk_a := hk_a.mono hle7
    replace h_b := h_b.mono hle7
    replace hk_b := hk_b.mono hle7
    replace h_c := h_c.mono hle7
    replace hk_c := hk_c.mono hle7
    replace hc3 := hc3.mono hle7
    replace hc4 := hc4.mono hle7
    replace hc5 := hc5.mono hle7
    replace hM := hM.trans hle7
    clear hst6 hfr6 hk7
    refine hK11 _ _ ?_; try clear hK11 K11
    refine seq_any fun K12 hK12 => ?_
    refine region_plain (fun _ => mixed) hst7 hfr7 (by kernel_rfl) (by kernel_rfl) (.cons rfl (ob_move rfl) <|
        .cons rfl (ob_move rfl) <|
        .cons rfl (ob_move rfl) <|
        .cons rfl (ob_not rfl) <|
        .cons rfl (ob_move rfl) <|
        .cons rfl (ob_move rfl) <|
        .cons rfl (ob_move rfl) <|
        .cons rfl (ob_seql rfl rfl) <|
        .cons rfl (ob_move rfl) <|
        .cons rfl (ob_move rfl) <|
        .cons rfl (ob_move rfl) <|
        .cons rfl (ob_eql rfl rfl) <|
        .cons rfl (ob_and rfl rfl rfl) <|
        .cons rfl (ob_move rfl) <|
        .cons rfl (ob_loadS' rfl hc3 Tryd.isAgg24 Tryd.sizeOf24 rfl rfl) <|
        .cons rfl (ob_callE rfl (.cons rfl <| .nil) Tryd.call14 (fun w m hK => by have hle_ := KC.le hK; have hA := KC.agree hK; have hM := hM.trans hle_; have hT := tab_keep hT hK.st.ext; have h_a := h_a.mono hle_; exact right0_c (t := a) hA h_a)) <|
        .cons rfl (ob_loadS' rfl hc4 Tryd.isAgg24 Tryd.sizeOf24 rfl rfl) <|
        .cons rfl (ob_callE rfl (.cons rfl <| .nil) Tryd.call14 (fun w m hK => by have hle_ := KC.le hK; have hA := KC.agree hK; have hM := hM.trans hle_; have hT := tab_keep hT hK.st.ext; have h_b := h_b.mono hle_; exact right0_c (t := b) hA h_b)) <|
        .cons rfl (ob_beql rfl rfl Tryd.underlying4) <|
        .cons rfl (ob_and rfl rfl rfl) <|
        .cons rfl (ob_move rfl) <|
        .cons rfl (ob_loadS' rfl hc3 Tryd.isAgg24 Tryd.sizeOf24 rfl rfl) <|
        .cons rfl (ob_callE rfl (.cons rfl <| .nil) Tryd.call16 (fun w m hK => by have hle_ := KC.le hK; have hA := KC.agree hK; have hM := hM.trans hle_; have hT := tab_keep hT hK.st.ext; have h_a := h_a.mono hle_; exact first_c (t := a) hA h_a)) <|
        .cons rfl (ob_loadS' rfl hc4 Tryd.isAgg24 Tryd.sizeOf24 rfl rfl) <|
        .cons rfl (ob_callE rfl (.cons rfl <| .nil) Tryd.call16 (fun w m hK => by have hle_ := KC.le hK; have hA := KC.agree hK; have hM := hM.trans hle_; have hT := tab_keep hT hK.st.ext; have h_b := h_b.mono hle_; exact first_c (t := b) hA h_b)) <|
        .cons rfl (ob_beql rfl rfl Tryd.underlying4) <|
        .cons rfl (ob_and rfl rfl rfl) <|
        .cons rfl (ob_or rfl rfl rfl) <|
        .cons rfl (ob_and rfl rfl rfl) <|
        .cons rfl (ob_assign rfl) <|
        .nil) ?_
    intro a8 w8 m8 hst8 hle8 hk8
    have hfr8 := hk8.fr (T' := [(0, _), (1, _), (2, _), (3, _), (4, _), (5, _), (7, _), (8, _), (9, _), (10, _), (11, _), (12, _), (13, _), (6, _)]) (.old rfl rfl <| .old rfl rfl <| .old rfl rfl <| .old rfl rfl <| .old rfl rfl <| .old rfl rfl <| .old rfl rfl <| .old rfl rfl <| .old rfl rfl <| .old rfl rfl <| .old rfl rfl <| .old rfl rfl <| .old rfl rfl <| .new rfl <| .nil)
    replace h_a := h_a.mono hle8
    replace hk_a := hk_a.mono hle8
    replace h_b := h_b.mono hle8
    replace hk_b := hk_b.mono hle8
    replace h_c := h_c.mono hle8
    replace hk_c := hk_c.mono hle8
    replace hc3 := hc3.mono hle8
    replace hc4 := hc4.mono hle8
    replace hc5 := hc5.mono hle8
    replace hM := hM.trans hle8
    clear hst7 hfr7 hk8
    refine hK12 _ _ ?_; try clear hK12 K12
    refine wp_ret ?_
    repeat (with_reducible first | refine then_ret ?_ | refine block_ret ?_)
    exact fn_ret hst8 hfr8 rfl (.tmp rfl <| .nil) (by refine congrArg Value.bool ?_; rcases sameV_dec a b with h | ⟨h, _⟩; (rw [h, (sameV_iff a b).1 h]; simp); (rw [h]; rfl))

end Go.Proofs.YtineijefefjpeaaDoor
