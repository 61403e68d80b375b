/-
  'brocadelaw04': the walk of the law. Conditions: those of each theorem.
-/
import Derived.Test.YtembdjghbphcdaaDoorShown1
namespace Go.Proofs.YtembdjghbphcdaaDoor
set_option linter.all false
set_option maxRecDepth 4000
open Go.RowKit
open Go.Lib (itoa decDigits)
theorem cnt_bulk (t : Ty) : cntT t ≤ bulkT t := by
  induction t using Ty.rec_ with
  | h t ih =>
    have hk := args_all t ih (fun l => cntTs l ≤ bulkTs l) (by simp [cntTs, bulkTs]) (fun x l hx hl => by simp only [cntTs, bulkTs]; omega)
    rw [cntT_eq, bulkT_eq]; omega

theorem walk_ref (t : Ty) (s : List Int × List Int) : walkT (refT t) s = walkT t s := by simp [refT, walkT, walkTs]
theorem deep_ref (t : Ty) : deepT (refT t) = deepT t + 1 := by simp [refT, deepT, deepTs]
theorem right_ref (t : Ty) : rightT (refT t) = rightT t := by simp [refT, rightT, rightTs, rightTB, arity, rowOk, isSortedS]
theorem text_ref (t : Ty) : textT (refT t) = [114, 101, 102, 32] ++ parS (decide (t.kind = 5 ∨ t.kind = 6)) (textT t) := by simp [refT, textT, textTs]
theorem text_fun (a b : Ty) (ls : List Str) (rv : Int) : textT (funT a ls rv b) = (parS (decide (a.kind = 5)) (textT a) ++ [32, 45, 62, 32] ++ rowTextS ls rv) ++ textT b := by simp [funT, textT, textTs]
theorem par_ge (b : Bool) (s : Str) : s.length ≤ (parS b s).length := by unfold parS; split <;> simp <;> omega
theorem bulk_ref (t : Ty) : bulkT (refT t) = bulkT t + 1 := by simp [refT, bulkT, bulkTs, lensS]; omega
theorem bulk_fun (a b : Ty) (ls : List Str) (rv : Int) : bulkT (funT a ls rv b) = bulkT a + bulkT b + lensS ls + 1 := by simp [funT, bulkT, bulkTs]; omega
theorem cnt_ref (t : Ty) : cntT (refT t) = cntT t + 1 := by simp [refT, cntT, cntTs]

set_option maxHeartbeats 400000 in
theorem sameints_c {w : World} {m : Mem} {o_l : Option Addr} {c_l : Nat} {l : List Int} {o_k : Option Addr} {c_k : Nat} {k : List Int} (hA : Agree w m) (h_l : Ints m o_l l.length c_l l) (h_k : Ints m o_k k.length c_k k) : FnV Tryd.prog 23 #[.slice o_l l.length c_l, .slice o_k k.length c_k] w m (fun _ _ v => v = .bool (decide (l = k))) := by
  have hb_l := h_l.big; have hc_l := h_l.cap
  have hb_k := h_k.big; have hc_k := h_k.cap
  refine fn_enter (vs := [_, _]) Tryd.func23 rfl rfl rfl fun a0 hfr0 => ?_
  have hst0 := st_enter hA (loc_nil [] _ w m)
  have hM : MLe m m := MLe.refl m
  have hae := all2_eq l k
  refine seq_any fun K1 hK1 => ?_
  refine region_plain (fun h => by cases h) hst0 hfr0 (by kernel_rfl) (by kernel_rfl) (.cons rfl (ob_assign rfl) <|
      .nil) ?_
  intro a1 w1 m1 hst1 hle1 hk1
  have hfr1 := hk1.fr (T' := [(0, _), (1, _), (4, _)]) (.old rfl rfl <| .old rfl rfl <| .new rfl <| .nil)
  replace h_l := h_l.mono hle1
  replace h_k := h_k.mono hle1
  replace hM := hM.trans hle1
  clear hst0 hfr0 hk1
  refine hK1 _ _ ?_; try clear hK1 K1
  refine seq_any fun K2 hK2 => ?_
  refine seq_any fun K3 hK3 => ?_
  refine region_plain (fun h => by cases h) hst1 hfr1 (by kernel_rfl) (by kernel_rfl) (.cons rfl (ob_move rfl) <|
      .cons rfl (ob_len rfl Tryd.underlying35) <|
      .cons rfl (ob_move rfl) <|
      .cons rfl (ob_len rfl Tryd.underlying35) <|
      .cons rfl (ob_neq rfl rfl) <|
      .nil) ?_
  intro a2 w2 m2 hst2 hle2 hk2
  have hfr2 := hk2.fr (T' := [(0, _), (1, _), (4, _), (10, _)]) (.old rfl rfl <| .old rfl rfl <| .old rfl rfl <| .new rfl <| .nil)
  replace h_l := h_l.mono hle2
  replace h_k := h_k.mono hle2
  replace hM := hM.trans hle2
  clear hst1 hfr1 hk2
  refine hK3 _ _ ?_; try clear hK3 K3
  refine cond_any hfr2 rfl rfl (fun hb10 => ?_) (fun hb10 => ?_)
  · try simp only [Bool.not_eq_true', Bool.not_eq_false', decide_eq_true_eq, decide_eq_false_iff_not, Bool.and_eq_true, Bool.or_eq_true, Bool.and_eq_false_iff, Bool.or_eq_false_iff, Bool.not_not, u8_eq] at hb10
    have hr : decide (l = k) = false := by rw [← hae]; exact all2_len (by omega)
    refine seq_any fun K4 hK4 => ?_
    refine region_plain (fun h => by cases h) hst2 hfr2 (by kernel_rfl) (by kernel_rfl) (.cons rfl (ob_assign rfl) <|
        .nil) ?_
    intro a3 w3 m3 hst3 hle3 hk3
    have hfr3 := hk3.fr (T' := [(0, _), (1, _), (4, _)]) (.old rfl rfl <| .old rfl rfl <| .new rfl <| .nil)
    replace h_l := h_l.mono hle3
    replace h_k := h_k.mono hle3
    replace hM := hM.trans hle3
    clear hst2 hfr2 hk3
    refine hK4 _ _ ?_; try clear hK4 K4
    refine wp_ret ?_
    repeat (with_reducible first | refine then_ret ?_ | refine block_ret ?_)
    exact fn_ret hst3 hfr3 rfl (.tmp rfl <| .nil) (by rw [hr]; rfl)
  · try simp only [Bool.not_eq_true', Bool.not_eq_false', decide_eq_true_eq, decide_eq_false_iff_not, Bool.and_eq_true, Bool.or_eq_true, Bool.and_eq_false_iff, Bool.or_eq_false_iff, Bool.not_not, u8_eq] at hb10
    have hln : l.length = k.length := by omega
    refine wp_skip ?_
    refine hK2 _ _ ?_; try clear hK2 K2
    refine seq_any fun K6 hK6 => ?_
    refine seq_any fun K7 hK7 => ?_
    refine region_plain (fun h => by cases h) hst2 hfr2 (by kernel_rfl) (by kernel_rfl) (.cons rfl (ob_assign rfl) <|
        .nil) ?_
    intro a3 w3 m3 hst3 hle3 hk3
    have hfr3 := hk3.fr (T' := [(0, _), (1, _), (4, _), (5, _)]) (.old rfl rfl <| .old rfl rfl <| .old rfl rfl <| .new rfl <| .nil)
    replace h_l := h_l.mono hle3
    replace h_k := h_k.mono hle3
    replace hM := hM.trans hle3
    clear hst2 hfr2 hk3
    refine hK7 _ _ ?_; try clear hK7 K7
    refine wp_block ?_
    refine loop_any (T := [(0, _), (1, _), (4, _)]) (fun (y : Nat) => ([(5, .int .i64 (y : Int))] : List (Nat × Value))) (fun _ => _) (fun (y : Nat) m => (y ≤ l.length) ∧ (all2 (fun a b => decide (a = b)) l k = all2 (fun a b => decide (a = b)) (l.drop y) (k.drop y))) (fun y => l.length - y) (0) ⟨hst3, MLe.refl _, hfr3.sub (.cons rfl <| .cons rfl <| .cons rfl <| .cons rfl <| .nil), ⟨Nat.zero_le _, rfl⟩⟩ fun y a4 w4 m4 hh4 => ?_
    have hst4 := hh4.st; have hle4 := hh4.le; have hfr4 := hh4.fr; have hrel := hh4.rel; clear hh4
    replace h_l := h_l.mono hle4
    replace h_k := h_k.mono hle4
    clear hst3 hfr3
    replace hM := hM.trans hle4
    obtain ⟨hyn, hrem⟩ := hrel
    have hlh4 := hle4
    refine seq_any fun K9 hK9 => ?_
    refine seq_any fun K10 hK10 => ?_
    refine region_plain (fun h => by cases h) hst4 hfr4 (by kernel_rfl) (by kernel_rfl) (.cons rfl (ob_move rfl) <|
        .cons rfl (ob_move rfl) <|
        .cons rfl (ob_len rfl Tryd.underlying35) <|
        .cons rfl (ob_lss rfl rfl) <|
        .nil) ?_
    intro a5 w5 m5 hst5 hle5 hk5
    have hfr5 := hk5.fr (T' := [(5, _), (0, _), (1, _), (4, _), (14, _)]) (.old rfl rfl <| .old rfl rfl <| .old rfl rfl <| .old rfl rfl <| .new rfl <| .nil)
    replace h_l := h_l.mono hle5
    replace h_k := h_k.mono hle5
    have hlh5 := hlh4.trans hle5
    replace hM := hM.trans hle5
    clear hst4 hfr4 hk5
    refine hK10 _ _ ?_; try clear hK10 K10
    refine cond_any hfr5 rfl rfl (fun hb14 => ?_) (fun hb14 => ?_)
    · try simp only [Bool.not_eq_true', Bool.not_eq_false', decide_eq_true_eq, decide_eq_false_iff_not, Bool.and_eq_true, Bool.or_eq_true, Bool.and_eq_false_iff, Bool.or_eq_false_iff, Bool.not_not, u8_eq] at hb14
      refine wp_skip ?_
      refine hK9 _ _ ?_; try clear hK9 K9
      refine seq_any fun K11 hK11 => ?_
      refine wp_block ?_
      refine seq_any fun K12 hK12 => ?_
      obtain ⟨p13, vs13, x13, ho13, hd13, hm_x13, ht13, hcv13, hl13, hv13⟩ := h_l.nth (k := y) (by omega)
      cases ho13
      subst hv13
      try rw [hd13] at hrem
      try simp only [all2] at hrem
      obtain ⟨p14, vs14, x14, ho14, hd14, hm_x14, ht14, hcv14, hl14, hv14⟩ := h_k.nth (k := y) (by omega)
      cases ho14
      subst hv14
      try rw [hd14] at hrem
      try simp only [all2] at hrem
      refine region_plain (fun _ => mixed) hst5 hfr5 (by kernel_rfl) (by kernel_rfl) (.cons rfl (ob_move rfl) <|
          .cons rfl (ob_move rfl) <|
          .cons rfl (ob_indexAddr (k := y) rfl rfl Tryd.underlying35 Tryd.sizeOf3 rfl (by omega)) <|
          .cons rfl (ob_load1' rfl hcv13 Tryd.isAgg3 rfl) <|
          .cons rfl (ob_move rfl) <|
          .cons rfl (ob_move rfl) <|
          .cons rfl (ob_indexAddr (k := y) rfl rfl Tryd.underlying35 Tryd.sizeOf3 rfl (by omega)) <|
          .cons rfl (ob_load1' rfl hcv14 Tryd.isAgg3 rfl) <|
          .cons rfl (ob_neq rfl rfl) <|
          .nil) ?_
      intro a6 w6 m6 hst6 hle6 hk6
      have hfr6 := hk6.fr (T' := [(5, _), (0, _), (1, _), (4, _), (25, _)]) (.old rfl rfl <| .old rfl rfl <| .old rfl rfl <| .old rfl rfl <| .new rfl <| .nil)
      replace h_l := h_l.mono hle6
      replace h_k := h_k.mono hle6
      replace hcv13 := hcv13.mono hle6
      replace hcv14 := hcv14.mono hle6
      have hlh6 := hlh5.trans hle6
      replace hM := hM.trans hle6
      clear hst5 hfr5 hk6
      refine hK12 _ _ ?_; try clear hK12 K12
      refine cond_any hfr6 rfl rfl (fun hb25 => ?_) (fun hb25 => ?_)
      · try simp only [Bool.not_eq_true', Bool.not_eq_false', decide_eq_true_eq, decide_eq_false_iff_not, Bool.and_eq_true, Bool.or_eq_true, Bool.and_eq_false_iff, Bool.or_eq_false_iff, Bool.not_not, u8_eq] at hb25
        refine seq_any fun K15 hK15 => ?_
        refine region_plain (fun h => by cases h) hst6 hfr6 (by kernel_rfl) (by kernel_rfl) (.cons rfl (ob_assign rfl) <|
            .nil) ?_
        intro a7 w7 m7 hst7 hle7 hk7
        have hfr7 := hk7.fr (T' := [(5, _), (0, _), (1, _), (4, _)]) (.old rfl rfl <| .old rfl rfl <| .old rfl rfl <| .new rfl <| .nil)
        replace h_l := h_l.mono hle7
        replace h_k := h_k.mono hle7
        replace hcv13 := hcv13.mono hle7
        replace hcv14 := hcv14.mono hle7
        have hlh7 := hlh6.trans hle7
        replace hM := hM.trans hle7
        clear hst6 hfr6 hk7
        refine hK15 _ _ ?_; try clear hK15 K15
        refine wp_ret ?_
        repeat (with_reducible first | refine then_ret ?_ | refine block_ret ?_)
        exact fn_ret hst7 hfr7 rfl (.tmp rfl <| .nil) (by refine congrArg Value.bool ?_; rw [← hae, hrem]; try simp_all)
      · try simp only [Bool.not_eq_true', Bool.not_eq_false', decide_eq_true_eq, decide_eq_false_iff_not, Bool.and_eq_true, Bool.or_eq_true, Bool.and_eq_false_iff, Bool.or_eq_false_iff, Bool.not_not, u8_eq] at hb25
        refine wp_skip ?_
        refine hK11 _ _ ?_; try clear hK11 K11
        refine region_plain (fun h => by cases h) hst6 hfr6 (by kernel_rfl) (by kernel_rfl) (.cons rfl (ob_move rfl) <|
            .cons rfl (ob_add rfl rfl ⟨by omega, by omega⟩) <|
            .cons rfl (ob_assign rfl) <|
            .nil) ?_
        intro a7 w7 m7 hst7 hle7 hk7
        have hfr7 := hk7.fr (T' := [(0, _), (1, _), (4, _), (5, _)]) (.old rfl rfl <| .old rfl rfl <| .old rfl rfl <| .new rfl <| .nil)
        replace h_l := h_l.mono hle7
        replace h_k := h_k.mono hle7
        replace hcv13 := hcv13.mono hle7
        replace hcv14 := hcv14.mono hle7
        have hlh7 := hlh6.trans hle7
        replace hM := hM.trans hle7
        clear hst6 hfr6 hk7
        exact ⟨y + 1, m7, by show l.length - (y + 1) < l.length - y; omega, ⟨hst7, hlh7, hfr7.sub (.cons rfl <| .cons rfl <| .cons rfl <| .cons rfl <| .nil), ⟨by show y + 1 ≤ l.length; omega, by simp_all⟩⟩⟩
    · try simp only [Bool.not_eq_true', Bool.not_eq_false', decide_eq_true_eq, decide_eq_false_iff_not, Bool.and_eq_true, Bool.or_eq_true, Bool.and_eq_false_iff, Bool.or_eq_false_iff, Bool.not_not, u8_eq] at hb14
      have hge : y = l.length := by omega
      rw [List.drop_of_length_le (by omega), List.drop_of_length_le (by omega)] at hrem
      simp only [all2] at hrem
      refine wp_exit ?_
      refine hK6 _ _ ?_; try clear hK6 K6
      refine seq_any fun K17 hK17 => ?_
      refine region_plain (fun h => by cases h) hst5 hfr5 (by kernel_rfl) (by kernel_rfl) (.cons rfl (ob_assign rfl) <|
          .nil) ?_
      intro a6 w6 m6 hst6 hle6 hk6
      have hfr6 := hk6.fr (T' := [(5, _), (0, _), (1, _), (4, _)]) (.old rfl rfl <| .old rfl rfl <| .old rfl rfl <| .new rfl <| .nil)
      replace h_l := h_l.mono hle6
      replace h_k := h_k.mono hle6
      have hlh6 := hlh5.trans hle6
      replace hM := hM.trans hle6
      clear hst5 hfr5 hk6
      refine hK17 _ _ ?_; try clear hK17 K17
      refine wp_ret ?_
      repeat (with_reducible first | refine then_ret ?_ | refine block_ret ?_)
      exact fn_ret hst6 hfr6 rfl (.tmp rfl <| .nil) (by refine congrArg Value.bool ?_; rw [← hae, hrem]; try simp_all)

set_option maxHeartbeats 400000 in
theorem typesRefs_c {w : World} {m : Mem} {t : Ty} {vs_t : List Value} {r : Rw} {vs_r : List Value} (hA : Agree w m) (h_t : TyR m t vs_t) (h_r : RwR m r vs_r) (hT : Tab w) (hb_t : bulkT t ≤ 2097152) (hb_r : lensS r.labels ≤ 2097152) : FnV Tryd.prog 7 #[.agg vs_t.toArray, .agg vs_r.toArray] w m (fun _ _ v => v = .bool true) := by
  obtain ⟨o_t, c_t, oL_t, cL_t, rfl, hk_t, hs_t, hi_t, hj_t, hr_t⟩ := h_t.open_
  have hbg_t := hk_t.big; have hcp_t := hk_t.cap; have hbs_t := hs_t.big; have hcs_t := hs_t.cap
  have hrw_t : RwR _ ⟨t.labels, t.rv⟩ _ := ⟨_, _, rfl, hs_t, hr_t⟩
  obtain ⟨o_r, c_r, rfl, hs_r, hr_r⟩ := h_r.open_
  have hbs_r := hs_r.big; have hcs_r := hs_r.cap
  refine fn_enter (vs := [_, _]) Tryd.func7 rfl rfl rfl fun a0 hfr0 => ?_
  have hst0 := st_enter hA (loc_nil [] _ w m)
  have hM : MLe m m := MLe.refl m
  have hcb := cnt_bulk t
  have e1_ := bulk_ref t
  have e2_ := bulk_fun t t r.labels r.var
  have e3_ := cnt_ref t
  have e4_ := text_fun t t r.labels r.var
  have e5_ := par_ge (decide (t.kind = 5)) (textT t)
  obtain ⟨pre, hpre⟩ : ∃ pre : Str, pre = parS (decide (t.kind = 5)) (textT t) ++ [32, 45, 62, 32] ++ rowTextS r.labels r.var := ⟨_, rfl⟩
  have hpl : (textT t).length + 4 ≤ pre.length := by rw [hpre]; simp only [List.length_append, List.length_cons, List.length_nil]; omega
  have hrl := rowTextS_len (ls := r.labels) hr_r
  have hps := parS_len (decide (t.kind = 5)) (textT t)
  have hpu : pre.length = (parS (decide (t.kind = 5)) (textT t)).length + 4 + (rowTextS r.labels r.var).length := by rw [hpre]; simp only [List.length_append, List.length_cons, List.length_nil]
  rw [← hpre] at e4_
  have htl := TyR.text_len t h_t
  have hfl : (textT (funT t r.labels r.var t)).length = pre.length + (textT t).length := by rw [e4_, List.length_append]
  refine seq_any fun K1 hK1 => ?_
  refine region_plain (fun h => by cases h) hst0 hfr0 (by kernel_rfl) (by kernel_rfl) (.cons rfl (ob_box rfl rfl) <|
      .cons rfl (ob_box rfl rfl) <|
      .cons rfl (ob_assign rfl) <|
      .nil) ?_
  intro a1 w1 m1 hst1 hle1 hk1
  have hfr1 := hk1.fr (T' := [(0, _), (1, _), (4, _)]) (.old rfl rfl <| .old rfl rfl <| .new rfl <| .nil)
  obtain ⟨g2, e2, hc2⟩ := hk1.ex 2 rfl
  replace hfr1 := hfr1.cons e2
  obtain ⟨g3, e3, hc3⟩ := hk1.ex 3 rfl
  replace hfr1 := hfr1.cons e3
  replace h_t := h_t.mono hle1
  replace hk_t := hk_t.mono hle1
  replace hs_t := hs_t.mono hle1
  replace hrw_t := hrw_t.mono hle1
  replace h_r := h_r.mono hle1
  replace hs_r := hs_r.mono hle1
  replace hM := hM.trans hle1
  clear hst0 hfr0 hk1
  refine hK1 _ _ ?_; try clear hK1 K1
  refine seq_any fun K4 hK4 => ?_
  refine region_plain (fun h => by cases h) hst1 hfr1 (by kernel_rfl) (by kernel_rfl) (.cons rfl (ob_callE rfl (.nil) Tryd.call11 (fun w m hK => by have hle_ := KC.le hK; have hA := KC.agree hK; have hM := hM.trans hle_; have hT := tab_keep hT hK.st.ext; have h_t := h_t.mono hle_; have hk_t := hk_t.mono hle_; have hs_t := hs_t.mono hle_; have hrw_t := hrw_t.mono hle_; have h_r := h_r.mono hle_; have hs_r := hs_r.mono hle_; have hc2 := hc2.mono hle_; have hc3 := hc3.mono hle_; exact shown_c hA (by first | assumption | omega | simp_all))) <|
      .cons rfl (ob_assign rfl) <|
      .nil) ?_
  intro a2 w2 m2 hst2 hle2 hk2
  have hfr2 := hk2.fr (T' := [(0, _), (1, _), (4, _), (2, _), (3, _), (5, _)]) (.old rfl rfl <| .old rfl rfl <| .old rfl rfl <| .old rfl rfl <| .old rfl rfl <| .new rfl <| .nil)
  replace h_t := h_t.mono hle2
  replace hk_t := hk_t.mono hle2
  replace hs_t := hs_t.mono hle2
  replace hrw_t := hrw_t.mono hle2
  replace h_r := h_r.mono hle2
  replace hs_r := hs_r.mono hle2
  replace hc2 := hc2.mono hle2
  replace hc3 := hc3.mono hle2
  replace hM := hM.trans hle2
  clear hst1 hfr1 hk2
  refine hK4 _ _ ?_; try clear hK4 K4
  refine seq_any fun K5 hK5 => ?_
  refine seq_any fun K6 hK6 => ?_
  refine region_plain (fun h => by cases h) hst2 hfr2 (by kernel_rfl) (by kernel_rfl) (.cons rfl (ob_loadS' rfl hc2 Tryd.isAgg27 Tryd.sizeOf27 rfl rfl) <|
      .cons rfl (ob_callE rfl (.cons rfl <| .nil) Tryd.call12 (fun w m hK => by have hle_ := KC.le hK; have hA := KC.agree hK; have hM := hM.trans hle_; have hT := tab_keep hT hK.st.ext; have h_t := h_t.mono hle_; exact count_c t hA h_t (by omega))) <|
      .cons rfl (ob_gtr rfl rfl) <|
      .cons rfl (ob_move rfl) <|
      .cons rfl (ob_loadS' rfl hc2 Tryd.isAgg27 Tryd.sizeOf27 rfl rfl) <|
      .cons rfl (ob_callE rfl (.cons rfl <| .nil) Tryd.call18 (fun w m hK => by have hle_ := KC.le hK; have hA := KC.agree hK; have hM := hM.trans hle_; have hT := tab_keep hT hK.st.ext; have h_t := h_t.mono hle_; exact depth0_c (t := t) hA h_t)) <|
      .cons rfl (ob_gtr rfl rfl) <|
      .cons rfl (ob_or rfl rfl rfl) <|
      .cons rfl (ob_move rfl) <|
      .cons rfl (ob_loadS' rfl hc2 Tryd.isAgg27 Tryd.sizeOf27 rfl rfl) <|
      .cons rfl (ob_callE rfl (.cons rfl <| .nil) Tryd.call13 (fun w m hK => by have hle_ := KC.le hK; have hA := KC.agree hK; have hM := hM.trans hle_; have hT := tab_keep hT hK.st.ext; have h_t := h_t.mono hle_; exact right0_c (t := t) hA h_t)) <|
      .cons rfl (ob_not rfl) <|
      .cons rfl (ob_or rfl rfl rfl) <|
      .cons rfl (ob_move rfl) <|
      .cons rfl (ob_loadS' rfl hc3 Tryd.isAgg25 Tryd.sizeOf25 rfl rfl) <|
      .cons rfl (ob_callE rfl (.cons rfl <| .nil) Tryd.call19 (fun w m hK => by have hle_ := KC.le hK; have hA := KC.agree hK; have hM := hM.trans hle_; have hT := tab_keep hT hK.st.ext; have h_r := h_r.mono hle_; exact rightrow_c (r := r) hA h_r)) <|
      .cons rfl (ob_not rfl) <|
      .cons rfl (ob_or rfl rfl rfl) <|
      .cons rfl (ob_move rfl) <|
      .cons rfl (ob_fieldAddr rfl Tryd.underlying25 rfl Tryd.sizeOf23 rfl) <|
      .cons rfl (ob_load1 rfl hc3 Tryd.isAgg23 rfl) <|
      .cons rfl (ob_len rfl Tryd.underlying23) <|
      .cons rfl (ob_gtr rfl rfl) <|
      .cons rfl (ob_or rfl rfl rfl) <|
      .nil) ?_
  intro a3 w3 m3 hst3 hle3 hk3
  have hfr3 := hk3.fr (T' := [(0, _), (1, _), (4, _), (2, _), (3, _), (5, _), (38, _)]) (.old rfl rfl <| .old rfl rfl <| .old rfl rfl <| .old rfl rfl <| .old rfl rfl <| .old rfl rfl <| .new rfl <| .nil)
  replace h_t := h_t.mono hle3
  replace hk_t := hk_t.mono hle3
  replace hs_t := hs_t.mono hle3
  replace hrw_t := hrw_t.mono hle3
  replace h_r := h_r.mono hle3
  replace hs_r := hs_r.mono hle3
  replace hc2 := hc2.mono hle3
  replace hc3 := hc3.mono hle3
  replace hM := hM.trans hle3
  clear hst2 hfr2 hk3
  refine hK6 _ _ ?_; try clear hK6 K6
  refine cond_any hfr3 rfl rfl (fun hb38 => ?_) (fun hb38 => ?_)
  · try simp only [Bool.not_eq_true', Bool.not_eq_false', decide_eq_true_eq, decide_eq_false_iff_not, Bool.and_eq_true, Bool.or_eq_true, Bool.and_eq_false_iff, Bool.or_eq_false_iff, Bool.not_not, u8_eq] at hb38
    refine seq_any fun K7 hK7 => ?_
    refine region_plain (fun h => by cases h) hst3 hfr3 (by kernel_rfl) (by kernel_rfl) (.cons rfl (ob_move rfl) <|
        .cons rfl (ob_assign rfl) <|
        .nil) ?_
    intro a4 w4 m4 hst4 hle4 hk4
    have hfr4 := hk4.fr (T' := [(0, _), (1, _), (2, _), (3, _), (5, _), (4, _)]) (.old rfl rfl <| .old rfl rfl <| .old rfl rfl <| .old rfl rfl <| .old rfl rfl <| .new rfl <| .nil)
    replace h_t := h_t.mono hle4
    replace hk_t := hk_t.mono hle4
    replace hs_t := hs_t.mono hle4
    replace hrw_t := hrw_t.mono hle4
    replace h_r := h_r.mono hle4
    replace hs_r := hs_r.mono hle4
    replace hc2 := hc2.mono hle4
    replace hc3 := hc3.mono hle4
    replace hM := hM.trans hle4
    clear hst3 hfr3 hk4
    refine hK7 _ _ ?_; try clear hK7 K7
    refine wp_ret ?_
    repeat (with_reducible first | refine then_ret ?_ | refine block_ret ?_)
    exact fn_ret hst4 hfr4 rfl (.tmp rfl <| .nil) (rfl)
  · try simp only [Bool.not_eq_true', Bool.not_eq_false', decide_eq_true_eq, decide_eq_false_iff_not, Bool.and_eq_true, Bool.or_eq_true, Bool.and_eq_false_iff, Bool.or_eq_false_iff, Bool.not_not, u8_eq] at hb38
    have hg1 : deepT t ≤ 150 := by omega
    have hg2 : rightT t = true := by simp_all
    refine wp_skip ?_
    refine hK5 _ _ ?_; try clear hK5 K5
    refine seq_any fun K9 hK9 => ?_
    replace hst3 := hst3.more (r := .free) trivial List.nodup_nil (by simp [Res.blocks])
    refine region_any (tch := [(3, 0, (fun v => .blk v _)), (4, 0, (fun v => .blkx v _ _))]) (fun h => by cases h) hst3 hfr3 (by kernel_rfl) (by kernel_rfl) (by kernel_rfl) (.cons rfl (ob_loadS' rfl hc2 Tryd.isAgg27 Tryd.sizeOf27 rfl rfl) <|
        .cons rfl (ob_buildSlice (.cons rfl <| .nil) Tryd.underlying22 Tryd.sizeOf27 Tryd.zeroValue27 rfl rfl rfl rfl) <|
        .cons rfl (ob_imgV 41 rfl rfl rfl fun y41 => ob_buildS (.cons rfl <| .cons rfl <| .nil) Tryd.underlying27 Tryd.zeroValue27 (.cons Tryd.sizeOf3 <| .cons Tryd.sizeOf9 <| .cons Tryd.sizeOf3 <| .cons Tryd.sizeOf22 <| .cons Tryd.sizeOf25 <| .nil) rfl) <|
        .consT rfl rfl (fun _ => rfl) rfl (ob_allocL Tryd.zeroValue27 rfl) <|
        .consT rfl rfl (fun _ => rfl) rfl (ob_imgT 6 rfl rfl rfl fun y6 => ob_imgTX 42 rfl rfl rfl fun y42 => ob_storeF rfl rfl rfl rfl rfl Tryd.sizeOf27 rfl rfl rfl) <|
        .nil) ?_
    intro a4 w4 m4 hst4 hle4 hk4
    have hfr4 := hk4.fr (T' := [(0, _), (1, _), (4, _), (2, _), (3, _), (5, _)]) (.old rfl rfl <| .old rfl rfl <| .old rfl rfl <| .old rfl rfl <| .old rfl rfl <| .old rfl rfl <| .nil)
    obtain ⟨g10, e10, _⟩ := hk4.ex 6 rfl
    replace hfr4 := hfr4.cons e10
    replace hst4 := hst4.fin (L' := [_]) (.cons e10 <| .cons e10 <| .nil)
    obtain ⟨gk, hgk, hst4⟩ := hst4.unx (k := 0) rfl (fun _ => rfl)
    replace h_t := h_t.mono hle4
    replace hk_t := hk_t.mono hle4
    replace hs_t := hs_t.mono hle4
    replace hrw_t := hrw_t.mono hle4
    replace h_r := h_r.mono hle4
    replace hs_r := hs_r.mono hle4
    replace hc2 := hc2.mono hle4
    replace hc3 := hc3.mono hle4
    replace hM := hM.trans hle4
    clear hst3 hfr3 hk4
    have hrt : TyR m4 (refT t) [.int .i64 6, S [], .int .i64 0, .slice (some ⟨gk, 0, none⟩) 1 1, .slice none 0 0, .int .i64 0] := TyR.build (k := 6) (v := 0) (r := 0) (s := []) (ls := []) (Sl.one hgk rfl h_t) Sl.empty ⟨by omega, by omega⟩ ⟨by omega, by omega⟩ ⟨by omega, by omega⟩
    refine hK9 _ _ ?_; try clear hK9 K9
    refine seq_any fun K12 hK12 => ?_
    refine region_any (tch := []) (fun h => by cases h) hst4 hfr4 (by kernel_rfl) (by kernel_rfl) (by kernel_rfl) (.cons rfl (ob_loadLS' (j := 0) rfl rfl Tryd.isAgg27 Tryd.sizeOf27 rfl rfl) <|
        .cons rfl (ob_call (φ := MP.two (walkT (refT t) ([], [])).1 (walkT (refT t) ([], [])).2) rfl (.cons rfl <| .nil) Tryd.call21 (fun w m hK => by have hle_ := KC.le hK; have hA := KC.agree hK; have hM := hM.trans hle_; have hT := tab_keep hT hK.st.ext; have hrt := hrt.mono hle_; exact FnG.mono (vars_c (t := refT t) hA hrt (by omega)) fun _ _ _ _ h => h)) <|
        .cons rfl (ob_imgV 45 rfl rfl rfl fun y45 => ob_move rfl) <|
        .cons rfl (ob_imgV 43 rfl rfl rfl fun y43 => ob_extract rfl rfl) <|
        .cons rfl (ob_imgV 43 rfl rfl rfl fun y43 => ob_extract rfl rfl) <|
        .consA 46 rfl rfl <|
        .consA 47 rfl rfl <|
        .nil) ?_
    intro a5 w5 m5 hst5 hle5 hk5
    have hfr5 := hk5.fr (T' := [(0, _), (1, _), (4, _), (2, _), (3, _), (5, _), (6, _)]) (.old rfl rfl <| .old rfl rfl <| .old rfl rfl <| .old rfl rfl <| .old rfl rfl <| .old rfl rfl <| .old rfl rfl <| .nil)
    obtain ⟨⟨⟨o1, c1⟩, q1⟩, e13, hI1, _⟩ := hk5.ex 46 rfl
    replace hfr5 := hfr5.cons e13
    obtain ⟨⟨q2, o2, c2⟩, e14, _, hI2⟩ := hk5.ex 47 rfl
    replace hfr5 := hfr5.cons e14
    replace hfr5 := hfr5.cons (hk5.same 7 rfl e13)
    replace hfr5 := hfr5.cons (hk5.same 8 rfl e14)
    replace h_t := h_t.mono hle5
    replace hk_t := hk_t.mono hle5
    replace hs_t := hs_t.mono hle5
    replace hrw_t := hrw_t.mono hle5
    replace h_r := h_r.mono hle5
    replace hs_r := hs_r.mono hle5
    replace hc2 := hc2.mono hle5
    replace hc3 := hc3.mono hle5
    replace hgk := hgk.mono hle5
    replace hrt := hrt.mono hle5
    replace hM := hM.trans hle5
    clear hst4 hfr4 hk5
    refine hK12 _ _ ?_; try clear hK12 K12
    refine seq_any fun K15 hK15 => ?_
    refine region_any (tch := []) (fun h => by cases h) hst5 hfr5 (by kernel_rfl) (by kernel_rfl) (by kernel_rfl) (.cons rfl (ob_loadS' rfl hc2 Tryd.isAgg27 Tryd.sizeOf27 rfl rfl) <|
        .cons rfl (ob_call (φ := MP.two (walkT t ([], [])).1 (walkT t ([], [])).2) rfl (.cons rfl <| .nil) Tryd.call21 (fun w m hK => by have hle_ := KC.le hK; have hA := KC.agree hK; have hM := hM.trans hle_; have hT := tab_keep hT hK.st.ext; have h_t := h_t.mono hle_; exact FnG.mono (vars_c (t := t) hA h_t (by omega)) fun _ _ _ _ h => h)) <|
        .cons rfl (ob_imgV 50 rfl rfl rfl fun y50 => ob_move rfl) <|
        .cons rfl (ob_imgV 48 rfl rfl rfl fun y48 => ob_extract rfl rfl) <|
        .cons rfl (ob_imgV 48 rfl rfl rfl fun y48 => ob_extract rfl rfl) <|
        .consA 51 rfl rfl <|
        .consA 52 rfl rfl <|
        .nil) ?_
    intro a6 w6 m6 hst6 hle6 hk6
    have hfr6 := hk6.fr (T' := [(0, _), (1, _), (4, _), (2, _), (3, _), (5, _), (6, _), (7, _), (8, _)]) (.old rfl rfl <| .old rfl rfl <| .old rfl rfl <| .old rfl rfl <| .old rfl rfl <| .old rfl rfl <| .old rfl rfl <| .old rfl rfl <| .old rfl rfl <| .nil)
    obtain ⟨⟨⟨o3, c3⟩, q3⟩, e16, hI3, _⟩ := hk6.ex 51 rfl
    replace hfr6 := hfr6.cons e16
    obtain ⟨⟨q4, o4, c4⟩, e17, _, hI4⟩ := hk6.ex 52 rfl
    replace hfr6 := hfr6.cons e17
    replace hfr6 := hfr6.cons (hk6.same 9 rfl e16)
    replace hfr6 := hfr6.cons (hk6.same 10 rfl e17)
    replace h_t := h_t.mono hle6
    replace hk_t := hk_t.mono hle6
    replace hs_t := hs_t.mono hle6
    replace hrw_t := hrw_t.mono hle6
    replace h_r := h_r.mono hle6
    replace hs_r := hs_r.mono hle6
    replace hc2 := hc2.mono hle6
    replace hc3 := hc3.mono hle6
    replace hgk := hgk.mono hle6
    replace hrt := hrt.mono hle6
    replace hI1 := hI1.mono hle6
    replace hI2 := hI2.mono hle6
    replace hM := hM.trans hle6
    clear hst5 hfr5 hk6
    refine hK15 _ _ ?_; try clear hK15 K15
    refine seq_any fun K18 hK18 => ?_
    refine region_plain (fun h => by cases h) hst6 hfr6 (by kernel_rfl) (by kernel_rfl) (.cons rfl (ob_loadS' rfl hc2 Tryd.isAgg27 Tryd.sizeOf27 rfl rfl) <|
        .cons rfl (ob_callE rfl (.cons rfl <| .nil) Tryd.call14 (fun w m hK => by have hle_ := KC.le hK; have hA := KC.agree hK; have hM := hM.trans hle_; have hT := tab_keep hT hK.st.ext; have h_t := h_t.mono hle_; exact text_c t hA h_t hT (by omega))) <|
        .cons rfl (ob_assign rfl) <|
        .nil) ?_
    intro a7 w7 m7 hst7 hle7 hk7
    have hfr7 := hk7.fr (T' := [(0, _), (1, _), (4, _), (2, _), (3, _), (5, _), (6, _), (7, _), (8, _), (9, _), (10, _), (11, _)]) (.old rfl rfl <| .old rfl rfl <| .old rfl rfl <| .old rfl rfl <| .old rfl rfl <| .old rfl rfl <| .old rfl rfl <| .old rfl rfl <| .old rfl rfl <| .old rfl rfl <| .old rfl rfl <| .new rfl <| .nil)
    replace h_t := h_t.mono hle7
    replace hk_t := hk_t.mono hle7
    replace hs_t := hs_t.mono hle7
    replace hrw_t := hrw_t.mono hle7
    replace h_r := h_r.mono hle7
    replace hs_r := hs_r.mono hle7
    replace hc2 := hc2.mono hle7
    replace hc3 := hc3.mono hle7
    replace hgk := hgk.mono hle7
    replace hrt := hrt.mono hle7
    replace hI1 := hI1.mono hle7
    replace hI2 := hI2.mono hle7
    replace hI3 := hI3.mono hle7
    replace hI4 := hI4.mono hle7
    replace hM := hM.trans hle7
    clear hst6 hfr6 hk7
    refine hK18 _ _ ?_; try clear hK18 K18
    refine seq_any fun K19 hK19 => ?_
    refine region_plain (fun h => by cases h) hst7 hfr7 (by kernel_rfl) (by kernel_rfl) (.cons rfl (ob_move rfl) <|
        .cons rfl (ob_assign rfl) <|
        .nil) ?_
    intro a8 w8 m8 hst8 hle8 hk8
    have hfr8 := hk8.fr (T' := [(0, _), (1, _), (4, _), (2, _), (3, _), (5, _), (6, _), (7, _), (8, _), (9, _), (10, _), (11, _), (12, _)]) (.old rfl rfl <| .old rfl rfl <| .old rfl rfl <| .old rfl rfl <| .old rfl rfl <| .old rfl rfl <| .old rfl rfl <| .old rfl rfl <| .old rfl rfl <| .old rfl rfl <| .old rfl rfl <| .old rfl rfl <| .new rfl <| .nil)
    replace h_t := h_t.mono hle8
    replace hk_t := hk_t.mono hle8
    replace hs_t := hs_t.mono hle8
    replace hrw_t := hrw_t.mono hle8
    replace h_r := h_r.mono hle8
    replace hs_r := hs_r.mono hle8
    replace hc2 := hc2.mono hle8
    replace hc3 := hc3.mono hle8
    replace hgk := hgk.mono hle8
    replace hrt := hrt.mono hle8
    replace hI1 := hI1.mono hle8
    replace hI2 := hI2.mono hle8
    replace hI3 := hI3.mono hle8
    replace hI4 := hI4.mono hle8
    replace hM := hM.trans hle8
    clear hst7 hfr7 hk8
    refine hK19 _ _ ?_; try clear hK19 K19
    refine seq_any fun K20 hK20 => ?_
    refine seq_any fun K21 hK21 => ?_
    refine region_plain (fun h => by cases h) hst8 hfr8 (by kernel_rfl) (by kernel_rfl) (.cons rfl (ob_fieldAddr rfl Tryd.underlying27 rfl Tryd.sizeOf3 rfl) <|
        .cons rfl (ob_load1 rfl hc2 Tryd.isAgg3 rfl) <|
        .cons rfl (ob_eql rfl rfl) <|
        .cons rfl (ob_move rfl) <|
        .cons rfl (ob_fieldAddr rfl Tryd.underlying27 rfl Tryd.sizeOf3 rfl) <|
        .cons rfl (ob_load1 rfl hc2 Tryd.isAgg3 rfl) <|
        .cons rfl (ob_eql rfl rfl) <|
        .cons rfl (ob_or rfl rfl rfl) <|
        .nil) ?_
    intro a9 w9 m9 hst9 hle9 hk9
    have hfr9 := hk9.fr (T' := [(0, _), (1, _), (4, _), (2, _), (3, _), (5, _), (6, _), (7, _), (8, _), (9, _), (10, _), (11, _), (12, _), (63, _)]) (.old rfl rfl <| .old rfl rfl <| .old rfl rfl <| .old rfl rfl <| .old rfl rfl <| .old rfl rfl <| .old rfl rfl <| .old rfl rfl <| .old rfl rfl <| .old rfl rfl <| .old rfl rfl <| .old rfl rfl <| .old rfl rfl <| .new rfl <| .nil)
    replace h_t := h_t.mono hle9
    replace hk_t := hk_t.mono hle9
    replace hs_t := hs_t.mono hle9
    replace hrw_t := hrw_t.mono hle9
    replace h_r := h_r.mono hle9
    replace hs_r := hs_r.mono hle9
    replace hc2 := hc2.mono hle9
    replace hc3 := hc3.mono hle9
    replace hgk := hgk.mono hle9
    replace hrt := hrt.mono hle9
    replace hI1 := hI1.mono hle9
    replace hI2 := hI2.mono hle9
    replace hI3 := hI3.mono hle9
    replace hI4 := hI4.mono hle9
    replace hM := hM.trans hle9
    clear hst8 hfr8 hk9
    refine hK21 _ _ ?_; try clear hK21 K21
    refine cond_any hfr9 rfl rfl (fun hb63 => ?_) (fun hb63 => ?_)
    · try simp only [Bool.not_eq_true', Bool.not_eq_false', decide_eq_true_eq, decide_eq_false_iff_not, Bool.and_eq_true, Bool.or_eq_true, Bool.and_eq_false_iff, Bool.or_eq_false_iff, Bool.not_not, u8_eq] at hb63
      refine region_plain (fun h => by cases h) hst9 hfr9 (by kernel_rfl) (by kernel_rfl) (.cons rfl (ob_move rfl) <|
          .cons rfl (ob_sadd rfl rfl (by first | omega | (simp only [List.length_append, List.length_cons, List.length_nil, List.length_map]; omega))) <|
          .cons rfl (ob_sadd rfl rfl (by first | omega | (simp only [List.length_append, List.length_cons, List.length_nil, List.length_map]; omega))) <|
          .cons rfl (ob_assign rfl) <|
          .nil) ?_
      intro a10 w10 m10 hst10 hle10 hk10
      have hfr10 := hk10.fr (T' := [(0, _), (1, _), (4, _), (2, _), (3, _), (5, _), (6, _), (7, _), (8, _), (9, _), (10, _), (11, _), (12, _)]) (.old rfl rfl <| .old rfl rfl <| .old rfl rfl <| .old rfl rfl <| .old rfl rfl <| .old rfl rfl <| .old rfl rfl <| .old rfl rfl <| .old rfl rfl <| .old rfl rfl <| .old rfl rfl <| .old rfl rfl <| .new rfl <| .nil)
      replace h_t := h_t.mono hle10
      replace hk_t := hk_t.mono hle10
      replace hs_t := hs_t.mono hle10
      replace hrw_t := hrw_t.mono hle10
      replace h_r := h_r.mono hle10
      replace hs_r := hs_r.mono hle10
      replace hc2 := hc2.mono hle10
      replace hc3 := hc3.mono hle10
      replace hgk := hgk.mono hle10
      replace hrt := hrt.mono hle10
      replace hI1 := hI1.mono hle10
      replace hI2 := hI2.mono hle10
      replace hI3 := hI3.mono hle10
      replace hI4 := hI4.mono hle10
      replace hM := hM.trans hle10
      clear hst9 hfr9 hk10
      refine hK20 _ _ ?_; try clear hK20 K20
      refine seq_any fun K22 hK22 => ?_
      refine region_plain (fun h => by cases h) hst10 hfr10 (by kernel_rfl) (by kernel_rfl) (.cons rfl (ob_loadS' rfl hc2 Tryd.isAgg27 Tryd.sizeOf27 rfl rfl) <|
          .cons rfl (ob_loadS' rfl hc3 Tryd.isAgg25 Tryd.sizeOf25 rfl rfl) <|
          .cons rfl (ob_loadS' rfl hc2 Tryd.isAgg27 Tryd.sizeOf27 rfl rfl) <|
          .cons rfl (ob_call (φ := MP.ty (funT t r.labels r.var t)) rfl (.cons rfl <| .cons rfl <| .cons rfl <| .nil) Tryd.call20 (fun w m hK => by have hle_ := KC.le hK; have hA := KC.agree hK; have hM := hM.trans hle_; have hT := tab_keep hT hK.st.ext; have h_t := h_t.mono hle_; have h_r := h_r.mono hle_; exact FnG.mono (fun_c (a := t) (r := r) (b := t) hA h_t h_r h_t) fun _ _ _ _ h => h)) <|
          .cons rfl (ob_imgE 70 rfl rfl rfl fun y70 => ob_callE rfl (.cons rfl <| .nil) Tryd.call14 (fun w m hK => by have hle_ := KC.le hK; have hA := KC.agree hK; have hM := hM.trans hle_; have hT := tab_keep hT hK.1.st.ext; have hr0_ := hK.2; exact text_c (funT t r.labels r.var t) hA hr0_ hT (by omega))) <|
          .cons rfl (ob_assign rfl) <|
          .nil) ?_
      intro a11 w11 m11 hst11 hle11 hk11
      have hfr11 := hk11.fr (T' := [(0, _), (1, _), (4, _), (2, _), (3, _), (5, _), (6, _), (7, _), (8, _), (9, _), (10, _), (11, _), (12, _), (13, _)]) (.old rfl rfl <| .old rfl rfl <| .old rfl rfl <| .old rfl rfl <| .old rfl rfl <| .old rfl rfl <| .old rfl rfl <| .old rfl rfl <| .old rfl rfl <| .old rfl rfl <| .old rfl rfl <| .old rfl rfl <| .old rfl rfl <| .new rfl <| .nil)
      replace h_t := h_t.mono hle11
      replace hk_t := hk_t.mono hle11
      replace hs_t := hs_t.mono hle11
      replace hrw_t := hrw_t.mono hle11
      replace h_r := h_r.mono hle11
      replace hs_r := hs_r.mono hle11
      replace hc2 := hc2.mono hle11
      replace hc3 := hc3.mono hle11
      replace hgk := hgk.mono hle11
      replace hrt := hrt.mono hle11
      replace hI1 := hI1.mono hle11
      replace hI2 := hI2.mono hle11
      replace hI3 := hI3.mono hle11
      replace hI4 := hI4.mono hle11
      replace hM := hM.trans hle11
      clear hst10 hfr10 hk11
      refine hK22 _ _ ?_; try clear hK22 K22
      refine seq_any fun K23 hK23 => ?_
      have ecast : ((textT (funT t r.labels r.var t)).length : Int) - ((textT t).length : Int) = (((textT (funT t r.labels r.var t)).length - (textT t).length : Nat) : Int) := by omega
      refine region_plain (fun _ => mixed) hst11 hfr11 (by kernel_rfl) (by kernel_rfl) (.cons rfl (ob_move rfl) <|
          .cons rfl (ob_move rfl) <|
          .cons rfl (ob_loadLS' (j := 0) rfl rfl Tryd.isAgg27 Tryd.sizeOf27 rfl rfl) <|
          .cons rfl (ob_callE rfl (.cons rfl <| .nil) Tryd.call13 (fun w m hK => by have hle_ := KC.le hK; have hA := KC.agree hK; have hM := hM.trans hle_; have hT := tab_keep hT hK.st.ext; have hrt := hrt.mono hle_; exact right0_c (t := refT t) hA hrt)) <|
          .cons rfl (ob_and rfl rfl rfl) <|
          .cons rfl (ob_move rfl) <|
          .cons rfl (ob_loadLS' (j := 0) rfl rfl Tryd.isAgg27 Tryd.sizeOf27 rfl rfl) <|
          .cons rfl (ob_callE rfl (.cons rfl <| .nil) Tryd.call18 (fun w m hK => by have hle_ := KC.le hK; have hA := KC.agree hK; have hM := hM.trans hle_; have hT := tab_keep hT hK.st.ext; have hrt := hrt.mono hle_; exact depth0_c (t := refT t) hA hrt)) <|
          .cons rfl (ob_loadS' rfl hc2 Tryd.isAgg27 Tryd.sizeOf27 rfl rfl) <|
          .cons rfl (ob_callE rfl (.cons rfl <| .nil) Tryd.call18 (fun w m hK => by have hle_ := KC.le hK; have hA := KC.agree hK; have hM := hM.trans hle_; have hT := tab_keep hT hK.st.ext; have h_t := h_t.mono hle_; exact depth0_c (t := t) hA h_t)) <|
          .cons rfl (ob_add rfl rfl ⟨by omega, by omega⟩) <|
          .cons rfl (ob_eql rfl rfl) <|
          .cons rfl (ob_and rfl rfl rfl) <|
          .cons rfl (ob_move rfl) <|
          .cons rfl (ob_move rfl) <|
          .cons rfl (ob_move rfl) <|
          .cons rfl (ob_callE rfl (.cons rfl <| .cons rfl <| .nil) Tryd.call23 (fun w m hK => by have hle_ := KC.le hK; have hA := KC.agree hK; have hM := hM.trans hle_; have hT := tab_keep hT hK.st.ext; have hI1 := hI1.mono hle_; have hI3 := hI3.mono hle_; exact sameints_c (l := (walkT (refT t) ([], [])).1) (k := (walkT t ([], [])).1) hA hI1 hI3)) <|
          .cons rfl (ob_and rfl rfl rfl) <|
          .cons rfl (ob_move rfl) <|
          .cons rfl (ob_move rfl) <|
          .cons rfl (ob_move rfl) <|
          .cons rfl (ob_callE rfl (.cons rfl <| .cons rfl <| .nil) Tryd.call23 (fun w m hK => by have hle_ := KC.le hK; have hA := KC.agree hK; have hM := hM.trans hle_; have hT := tab_keep hT hK.st.ext; have hI2 := hI2.mono hle_; have hI4 := hI4.mono hle_; exact sameints_c (l := (walkT (refT t) ([], [])).2) (k := (walkT t ([], [])).2) hA hI2 hI4)) <|
          .cons rfl (ob_and rfl rfl rfl) <|
          .cons rfl (ob_move rfl) <|
          .cons rfl (ob_loadLS' (j := 0) rfl rfl Tryd.isAgg27 Tryd.sizeOf27 rfl rfl) <|
          .cons rfl (ob_callE rfl (.cons rfl <| .nil) Tryd.call14 (fun w m hK => by have hle_ := KC.le hK; have hA := KC.agree hK; have hM := hM.trans hle_; have hT := tab_keep hT hK.st.ext; have hrt := hrt.mono hle_; exact text_c (refT t) hA hrt hT (by omega))) <|
          .cons rfl (ob_move rfl) <|
          .cons rfl (ob_sadd rfl rfl (by first | omega | (simp only [List.length_append, List.length_cons, List.length_nil, List.length_map]; omega))) <|
          .cons rfl (ob_seql rfl rfl) <|
          .cons rfl (ob_and rfl rfl rfl) <|
          .cons rfl (ob_move rfl) <|
          .cons rfl (ob_move rfl) <|
          .cons rfl (ob_slen rfl Tryd.underlying9) <|
          .cons rfl (ob_move rfl) <|
          .cons rfl (ob_slen rfl Tryd.underlying9) <|
          .cons rfl (ob_mul rfl rfl ⟨by omega, by omega⟩) <|
          .cons rfl (ob_add rfl rfl ⟨by omega, by omega⟩) <|
          .cons rfl (ob_geq rfl rfl) <|
          .cons rfl (ob_and rfl rfl rfl) <|
          .cons rfl (ob_move rfl) <|
          .cons rfl (ob_move rfl) <|
          .cons rfl (ob_move rfl) <|
          .cons rfl (ob_slen rfl Tryd.underlying9) <|
          .cons rfl (ob_move rfl) <|
          .cons rfl (ob_slen rfl Tryd.underlying9) <|
          .cons rfl (ob_sub rfl rfl ⟨by omega, by omega⟩) <|
          .cons rfl (ob_sslice rfl (.some rfl ecast) .none Tryd.underlying9 (by omega) (by omega)) <|
          .cons rfl (ob_move rfl) <|
          .cons rfl (ob_seql rfl rfl) <|
          .cons rfl (ob_and rfl rfl rfl) <|
          .cons rfl (ob_assign rfl) <|
          .nil) ?_
      intro a12 w12 m12 hst12 hle12 hk12
      have hfr12 := hk12.fr (T' := [(0, _), (1, _), (2, _), (3, _), (5, _), (6, _), (7, _), (8, _), (9, _), (10, _), (11, _), (12, _), (13, _), (4, _)]) (.old rfl rfl <| .old rfl rfl <| .old rfl rfl <| .old rfl rfl <| .old rfl rfl <| .old rfl rfl <| .old rfl rfl <| .old rfl rfl <| .old rfl rfl <| .old rfl rfl <| .old rfl rfl <| .old rfl rfl <| .old rfl rfl <| .new rfl <| .nil)
      replace h_t := h_t.mono hle12
      replace hk_t := hk_t.mono hle12
      replace hs_t := hs_t.mono hle12
      replace hrw_t := hrw_t.mono hle12
      replace h_r := h_r.mono hle12
      replace hs_r := hs_r.mono hle12
      replace hc2 := hc2.mono hle12
      replace hc3 := hc3.mono hle12
      replace hgk := hgk.mono hle12
      replace hrt := hrt.mono hle12
      replace hI1 := hI1.mono hle12
      replace hI2 := hI2.mono hle12
      replace hI3 := hI3.mono hle12
      replace hI4 := hI4.mono hle12
      replace hM := hM.trans hle12
      clear hst11 hfr11 hk12
      refine hK23 _ _ ?_; try clear hK23 K23
      refine wp_ret ?_
      repeat (with_reducible first | refine then_ret ?_ | refine block_ret ?_)
      exact fn_ret hst12 hfr12 rfl (.tmp rfl <| .nil) (by refine congrArg Value.bool ?_; rw [walk_ref, deep_ref, right_ref, text_ref, hg2, hfl, e4_, List.take_of_length_le (by rw [List.length_append]; omega), Nat.add_sub_cancel, List.drop_left]; have q1 : decide (deepT t + 1 ≤ 200) = true := decide_eq_true (by omega); rw [q1]; unfold parS; by_cases h6 : t.kind = 6 <;> by_cases h5 : t.kind = 5 <;> simp_all <;> omega)
    · try simp only [Bool.not_eq_true', Bool.not_eq_false', decide_eq_true_eq, decide_eq_false_iff_not, Bool.and_eq_true, Bool.or_eq_true, Bool.and_eq_false_iff, Bool.or_eq_false_iff, Bool.not_not, u8_eq] at hb63
      refine wp_skip ?_
      refine hK20 _ _ ?_; try clear hK20 K20
      refine seq_any fun K25 hK25 => ?_
      refine region_plain (fun h => by cases h) hst9 hfr9 (by kernel_rfl) (by kernel_rfl) (.cons rfl (ob_loadS' rfl hc2 Tryd.isAgg27 Tryd.sizeOf27 rfl rfl) <|
          .cons rfl (ob_loadS' rfl hc3 Tryd.isAgg25 Tryd.sizeOf25 rfl rfl) <|
          .cons rfl (ob_loadS' rfl hc2 Tryd.isAgg27 Tryd.sizeOf27 rfl rfl) <|
          .cons rfl (ob_call (φ := MP.ty (funT t r.labels r.var t)) rfl (.cons rfl <| .cons rfl <| .cons rfl <| .nil) Tryd.call20 (fun w m hK => by have hle_ := KC.le hK; have hA := KC.agree hK; have hM := hM.trans hle_; have hT := tab_keep hT hK.st.ext; have h_t := h_t.mono hle_; have h_r := h_r.mono hle_; exact FnG.mono (fun_c (a := t) (r := r) (b := t) hA h_t h_r h_t) fun _ _ _ _ h => h)) <|
          .cons rfl (ob_imgE 70 rfl rfl rfl fun y70 => ob_callE rfl (.cons rfl <| .nil) Tryd.call14 (fun w m hK => by have hle_ := KC.le hK; have hA := KC.agree hK; have hM := hM.trans hle_; have hT := tab_keep hT hK.1.st.ext; have hr0_ := hK.2; exact text_c (funT t r.labels r.var t) hA hr0_ hT (by omega))) <|
          .cons rfl (ob_assign rfl) <|
          .nil) ?_
      intro a10 w10 m10 hst10 hle10 hk10
      have hfr10 := hk10.fr (T' := [(0, _), (1, _), (4, _), (2, _), (3, _), (5, _), (6, _), (7, _), (8, _), (9, _), (10, _), (11, _), (12, _), (13, _)]) (.old rfl rfl <| .old rfl rfl <| .old rfl rfl <| .old rfl rfl <| .old rfl rfl <| .old rfl rfl <| .old rfl rfl <| .old rfl rfl <| .old rfl rfl <| .old rfl rfl <| .old rfl rfl <| .old rfl rfl <| .old rfl rfl <| .new rfl <| .nil)
      replace h_t := h_t.mono hle10
      replace hk_t := hk_t.mono hle10
      replace hs_t := hs_t.mono hle10
      replace hrw_t := hrw_t.mono hle10
      replace h_r := h_r.mono hle10
      replace hs_r := hs_r.mono hle10
      replace hc2 := hc2.mono hle10
      replace hc3 := hc3.mono hle10
      replace hgk := hgk.mono hle10
      replace hrt := hrt.mono hle10
      replace hI1 := hI1.mono hle10
      replace hI2 := hI2.mono hle10
      replace hI3 := hI3.mono hle10
      replace hI4 := hI4.mono hle10
      replace hM := hM.trans hle10
      clear hst9 hfr9 hk10
      refine hK25 _ _ ?_; try clear hK25 K25
      refine seq_any fun K26 hK26 => ?_
      have ecast : ((textT (funT t r.labels r.var t)).length : Int) - ((textT t).length : Int) = (((textT (funT t r.labels r.var t)).length - (textT t).length : Nat) : Int) := by omega
      refine region_plain (fun _ => mixed) hst10 hfr10 (by kernel_rfl) (by kernel_rfl) (.cons rfl (ob_move rfl) <|
          .cons rfl (ob_move rfl) <|
          .cons rfl (ob_loadLS' (j := 0) rfl rfl Tryd.isAgg27 Tryd.sizeOf27 rfl rfl) <|
          .cons rfl (ob_callE rfl (.cons rfl <| .nil) Tryd.call13 (fun w m hK => by have hle_ := KC.le hK; have hA := KC.agree hK; have hM := hM.trans hle_; have hT := tab_keep hT hK.st.ext; have hrt := hrt.mono hle_; exact right0_c (t := refT t) hA hrt)) <|
          .cons rfl (ob_and rfl rfl rfl) <|
          .cons rfl (ob_move rfl) <|
          .cons rfl (ob_loadLS' (j := 0) rfl rfl Tryd.isAgg27 Tryd.sizeOf27 rfl rfl) <|
          .cons rfl (ob_callE rfl (.cons rfl <| .nil) Tryd.call18 (fun w m hK => by have hle_ := KC.le hK; have hA := KC.agree hK; have hM := hM.trans hle_; have hT := tab_keep hT hK.st.ext; have hrt := hrt.mono hle_; exact depth0_c (t := refT t) hA hrt)) <|
          .cons rfl (ob_loadS' rfl hc2 Tryd.isAgg27 Tryd.sizeOf27 rfl rfl) <|
          .cons rfl (ob_callE rfl (.cons rfl <| .nil) Tryd.call18 (fun w m hK => by have hle_ := KC.le hK; have hA := KC.agree hK; have hM := hM.trans hle_; have hT := tab_keep hT hK.st.ext; have h_t := h_t.mono hle_; exact depth0_c (t := t) hA h_t)) <|
          .cons rfl (ob_add rfl rfl ⟨by omega, by omega⟩) <|
          .cons rfl (ob_eql rfl rfl) <|
          .cons rfl (ob_and rfl rfl rfl) <|
          .cons rfl (ob_move rfl) <|
          .cons rfl (ob_move rfl) <|
          .cons rfl (ob_move rfl) <|
          .cons rfl (ob_callE rfl (.cons rfl <| .cons rfl <| .nil) Tryd.call23 (fun w m hK => by have hle_ := KC.le hK; have hA := KC.agree hK; have hM := hM.trans hle_; have hT := tab_keep hT hK.st.ext; have hI1 := hI1.mono hle_; have hI3 := hI3.mono hle_; exact sameints_c (l := (walkT (refT t) ([], [])).1) (k := (walkT t ([], [])).1) hA hI1 hI3)) <|
          .cons rfl (ob_and rfl rfl rfl) <|
          .cons rfl (ob_move rfl) <|
          .cons rfl (ob_move rfl) <|
          .cons rfl (ob_move rfl) <|
          .cons rfl (ob_callE rfl (.cons rfl <| .cons rfl <| .nil) Tryd.call23 (fun w m hK => by have hle_ := KC.le hK; have hA := KC.agree hK; have hM := hM.trans hle_; have hT := tab_keep hT hK.st.ext; have hI2 := hI2.mono hle_; have hI4 := hI4.mono hle_; exact sameints_c (l := (walkT (refT t) ([], [])).2) (k := (walkT t ([], [])).2) hA hI2 hI4)) <|
          .cons rfl (ob_and rfl rfl rfl) <|
          .cons rfl (ob_move rfl) <|
          .cons rfl (ob_loadLS' (j := 0) rfl rfl Tryd.isAgg27 Tryd.sizeOf27 rfl rfl) <|
          .cons rfl (ob_callE rfl (.cons rfl <| .nil) Tryd.call14 (fun w m hK => by have hle_ := KC.le hK; have hA := KC.agree hK; have hM := hM.trans hle_; have hT := tab_keep hT hK.st.ext; have hrt := hrt.mono hle_; exact text_c (refT t) hA hrt hT (by omega))) <|
          .cons rfl (ob_move rfl) <|
          .cons rfl (ob_sadd rfl rfl (by first | omega | (simp only [List.length_append, List.length_cons, List.length_nil, List.length_map]; omega))) <|
          .cons rfl (ob_seql rfl rfl) <|
          .cons rfl (ob_and rfl rfl rfl) <|
          .cons rfl (ob_move rfl) <|
          .cons rfl (ob_move rfl) <|
          .cons rfl (ob_slen rfl Tryd.underlying9) <|
          .cons rfl (ob_move rfl) <|
          .cons rfl (ob_slen rfl Tryd.underlying9) <|
          .cons rfl (ob_mul rfl rfl ⟨by omega, by omega⟩) <|
          .cons rfl (ob_add rfl rfl ⟨by omega, by omega⟩) <|
          .cons rfl (ob_geq rfl rfl) <|
          .cons rfl (ob_and rfl rfl rfl) <|
          .cons rfl (ob_move rfl) <|
          .cons rfl (ob_move rfl) <|
          .cons rfl (ob_move rfl) <|
          .cons rfl (ob_slen rfl Tryd.underlying9) <|
          .cons rfl (ob_move rfl) <|
          .cons rfl (ob_slen rfl Tryd.underlying9) <|
          .cons rfl (ob_sub rfl rfl ⟨by omega, by omega⟩) <|
          .cons rfl (ob_sslice rfl (.some rfl ecast) .none Tryd.underlying9 (by omega) (by omega)) <|
          .cons rfl (ob_move rfl) <|
          .cons rfl (ob_seql rfl rfl) <|
          .cons rfl (ob_and rfl rfl rfl) <|
          .cons rfl (ob_assign rfl) <|
          .nil) ?_
      intro a11 w11 m11 hst11 hle11 hk11
      have hfr11 := hk11.fr (T' := [(0, _), (1, _), (2, _), (3, _), (5, _), (6, _), (7, _), (8, _), (9, _), (10, _), (11, _), (12, _), (13, _), (4, _)]) (.old rfl rfl <| .old rfl rfl <| .old rfl rfl <| .old rfl rfl <| .old rfl rfl <| .old rfl rfl <| .old rfl rfl <| .old rfl rfl <| .old rfl rfl <| .old rfl rfl <| .old rfl rfl <| .old rfl rfl <| .old rfl rfl <| .new rfl <| .nil)
      replace h_t := h_t.mono hle11
      replace hk_t := hk_t.mono hle11
      replace hs_t := hs_t.mono hle11
      replace hrw_t := hrw_t.mono hle11
      replace h_r := h_r.mono hle11
      replace hs_r := hs_r.mono hle11
      replace hc2 := hc2.mono hle11
      replace hc3 := hc3.mono hle11
      replace hgk := hgk.mono hle11
      replace hrt := hrt.mono hle11
      replace hI1 := hI1.mono hle11
      replace hI2 := hI2.mono hle11
      replace hI3 := hI3.mono hle11
      replace hI4 := hI4.mono hle11
      replace hM := hM.trans hle11
      clear hst10 hfr10 hk11
      refine hK26 _ _ ?_; try clear hK26 K26
      refine wp_ret ?_
      repeat (with_reducible first | refine then_ret ?_ | refine block_ret ?_)
      exact fn_ret hst11 hfr11 rfl (.tmp rfl <| .nil) (by refine congrArg Value.bool ?_; rw [walk_ref, deep_ref, right_ref, text_ref, hg2, hfl, e4_, List.take_of_length_le (by rw [List.length_append]; omega), Nat.add_sub_cancel, List.drop_left]; have q1 : decide (deepT t + 1 ≤ 200) = true := decide_eq_true (by omega); rw [q1]; unfold parS; by_cases h6 : t.kind = 6 <;> by_cases h5 : t.kind = 5 <;> simp_all <;> omega)

end Go.Proofs.YtembdjghbphcdaaDoor
