/-
  'brocadelaw11': the walk of the law. Conditions: those of each theorem.
-/
import Derived.Test.YtineijefefjpeaaDoorShown1
import Derived.Test.YtineijefefjpeaaDoorPlain4
namespace Go.Proofs.YtineijefefjpeaaDoor
set_option linter.all false
open Go.RowKit
open Go.Lib (itoa formatBool decDigits)
theorem pre_step {nm s : Str} {l : List VT} {x : VT} {a : Bool} (h : a = true → s = nm ++ pre l) : (a && rightV 1000 x) = true → s ++ (if l = [] then [40] else [44, 32]) ++ (if rightV 1000 x then textV x else []) = nm ++ pre (l ++ [x]) := fun q => by
  rw [Bool.and_eq_true] at q
  rw [if_pos q.2, pre_snoc, h q.1]; simp

set_option maxHeartbeats 400000 in
theorem valueCons_c {w : World} {m : Mem} {nm0 : Str} {o_l : Option Addr} {c_l : Nat} {l : List VT} (hA : Agree w m) (h_l : Kids m o_l l.length c_l l) (hT : Tab w) (hb_l : bulkL l ≤ 1048576) : FnV Tryd.prog 9 #[S nm0, .slice o_l l.length c_l] w m (fun _ _ v => v = .bool true) := by
  have hb_l := h_l.big; have hc_l := h_l.cap
  refine fn_enter (vs := [_, _]) Tryd.func9 rfl rfl rfl fun a0 hfr0 => ?_
  have hst0 := st_enter hA (loc_nil [] _ w m)
  have hM : MLe m m := MLe.refl m
  have hmin : (if (20 : Int) < (nm0.length : Int) then (20 : Int) else (nm0.length : Int)) = ((min nm0.length 20 : Nat) : Int) := by split <;> omega
  have hmin2 : (if (10 : Int) < (l.length : Int) then (10 : Int) else (l.length : Int)) = ((min l.length 10 : Nat) : Int) := by split <;> omega
  refine seq_any fun K1 hK1 => ?_
  refine region_plain (fun h => by cases h) hst0 hfr0 (by kernel_rfl) (by kernel_rfl) (.cons rfl (ob_assign rfl) <|
      .nil) ?_
  intro a1 w1 m1 hst1 hle1 hk1
  have hfr1 := hk1.fr (T' := [(0, _), (1, _), (4, _)]) (.old rfl rfl <| .old rfl rfl <| .new rfl <| .nil)
  replace h_l := h_l.mono hle1
  replace hM := hM.trans hle1
  clear hst0 hfr0 hk1
  refine hK1 _ _ ?_; try clear hK1 K1
  refine seq_any fun K2 hK2 => ?_
  refine region_plain (fun h => by cases h) hst1 hfr1 (by kernel_rfl) (by kernel_rfl) (.cons rfl (ob_callE rfl (.nil) Tryd.call11 (fun w m hK => by have hle_ := KC.le hK; have hA := KC.agree hK; have hM := hM.trans hle_; have hT := tab_keep hT hK.st.ext; have h_l := h_l.mono hle_; exact shown_c hA (by first | assumption | omega | simp_all))) <|
      .cons rfl (ob_assign rfl) <|
      .nil) ?_
  intro a2 w2 m2 hst2 hle2 hk2
  have hfr2 := hk2.fr (T' := [(0, _), (1, _), (4, _), (5, _)]) (.old rfl rfl <| .old rfl rfl <| .old rfl rfl <| .new rfl <| .nil)
  replace h_l := h_l.mono hle2
  replace hM := hM.trans hle2
  clear hst1 hfr1 hk2
  refine hK2 _ _ ?_; try clear hK2 K2
  refine seq_any fun K3 hK3 => ?_
  refine region_plain (fun h => by cases h) hst2 hfr2 (by kernel_rfl) (by kernel_rfl) (.cons rfl (ob_move rfl) <|
      .cons rfl (ob_move rfl) <|
      .cons rfl (ob_slen rfl Tryd.underlying9) <|
      .cons rfl (ob_min2 rfl rfl) <|
      .cons rfl (ob_sslice rfl .none (.some rfl hmin) Tryd.underlying9 (Nat.zero_le _) (by omega)) <|
      .cons rfl (ob_sadd rfl rfl (by simp only [List.length_drop, List.length_take, List.length_cons, List.length_nil]; omega)) <|
      .cons rfl (ob_assign rfl) <|
      .nil) ?_
  intro a3 w3 m3 hst3 hle3 hk3
  have hfr3 := hk3.fr (T' := [(1, _), (4, _), (5, _), (0, _)]) (.old rfl rfl <| .old rfl rfl <| .old rfl rfl <| .new rfl <| .nil)
  replace h_l := h_l.mono hle3
  replace hM := hM.trans hle3
  clear hst2 hfr2 hk3
  obtain ⟨nm, hnm⟩ : ∃ nm : Str, nm = 67 :: nm0.take (min nm0.length 20) := ⟨_, rfl⟩
  rw [show [67] ++ (nm0.take (min nm0.length 20)).drop 0 = nm from by rw [hnm]; rfl] at hfr3
  have hnl : nm.length ≤ 21 := by rw [hnm]; simp only [List.length_cons, List.length_take]; omega
  have hn0 : nm ≠ [] := by rw [hnm]; simp
  refine hK3 _ _ ?_; try clear hK3 K3
  refine seq_any fun K4 hK4 => ?_
  refine region_plain (fun h => by cases h) hst3 hfr3 (by kernel_rfl) (by kernel_rfl) (.cons rfl (ob_move rfl) <|
      .cons rfl (ob_move rfl) <|
      .cons rfl (ob_len rfl Tryd.underlying22) <|
      .cons rfl (ob_min2 rfl rfl) <|
      .cons rfl (ob_slice rfl .none (.some rfl hmin2) Tryd.underlying22 Tryd.sizeOf24 (Nat.zero_le _) (by omega)) <|
      .cons rfl (ob_assign rfl) <|
      .nil) ?_
  intro a4 w4 m4 hst4 hle4 hk4
  have hfr4 := hk4.fr (T' := [(4, _), (5, _), (0, _), (1, _)]) (.old rfl rfl <| .old rfl rfl <| .old rfl rfl <| .new rfl <| .nil)
  replace h_l := h_l.mono hle4
  replace hM := hM.trans hle4
  clear hst3 hfr3 hk4
  have hcut : Kids m4 _ _ _ _ := h_l.cut (l := 0) (k := min l.length 10) (Nat.zero_le _) (by omega)
  generalize (if c_l = 0 then o_l else o_l.map (·.add (0 * 4))) = o2 at hcut hfr4
  simp only [Nat.sub_zero] at hcut hfr4
  obtain ⟨l2, hl2⟩ : ∃ l2, l2 = (l.take (min l.length 10)).drop 0 := ⟨_, rfl⟩
  rw [← hl2] at hcut
  have hlen2 := hcut.len
  rw [← hlen2] at hcut hfr4
  have hb2 : bulkL l2 ≤ 1048576 := by rw [hl2, List.drop_zero]; have := bulkL_take l (min l.length 10); omega
  have hbg2 := hcut.big
  refine hK4 _ _ ?_; try clear hK4 K4
  refine seq_any fun K5 hK5 => ?_
  refine region_plain (fun h => by cases h) hst4 hfr4 (by kernel_rfl) (by kernel_rfl) (.cons rfl (ob_assign rfl) <|
      .nil) ?_
  intro a5 w5 m5 hst5 hle5 hk5
  have hfr5 := hk5.fr (T' := [(4, _), (5, _), (0, _), (1, _), (6, _)]) (.old rfl rfl <| .old rfl rfl <| .old rfl rfl <| .old rfl rfl <| .new rfl <| .nil)
  replace h_l := h_l.mono hle5
  replace hcut := hcut.mono hle5
  replace hM := hM.trans hle5
  clear hst4 hfr4 hk5
  refine hK5 _ _ ?_; try clear hK5 K5
  refine seq_any fun K6 hK6 => ?_
  refine region_plain (fun h => by cases h) hst5 hfr5 (by kernel_rfl) (by kernel_rfl) (.cons rfl (ob_assign rfl) <|
      .nil) ?_
  intro a6 w6 m6 hst6 hle6 hk6
  have hfr6 := hk6.fr (T' := [(4, _), (5, _), (0, _), (1, _), (6, _), (7, _)]) (.old rfl rfl <| .old rfl rfl <| .old rfl rfl <| .old rfl rfl <| .old rfl rfl <| .new rfl <| .nil)
  replace h_l := h_l.mono hle6
  replace hcut := hcut.mono hle6
  replace hM := hM.trans hle6
  clear hst5 hfr5 hk6
  refine hK6 _ _ ?_; try clear hK6 K6
  refine seq_any fun K7 hK7 => ?_
  refine region_plain (fun h => by cases h) hst6 hfr6 (by kernel_rfl) (by kernel_rfl) (.cons rfl (ob_move rfl) <|
      .cons rfl (ob_assign rfl) <|
      .nil) ?_
  intro a7 w7 m7 hst7 hle7 hk7
  have hfr7 := hk7.fr (T' := [(4, _), (5, _), (0, _), (1, _), (6, _), (7, _), (8, _)]) (.old rfl rfl <| .old rfl rfl <| .old rfl rfl <| .old rfl rfl <| .old rfl rfl <| .old rfl rfl <| .new rfl <| .nil)
  replace h_l := h_l.mono hle7
  replace hcut := hcut.mono hle7
  replace hM := hM.trans hle7
  clear hst6 hfr6 hk7
  refine hK7 _ _ ?_; try clear hK7 K7
  refine seq_any fun K8 hK8 => ?_
  refine seq_any fun K9 hK9 => ?_
  refine region_plain (fun h => by cases h) hst7 hfr7 (by kernel_rfl) (by kernel_rfl) (.cons rfl (ob_assign rfl) <|
      .nil) ?_
  intro a8 w8 m8 hst8 hle8 hk8
  have hfr8 := hk8.fr (T' := [(4, _), (5, _), (0, _), (1, _), (6, _), (7, _), (8, _), (9, _)]) (.old rfl rfl <| .old rfl rfl <| .old rfl rfl <| .old rfl rfl <| .old rfl rfl <| .old rfl rfl <| .old rfl rfl <| .new rfl <| .nil)
  replace h_l := h_l.mono hle8
  replace hcut := hcut.mono hle8
  replace hM := hM.trans hle8
  clear hst7 hfr7 hk8
  refine hK9 _ _ ?_; try clear hK9 K9
  refine wp_block ?_
  refine loop_any (T := [(4, _), (5, _), (0, _), (1, _)]) (fun (y : Nat × Bool × Bool × Str) => ([(6, .bool y.2.1), (7, .bool y.2.2.1), (8, S y.2.2.2), (9, .int .i64 (y.1 : Int))] : List (Nat × Value))) (fun _ => _) (fun (y : Nat × Bool × Bool × Str) m => (fun (y : Nat) (ra : Bool) (fa : Bool) (s : Str) => (y ≤ l2.length) ∧ (ra = (l2.take y).all (rightV 1000)) ∧ (fa = (l2.take y).all (fun u => rightV 1000 u && plainV u)) ∧ (ra = true → s = nm ++ pre (l2.take y)) ∧ (s.length ≤ nm.length + 26 * bulkL (l2.take y)) ∧ (∀ u ∈ l2.take y, rightV 1000 u = true → deepV u < 999)) y.1 y.2.1 y.2.2.1 y.2.2.2) (fun y => l2.length - y.1) ((0, true, true, nm)) ⟨hst8, MLe.refl _, hfr8.sub (.cons rfl <| .cons rfl <| .cons rfl <| .cons rfl <| .cons rfl <| .cons rfl <| .cons rfl <| .cons rfl <| .nil), ⟨Nat.zero_le _, rfl, rfl, fun _ => by simp [pre], by simp, fun u hu => by simp at hu⟩⟩ fun y a9 w9 m9 hh9 => ?_
  have hst9 := hh9.st; have hle9 := hh9.le; have hfr9 := hh9.fr; have hrel := hh9.rel; clear hh9
  replace h_l := h_l.mono hle9
  replace hcut := hcut.mono hle9
  clear hst8 hfr8
  replace hM := hM.trans hle9
  obtain ⟨y, ra, fa, s⟩ := y
  dsimp only at hrel hfr9 hst9
  obtain ⟨hyn, hra, hfa, hst_, hsl, hdp⟩ := hrel
  have hbt := bulkL_take l2 y
  have hlh9 := hle9
  refine seq_any fun K11 hK11 => ?_
  refine seq_any fun K12 hK12 => ?_
  refine region_plain (fun h => by cases h) hst9 hfr9 (by kernel_rfl) (by kernel_rfl) (.cons rfl (ob_move rfl) <|
      .cons rfl (ob_move rfl) <|
      .cons rfl (ob_len rfl Tryd.underlying22) <|
      .cons rfl (ob_lss rfl rfl) <|
      .nil) ?_
  intro a10 w10 m10 hst10 hle10 hk10
  have hfr10 := hk10.fr (T' := [(6, _), (7, _), (8, _), (9, _), (4, _), (5, _), (0, _), (1, _), (31, _)]) (.old rfl rfl <| .old rfl rfl <| .old rfl rfl <| .old rfl rfl <| .old rfl rfl <| .old rfl rfl <| .old rfl rfl <| .old rfl rfl <| .new rfl <| .nil)
  replace h_l := h_l.mono hle10
  replace hcut := hcut.mono hle10
  have hlh10 := hlh9.trans hle10
  replace hM := hM.trans hle10
  clear hst9 hfr9 hk10
  refine hK12 _ _ ?_; try clear hK12 K12
  refine cond_any hfr10 rfl rfl (fun hb31 => ?_) (fun hb31 => ?_)
  · try simp only [Bool.not_eq_true', Bool.not_eq_false', decide_eq_true_eq, decide_eq_false_iff_not, Bool.and_eq_true, Bool.or_eq_true, Bool.and_eq_false_iff, Bool.or_eq_false_iff, Bool.not_not, u8_eq] at hb31
    refine wp_skip ?_
    refine hK11 _ _ ?_; try clear hK11 K11
    refine seq_any fun K13 hK13 => ?_
    refine wp_block ?_
    refine seq_any fun K14 hK14 => ?_
    obtain ⟨p15, vs15, x15, ho15, hd15, hm_x15, ht15, hcv15, hl15, hv15⟩ := hcut.nth (k := y) (by omega)
    cases ho15
    obtain ⟨o15, c15, rfl, hkd15, hi15, hj15⟩ := hv15.open_
    have hbg15 := hkd15.big; have hcp15 := hkd15.cap
    refine region_plain (fun h => by cases h) hst10 hfr10 (by kernel_rfl) (by kernel_rfl) (.cons rfl (ob_move rfl) <|
        .cons rfl (ob_move rfl) <|
        .cons rfl (ob_indexAddr (k := y) rfl rfl Tryd.underlying22 Tryd.sizeOf24 rfl (by omega)) <|
        .cons rfl (ob_loadS' rfl hcv15 Tryd.isAgg24 Tryd.sizeOf24 rfl rfl) <|
        .cons rfl (ob_callE rfl (.cons rfl <| .nil) Tryd.call12 (fun w m hK => by have hle_ := KC.le hK; have hA := KC.agree hK; have hM := hM.trans hle_; have hT := tab_keep hT hK.st.ext; have h_l := h_l.mono hle_; have hcut := hcut.mono hle_; have hcv15 := hcv15.mono hle_; have hv15 := hv15.mono hle_; have hkd15 := hkd15.mono hle_; exact text0_c hA (by assumption) hT (by have := bulkL_mem hm_x15; omega))) <|
        .cons rfl (ob_move rfl) <|
        .cons rfl (ob_extract rfl rfl) <|
        .cons rfl (ob_extract rfl rfl) <|
        .cons rfl (ob_assign rfl) <|
        .cons rfl (ob_assign rfl) <|
        .nil) ?_
    intro a11 w11 m11 hst11 hle11 hk11
    have hfr11 := hk11.fr (T' := [(6, _), (7, _), (8, _), (9, _), (4, _), (5, _), (0, _), (1, _), (10, _), (11, _)]) (.old rfl rfl <| .old rfl rfl <| .old rfl rfl <| .old rfl rfl <| .old rfl rfl <| .old rfl rfl <| .old rfl rfl <| .old rfl rfl <| .new rfl <| .new rfl <| .nil)
    replace h_l := h_l.mono hle11
    replace hcut := hcut.mono hle11
    replace hcv15 := hcv15.mono hle11
    replace hv15 := hv15.mono hle11
    replace hkd15 := hkd15.mono hle11
    have hlh11 := hlh10.trans hle11
    replace hM := hM.trans hle11
    clear hst10 hfr10 hk11
    have hxl := VR.text_len x15 hv15
    have hxb := bulkL_mem hm_x15
    have hitl : (if rightV 1000 x15 = true then textV x15 else []).length ≤ (textV x15).length := (by split <;> simp)
    have hl0 : l2 ≠ [] := by intro e; rw [e] at hyn; simp_all
    refine hK14 _ _ ?_; try clear hK14 K14
    refine seq_any fun K16 hK16 => ?_
    refine region_plain (fun h => by cases h) hst11 hfr11 (by kernel_rfl) (by kernel_rfl) (.cons rfl (ob_move rfl) <|
        .cons rfl (ob_move rfl) <|
        .cons rfl (ob_move rfl) <|
        .cons rfl (ob_move rfl) <|
        .cons rfl (ob_indexAddr (k := y) rfl rfl Tryd.underlying22 Tryd.sizeOf24 rfl (by omega)) <|
        .cons rfl (ob_loadS' rfl hcv15 Tryd.isAgg24 Tryd.sizeOf24 rfl rfl) <|
        .cons rfl (ob_callE rfl (.cons rfl <| .nil) Tryd.call14 (fun w m hK => by have hle_ := KC.le hK; have hA := KC.agree hK; have hM := hM.trans hle_; have hT := tab_keep hT hK.st.ext; have h_l := h_l.mono hle_; have hcut := hcut.mono hle_; have hcv15 := hcv15.mono hle_; have hv15 := hv15.mono hle_; have hkd15 := hkd15.mono hle_; exact right0_c hA (by first | assumption | omega | simp_all))) <|
        .cons rfl (ob_and rfl rfl rfl) <|
        .cons rfl (ob_assign rfl) <|
        .nil) ?_
    intro a12 w12 m12 hst12 hle12 hk12
    have hfr12 := hk12.fr (T' := [(7, _), (8, _), (9, _), (4, _), (5, _), (0, _), (1, _), (10, _), (11, _), (6, _)]) (.old rfl rfl <| .old rfl rfl <| .old rfl rfl <| .old rfl rfl <| .old rfl rfl <| .old rfl rfl <| .old rfl rfl <| .old rfl rfl <| .old rfl rfl <| .new rfl <| .nil)
    replace h_l := h_l.mono hle12
    replace hcut := hcut.mono hle12
    replace hcv15 := hcv15.mono hle12
    replace hv15 := hv15.mono hle12
    replace hkd15 := hkd15.mono hle12
    have hlh12 := hlh11.trans hle12
    replace hM := hM.trans hle12
    clear hst11 hfr11 hk12
    refine hK16 _ _ ?_; try clear hK16 K16
    refine seq_any fun K17 hK17 => ?_
    refine region_plain (fun h => by cases h) hst12 hfr12 (by kernel_rfl) (by kernel_rfl) (.cons rfl (ob_move rfl) <|
        .cons rfl (ob_move rfl) <|
        .cons rfl (ob_move rfl) <|
        .cons rfl (ob_move rfl) <|
        .cons rfl (ob_indexAddr (k := y) rfl rfl Tryd.underlying22 Tryd.sizeOf24 rfl (by omega)) <|
        .cons rfl (ob_loadS' rfl hcv15 Tryd.isAgg24 Tryd.sizeOf24 rfl rfl) <|
        .cons rfl (ob_callE rfl (.cons rfl <| .nil) Tryd.call16 (fun w m hK => by have hle_ := KC.le hK; have hA := KC.agree hK; have hM := hM.trans hle_; have hT := tab_keep hT hK.st.ext; have h_l := h_l.mono hle_; have hcut := hcut.mono hle_; have hcv15 := hcv15.mono hle_; have hv15 := hv15.mono hle_; have hkd15 := hkd15.mono hle_; exact first_c hA (by first | assumption | omega | simp_all))) <|
        .cons rfl (ob_and rfl rfl rfl) <|
        .cons rfl (ob_assign rfl) <|
        .nil) ?_
    intro a13 w13 m13 hst13 hle13 hk13
    have hfr13 := hk13.fr (T' := [(8, _), (9, _), (4, _), (5, _), (0, _), (1, _), (10, _), (11, _), (6, _), (7, _)]) (.old rfl rfl <| .old rfl rfl <| .old rfl rfl <| .old rfl rfl <| .old rfl rfl <| .old rfl rfl <| .old rfl rfl <| .old rfl rfl <| .old rfl rfl <| .new rfl <| .nil)
    replace h_l := h_l.mono hle13
    replace hcut := hcut.mono hle13
    replace hcv15 := hcv15.mono hle13
    replace hv15 := hv15.mono hle13
    replace hkd15 := hkd15.mono hle13
    have hlh13 := hlh12.trans hle13
    replace hM := hM.trans hle13
    clear hst12 hfr12 hk13
    refine hK17 _ _ ?_; try clear hK17 K17
    refine seq_any fun K18 hK18 => ?_
    refine seq_any fun K19 hK19 => ?_
    refine region_plain (fun h => by cases h) hst13 hfr13 (by kernel_rfl) (by kernel_rfl) (.cons rfl (ob_move rfl) <|
        .cons rfl (ob_eql rfl rfl) <|
        .cons rfl (ob_move rfl) <|
        .cons rfl (ob_move rfl) <|
        .cons rfl (ob_move rfl) <|
        .cons rfl (ob_indexAddr (k := y) rfl rfl Tryd.underlying22 Tryd.sizeOf24 rfl (by omega)) <|
        .cons rfl (ob_loadS' rfl hcv15 Tryd.isAgg24 Tryd.sizeOf24 rfl rfl) <|
        .cons rfl (ob_callE rfl (.cons rfl <| .nil) Tryd.call25 (fun w m hK => by have hle_ := KC.le hK; have hA := KC.agree hK; have hM := hM.trans hle_; have hT := tab_keep hT hK.st.ext; have h_l := h_l.mono hle_; have hcut := hcut.mono hle_; have hcv15 := hcv15.mono hle_; have hv15 := hv15.mono hle_; have hkd15 := hkd15.mono hle_; exact deep_c _ hA (by assumption) (by omega))) <|
        .cons rfl (ob_geq rfl rfl) <|
        .cons rfl (ob_and rfl rfl rfl) <|
        .nil) ?_
    intro a14 w14 m14 hst14 hle14 hk14
    have hfr14 := hk14.fr (T' := [(8, _), (9, _), (4, _), (5, _), (0, _), (1, _), (10, _), (11, _), (6, _), (7, _), (67, _)]) (.old rfl rfl <| .old rfl rfl <| .old rfl rfl <| .old rfl rfl <| .old rfl rfl <| .old rfl rfl <| .old rfl rfl <| .old rfl rfl <| .old rfl rfl <| .old rfl rfl <| .new rfl <| .nil)
    replace h_l := h_l.mono hle14
    replace hcut := hcut.mono hle14
    replace hcv15 := hcv15.mono hle14
    replace hv15 := hv15.mono hle14
    replace hkd15 := hkd15.mono hle14
    have hlh14 := hlh13.trans hle14
    replace hM := hM.trans hle14
    clear hst13 hfr13 hk14
    refine hK19 _ _ ?_; try clear hK19 K19
    refine cond_any hfr14 rfl rfl (fun hb67 => ?_) (fun hb67 => ?_)
    · try simp only [Bool.not_eq_true', Bool.not_eq_false', decide_eq_true_eq, decide_eq_false_iff_not, Bool.and_eq_true, Bool.or_eq_true, Bool.and_eq_false_iff, Bool.or_eq_false_iff, Bool.not_not, u8_eq] at hb67
      refine seq_any fun K20 hK20 => ?_
      refine region_plain (fun h => by cases h) hst14 hfr14 (by kernel_rfl) (by kernel_rfl) (.cons rfl (ob_move rfl) <|
          .cons rfl (ob_assign rfl) <|
          .nil) ?_
      intro a15 w15 m15 hst15 hle15 hk15
      have hfr15 := hk15.fr (T' := [(8, _), (9, _), (5, _), (0, _), (1, _), (10, _), (11, _), (6, _), (7, _), (4, _)]) (.old rfl rfl <| .old rfl rfl <| .old rfl rfl <| .old rfl rfl <| .old rfl rfl <| .old rfl rfl <| .old rfl rfl <| .old rfl rfl <| .old rfl rfl <| .new rfl <| .nil)
      replace h_l := h_l.mono hle15
      replace hcut := hcut.mono hle15
      replace hcv15 := hcv15.mono hle15
      replace hv15 := hv15.mono hle15
      replace hkd15 := hkd15.mono hle15
      have hlh15 := hlh14.trans hle15
      replace hM := hM.trans hle15
      clear hst14 hfr14 hk15
      refine hK20 _ _ ?_; try clear hK20 K20
      refine wp_ret ?_
      repeat (with_reducible first | refine then_ret ?_ | refine block_ret ?_)
      exact fn_ret hst15 hfr15 rfl (.tmp rfl <| .nil) (rfl)
    · try simp only [Bool.not_eq_true', Bool.not_eq_false', decide_eq_true_eq, decide_eq_false_iff_not, Bool.and_eq_true, Bool.or_eq_true, Bool.and_eq_false_iff, Bool.or_eq_false_iff, Bool.not_not, u8_eq] at hb67
      refine wp_skip ?_
      refine hK18 _ _ ?_; try clear hK18 K18
      refine seq_any fun K22 hK22 => ?_
      refine region_plain (fun h => by cases h) hst14 hfr14 (by kernel_rfl) (by kernel_rfl) (.cons rfl (ob_move rfl) <|
          .cons rfl (ob_eql rfl rfl) <|
          .nil) ?_
      intro a15 w15 m15 hst15 hle15 hk15
      have hfr15 := hk15.fr (T' := [(8, _), (9, _), (4, _), (5, _), (0, _), (1, _), (10, _), (11, _), (6, _), (7, _), (70, _)]) (.old rfl rfl <| .old rfl rfl <| .old rfl rfl <| .old rfl rfl <| .old rfl rfl <| .old rfl rfl <| .old rfl rfl <| .old rfl rfl <| .old rfl rfl <| .old rfl rfl <| .new rfl <| .nil)
      replace h_l := h_l.mono hle15
      replace hcut := hcut.mono hle15
      replace hcv15 := hcv15.mono hle15
      replace hv15 := hv15.mono hle15
      replace hkd15 := hkd15.mono hle15
      have hlh15 := hlh14.trans hle15
      replace hM := hM.trans hle15
      clear hst14 hfr14 hk15
      refine hK22 _ _ ?_; try clear hK22 K22
      refine cond_any hfr15 rfl rfl (fun hb70 => ?_) (fun hb70 => ?_)
      · try simp only [Bool.not_eq_true', Bool.not_eq_false', decide_eq_true_eq, decide_eq_false_iff_not, Bool.and_eq_true, Bool.or_eq_true, Bool.and_eq_false_iff, Bool.or_eq_false_iff, Bool.not_not, u8_eq] at hb70
        refine region_plain (fun h => by cases h) hst15 hfr15 (by kernel_rfl) (by kernel_rfl) (.cons rfl (ob_move rfl) <|
            .cons rfl (ob_sadd rfl rfl (by first | omega | (simp only [List.length_append, List.length_cons, List.length_nil, List.length_map]; omega))) <|
            .cons rfl (ob_move rfl) <|
            .cons rfl (ob_sadd rfl rfl (by first | omega | (simp only [List.length_append, List.length_cons, List.length_nil, List.length_map]; omega))) <|
            .cons rfl (ob_assign rfl) <|
            .nil) ?_
        intro a16 w16 m16 hst16 hle16 hk16
        have hfr16 := hk16.fr (T' := [(9, _), (4, _), (5, _), (0, _), (1, _), (10, _), (11, _), (6, _), (7, _), (8, _)]) (.old rfl rfl <| .old rfl rfl <| .old rfl rfl <| .old rfl rfl <| .old rfl rfl <| .old rfl rfl <| .old rfl rfl <| .old rfl rfl <| .old rfl rfl <| .new rfl <| .nil)
        replace h_l := h_l.mono hle16
        replace hcut := hcut.mono hle16
        replace hcv15 := hcv15.mono hle16
        replace hv15 := hv15.mono hle16
        replace hkd15 := hkd15.mono hle16
        have hlh16 := hlh15.trans hle16
        replace hM := hM.trans hle16
        clear hst15 hfr15 hk16
        refine hK13 _ _ ?_; try clear hK13 K13
        refine region_plain (fun h => by cases h) hst16 hfr16 (by kernel_rfl) (by kernel_rfl) (.cons rfl (ob_move rfl) <|
            .cons rfl (ob_add rfl rfl ⟨by omega, by omega⟩) <|
            .cons rfl (ob_assign rfl) <|
            .nil) ?_
        intro a17 w17 m17 hst17 hle17 hk17
        have hfr17 := hk17.fr (T' := [(4, _), (5, _), (0, _), (1, _), (10, _), (11, _), (6, _), (7, _), (8, _), (9, _)]) (.old rfl rfl <| .old rfl rfl <| .old rfl rfl <| .old rfl rfl <| .old rfl rfl <| .old rfl rfl <| .old rfl rfl <| .old rfl rfl <| .old rfl rfl <| .new rfl <| .nil)
        replace h_l := h_l.mono hle17
        replace hcut := hcut.mono hle17
        replace hcv15 := hcv15.mono hle17
        replace hv15 := hv15.mono hle17
        replace hkd15 := hkd15.mono hle17
        have hlh17 := hlh16.trans hle17
        replace hM := hM.trans hle17
        clear hst16 hfr16 hk17
        exact ⟨(y + 1, (ra && rightV 1000 x15), (fa && (rightV 1000 x15 && plainV x15)), _), m17, by show l2.length - (y + 1) < l2.length - y; omega, ⟨hst17, hlh17, hfr17.sub (.cons rfl <| .cons rfl <| .cons rfl <| .cons rfl <| .cons rfl <| .cons rfl <| .cons rfl <| .cons rfl <| .nil), ⟨by show y + 1 ≤ l2.length; omega, by rw [ht15, List.all_append, hra]; simp, by rw [ht15, List.all_append, hfa]; simp, by rw [ht15]; intro q; have hps := pre_step (x := x15) hst_ q; rw [← hps]; first | (rw [if_pos (c := l2.take y = []) (by rw [show y = 0 by omega]; rfl)]; try rfl; done) | (rw [if_neg (c := l2.take y = []) (by rw [List.take_eq_nil_iff]; rintro (h | h); exact absurd h (by omega); exact hl0 h)]; try rfl; done), by rw [ht15, bulkL_snoc]; have : (if rightV 1000 x15 = true then textV x15 else []).length ≤ (textV x15).length := (by split <;> simp); simp only [List.length_append, List.length_cons, List.length_nil]; omega, by rw [ht15]; intro u hu hr; rcases List.mem_append.1 hu with hu | hu; exact hdp u hu hr; (rw [List.mem_singleton] at hu; subst hu; simp [hr] at hb67; omega)⟩⟩⟩
      · try simp only [Bool.not_eq_true', Bool.not_eq_false', decide_eq_true_eq, decide_eq_false_iff_not, Bool.and_eq_true, Bool.or_eq_true, Bool.and_eq_false_iff, Bool.or_eq_false_iff, Bool.not_not, u8_eq] at hb70
        refine region_plain (fun h => by cases h) hst15 hfr15 (by kernel_rfl) (by kernel_rfl) (.cons rfl (ob_move rfl) <|
            .cons rfl (ob_sadd rfl rfl (by first | omega | (simp only [List.length_append, List.length_cons, List.length_nil, List.length_map]; omega))) <|
            .cons rfl (ob_move rfl) <|
            .cons rfl (ob_sadd rfl rfl (by first | omega | (simp only [List.length_append, List.length_cons, List.length_nil, List.length_map]; omega))) <|
            .cons rfl (ob_assign rfl) <|
            .nil) ?_
        intro a16 w16 m16 hst16 hle16 hk16
        have hfr16 := hk16.fr (T' := [(9, _), (4, _), (5, _), (0, _), (1, _), (10, _), (11, _), (6, _), (7, _), (8, _)]) (.old rfl rfl <| .old rfl rfl <| .old rfl rfl <| .old rfl rfl <| .old rfl rfl <| .old rfl rfl <| .old rfl rfl <| .old rfl rfl <| .old rfl rfl <| .new rfl <| .nil)
        replace h_l := h_l.mono hle16
        replace hcut := hcut.mono hle16
        replace hcv15 := hcv15.mono hle16
        replace hv15 := hv15.mono hle16
        replace hkd15 := hkd15.mono hle16
        have hlh16 := hlh15.trans hle16
        replace hM := hM.trans hle16
        clear hst15 hfr15 hk16
        refine hK13 _ _ ?_; try clear hK13 K13
        refine region_plain (fun h => by cases h) hst16 hfr16 (by kernel_rfl) (by kernel_rfl) (.cons rfl (ob_move rfl) <|
            .cons rfl (ob_add rfl rfl ⟨by omega, by omega⟩) <|
            .cons rfl (ob_assign rfl) <|
            .nil) ?_
        intro a17 w17 m17 hst17 hle17 hk17
        have hfr17 := hk17.fr (T' := [(4, _), (5, _), (0, _), (1, _), (10, _), (11, _), (6, _), (7, _), (8, _), (9, _)]) (.old rfl rfl <| .old rfl rfl <| .old rfl rfl <| .old rfl rfl <| .old rfl rfl <| .old rfl rfl <| .old rfl rfl <| .old rfl rfl <| .old rfl rfl <| .new rfl <| .nil)
        replace h_l := h_l.mono hle17
        replace hcut := hcut.mono hle17
        replace hcv15 := hcv15.mono hle17
        replace hv15 := hv15.mono hle17
        replace hkd15 := hkd15.mono hle17
        have hlh17 := hlh16.trans hle17
        replace hM := hM.trans hle17
        clear hst16 hfr16 hk17
        exact ⟨(y + 1, (ra && rightV 1000 x15), (fa && (rightV 1000 x15 && plainV x15)), _), m17, by show l2.length - (y + 1) < l2.length - y; omega, ⟨hst17, hlh17, hfr17.sub (.cons rfl <| .cons rfl <| .cons rfl <| .cons rfl <| .cons rfl <| .cons rfl <| .cons rfl <| .cons rfl <| .nil), ⟨by show y + 1 ≤ l2.length; omega, by rw [ht15, List.all_append, hra]; simp, by rw [ht15, List.all_append, hfa]; simp, by rw [ht15]; intro q; have hps := pre_step (x := x15) hst_ q; rw [← hps]; first | (rw [if_pos (c := l2.take y = []) (by rw [show y = 0 by omega]; rfl)]; try rfl; done) | (rw [if_neg (c := l2.take y = []) (by rw [List.take_eq_nil_iff]; rintro (h | h); exact absurd h (by omega); exact hl0 h)]; try rfl; done), by rw [ht15, bulkL_snoc]; have : (if rightV 1000 x15 = true then textV x15 else []).length ≤ (textV x15).length := (by split <;> simp); simp only [List.length_append, List.length_cons, List.length_nil]; omega, by rw [ht15]; intro u hu hr; rcases List.mem_append.1 hu with hu | hu; exact hdp u hu hr; (rw [List.mem_singleton] at hu; subst hu; simp [hr] at hb67; omega)⟩⟩⟩
  · try simp only [Bool.not_eq_true', Bool.not_eq_false', decide_eq_true_eq, decide_eq_false_iff_not, Bool.and_eq_true, Bool.or_eq_true, Bool.and_eq_false_iff, Bool.or_eq_false_iff, Bool.not_not, u8_eq] at hb31
    have hge : y = l2.length := by omega
    rw [List.take_of_length_le (by omega)] at hra hfa hst_ hsl hdp
    refine wp_exit ?_
    refine hK8 _ _ ?_; try clear hK8 K8
    refine seq_any fun K23 hK23 => ?_
    refine seq_any fun K24 hK24 => ?_
    refine region_plain (fun h => by cases h) hst10 hfr10 (by kernel_rfl) (by kernel_rfl) (.cons rfl (ob_move rfl) <|
        .cons rfl (ob_len rfl Tryd.underlying22) <|
        .cons rfl (ob_gtr rfl rfl) <|
        .nil) ?_
    intro a11 w11 m11 hst11 hle11 hk11
    have hfr11 := hk11.fr (T' := [(6, _), (7, _), (8, _), (9, _), (4, _), (5, _), (0, _), (1, _), (81, _)]) (.old rfl rfl <| .old rfl rfl <| .old rfl rfl <| .old rfl rfl <| .old rfl rfl <| .old rfl rfl <| .old rfl rfl <| .old rfl rfl <| .new rfl <| .nil)
    replace h_l := h_l.mono hle11
    replace hcut := hcut.mono hle11
    have hlh11 := hlh10.trans hle11
    replace hM := hM.trans hle11
    clear hst10 hfr10 hk11
    refine hK24 _ _ ?_; try clear hK24 K24
    refine cond_any hfr11 rfl rfl (fun hb81 => ?_) (fun hb81 => ?_)
    · try simp only [Bool.not_eq_true', Bool.not_eq_false', decide_eq_true_eq, decide_eq_false_iff_not, Bool.and_eq_true, Bool.or_eq_true, Bool.and_eq_false_iff, Bool.or_eq_false_iff, Bool.not_not, u8_eq] at hb81
      refine region_plain (fun h => by cases h) hst11 hfr11 (by kernel_rfl) (by kernel_rfl) (.cons rfl (ob_move rfl) <|
          .cons rfl (ob_sadd rfl rfl (by simp only [List.length_cons, List.length_nil]; omega)) <|
          .cons rfl (ob_assign rfl) <|
          .nil) ?_
      intro a12 w12 m12 hst12 hle12 hk12
      have hfr12 := hk12.fr (T' := [(6, _), (7, _), (9, _), (4, _), (5, _), (0, _), (1, _), (8, _)]) (.old rfl rfl <| .old rfl rfl <| .old rfl rfl <| .old rfl rfl <| .old rfl rfl <| .old rfl rfl <| .old rfl rfl <| .new rfl <| .nil)
      replace h_l := h_l.mono hle12
      replace hcut := hcut.mono hle12
      have hlh12 := hlh11.trans hle12
      replace hM := hM.trans hle12
      clear hst11 hfr11 hk12
      refine hK23 _ _ ?_; try clear hK23 K23
      refine seq_any fun K25 hK25 => ?_
      replace hst12 := hst12.more (r := .free) trivial List.nodup_nil (by simp [Res.blocks])
      refine region_any (tch := [(3, 0, (fun v => .blk v _)), (4, 0, (fun v => .blk v _))]) (fun h => by cases h) hst12 hfr12 (by kernel_rfl) (by kernel_rfl) (by kernel_rfl) (.cons rfl (ob_move rfl) <|
          .cons rfl (ob_move rfl) <|
          .cons rfl (ob_buildS (.cons rfl <| .cons rfl <| .cons rfl <| .nil) Tryd.underlying24 Tryd.zeroValue24 (.cons Tryd.sizeOf3 <| .cons Tryd.sizeOf3 <| .cons Tryd.sizeOf9 <| .cons Tryd.sizeOf22 <| .nil) rfl) <|
          .consT rfl rfl (fun _ => rfl) rfl (ob_allocL Tryd.zeroValue24 rfl) <|
          .consT rfl rfl (fun _ => rfl) rfl (ob_imgT 12 rfl rfl rfl fun y12 => ob_storeF rfl rfl rfl rfl Tryd.sizeOf24 rfl rfl rfl) <|
          .nil) ?_
      intro a13 w13 m13 hst13 hle13 hk13
      have hfr13 := hk13.fr (T' := [(6, _), (7, _), (9, _), (4, _), (5, _), (0, _), (1, _), (8, _)]) (.old rfl rfl <| .old rfl rfl <| .old rfl rfl <| .old rfl rfl <| .old rfl rfl <| .old rfl rfl <| .old rfl rfl <| .old rfl rfl <| .nil)
      obtain ⟨g26, e26, _⟩ := hk13.ex 12 rfl
      replace hfr13 := hfr13.cons e26
      replace hst13 := hst13.fin (L' := [_]) (.cons e26 <| .cons e26 <| .nil)
      replace h_l := h_l.mono hle13
      replace hcut := hcut.mono hle13
      have hlh13 := hlh12.trans hle13
      replace hM := hM.trans hle13
      clear hst12 hfr12 hk13
      have hcv : VR m13 ⟨4, 0, nm, l2⟩ _ := VR.build hcut (by unfold InI64; omega) (by unfold InI64; omega)
      have hR := con_right hn0 hdp
      have hF := con_first hn0 hdp
      have hX := con_text (nm := nm) (l := l2)
      have hcb : bulkV ⟨4, 0, nm, l2⟩ ≤ 1073741824 := by simp only [bulkV]; omega
      refine hK25 _ _ ?_; try clear hK25 K25
      refine seq_any fun K27 hK27 => ?_
      refine region_plain (fun h => by cases h) hst13 hfr13 (by kernel_rfl) (by kernel_rfl) (.cons rfl (ob_loadLS' (j := 0) rfl rfl Tryd.isAgg24 Tryd.sizeOf24 rfl rfl) <|
          .cons rfl (ob_callE rfl (.cons rfl <| .nil) Tryd.call12 (fun w m hK => by have hle_ := KC.le hK; have hA := KC.agree hK; have hM := hM.trans hle_; have hT := tab_keep hT hK.st.ext; have hcv := hcv.mono hle_; exact text0_c (t := ⟨4, 0, nm, l2⟩) hA hcv hT hcb)) <|
          .cons rfl (ob_move rfl) <|
          .cons rfl (ob_extract rfl rfl) <|
          .cons rfl (ob_extract rfl rfl) <|
          .cons rfl (ob_assign rfl) <|
          .cons rfl (ob_assign rfl) <|
          .nil) ?_
      intro a14 w14 m14 hst14 hle14 hk14
      have hfr14 := hk14.fr (T' := [(6, _), (7, _), (9, _), (4, _), (5, _), (0, _), (1, _), (8, _), (12, _), (13, _), (14, _)]) (.old rfl rfl <| .old rfl rfl <| .old rfl rfl <| .old rfl rfl <| .old rfl rfl <| .old rfl rfl <| .old rfl rfl <| .old rfl rfl <| .old rfl rfl <| .new rfl <| .new rfl <| .nil)
      replace h_l := h_l.mono hle14
      replace hcut := hcut.mono hle14
      replace hcv := hcv.mono hle14
      have hlh14 := hlh13.trans hle14
      replace hM := hM.trans hle14
      clear hst13 hfr13 hk14
      refine hK27 _ _ ?_; try clear hK27 K27
      refine seq_any fun K28 hK28 => ?_
      refine seq_any fun K29 hK29 => ?_
      refine region_plain (fun h => by cases h) hst14 hfr14 (by kernel_rfl) (by kernel_rfl) (.cons rfl (ob_loadLS' (j := 0) rfl rfl Tryd.isAgg24 Tryd.sizeOf24 rfl rfl) <|
          .cons rfl (ob_callE rfl (.cons rfl <| .nil) Tryd.call14 (fun w m hK => by have hle_ := KC.le hK; have hA := KC.agree hK; have hM := hM.trans hle_; have hT := tab_keep hT hK.st.ext; have hcv := hcv.mono hle_; exact right0_c (t := ⟨4, 0, nm, l2⟩) hA hcv)) <|
          .cons rfl (ob_move rfl) <|
          .cons rfl (ob_bneq rfl rfl Tryd.underlying4) <|
          .cons rfl (ob_move rfl) <|
          .cons rfl (ob_loadLS' (j := 0) rfl rfl Tryd.isAgg24 Tryd.sizeOf24 rfl rfl) <|
          .cons rfl (ob_callE rfl (.cons rfl <| .nil) Tryd.call16 (fun w m hK => by have hle_ := KC.le hK; have hA := KC.agree hK; have hM := hM.trans hle_; have hT := tab_keep hT hK.st.ext; have hcv := hcv.mono hle_; exact first_c (t := ⟨4, 0, nm, l2⟩) hA hcv)) <|
          .cons rfl (ob_move rfl) <|
          .cons rfl (ob_bneq rfl rfl Tryd.underlying4) <|
          .cons rfl (ob_or rfl rfl rfl) <|
          .cons rfl (ob_move rfl) <|
          .cons rfl (ob_move rfl) <|
          .cons rfl (ob_eql rfl rfl) <|
          .cons rfl (ob_move rfl) <|
          .cons rfl (ob_bneq rfl rfl Tryd.underlying4) <|
          .cons rfl (ob_or rfl rfl rfl) <|
          .nil) ?_
      intro a15 w15 m15 hst15 hle15 hk15
      have hfr15 := hk15.fr (T' := [(6, _), (7, _), (9, _), (4, _), (5, _), (0, _), (1, _), (8, _), (12, _), (13, _), (14, _), (107, _)]) (.old rfl rfl <| .old rfl rfl <| .old rfl rfl <| .old rfl rfl <| .old rfl rfl <| .old rfl rfl <| .old rfl rfl <| .old rfl rfl <| .old rfl rfl <| .old rfl rfl <| .old rfl rfl <| .new rfl <| .nil)
      replace h_l := h_l.mono hle15
      replace hcut := hcut.mono hle15
      replace hcv := hcv.mono hle15
      have hlh15 := hlh14.trans hle15
      replace hM := hM.trans hle15
      clear hst14 hfr14 hk15
      refine hK29 _ _ ?_; try clear hK29 K29
      refine cond_any hfr15 rfl rfl (fun hb107 => ?_) (fun hb107 => ?_)
      · exfalso; rw [hF, hR, ← hra, ← hfa] at hb107
        cases ra <;> cases fa <;> simp at hb107
      · try simp only [Bool.not_eq_true', Bool.not_eq_false', decide_eq_true_eq, decide_eq_false_iff_not, Bool.and_eq_true, Bool.or_eq_true, Bool.and_eq_false_iff, Bool.or_eq_false_iff, Bool.not_not, u8_eq] at hb107
        refine wp_skip ?_
        refine hK28 _ _ ?_; try clear hK28 K28
        refine seq_any fun K30 hK30 => ?_
        refine region_plain (fun h => by cases h) hst15 hfr15 (by kernel_rfl) (by kernel_rfl) (.cons rfl (ob_move rfl) <|
            .cons rfl (ob_move rfl) <|
            .cons rfl (ob_move rfl) <|
            .cons rfl (ob_not rfl) <|
            .cons rfl (ob_move rfl) <|
            .cons rfl (ob_move rfl) <|
            .cons rfl (ob_move rfl) <|
            .cons rfl (ob_seql rfl rfl) <|
            .cons rfl (ob_or rfl rfl rfl) <|
            .cons rfl (ob_and rfl rfl rfl) <|
            .cons rfl (ob_assign rfl) <|
            .nil) ?_
        intro a16 w16 m16 hst16 hle16 hk16
        have hfr16 := hk16.fr (T' := [(6, _), (7, _), (9, _), (5, _), (0, _), (1, _), (8, _), (12, _), (13, _), (14, _), (4, _)]) (.old rfl rfl <| .old rfl rfl <| .old rfl rfl <| .old rfl rfl <| .old rfl rfl <| .old rfl rfl <| .old rfl rfl <| .old rfl rfl <| .old rfl rfl <| .old rfl rfl <| .new rfl <| .nil)
        replace h_l := h_l.mono hle16
        replace hcut := hcut.mono hle16
        replace hcv := hcv.mono hle16
        have hlh16 := hlh15.trans hle16
        replace hM := hM.trans hle16
        clear hst15 hfr15 hk16
        refine hK30 _ _ ?_; try clear hK30 K30
        refine wp_ret ?_
        repeat (with_reducible first | refine then_ret ?_ | refine block_ret ?_)
        exact fn_ret hst16 hfr16 rfl (.tmp rfl <| .nil) (by refine congrArg Value.bool ?_; rw [hR, ← hra]; cases ra; (rfl); (rw [hst_ rfl, hX]; first | (rw [if_neg (c := l2 = []) (by intro e; rw [e] at hb81; simp at hb81)]; simp; done) | (rw [if_pos (c := l2 = []) (List.eq_nil_of_length_eq_zero (by omega))]; simp)))
    · try simp only [Bool.not_eq_true', Bool.not_eq_false', decide_eq_true_eq, decide_eq_false_iff_not, Bool.and_eq_true, Bool.or_eq_true, Bool.and_eq_false_iff, Bool.or_eq_false_iff, Bool.not_not, u8_eq] at hb81
      refine wp_skip ?_
      refine hK23 _ _ ?_; try clear hK23 K23
      refine seq_any fun K32 hK32 => ?_
      replace hst11 := hst11.more (r := .free) trivial List.nodup_nil (by simp [Res.blocks])
      refine region_any (tch := [(3, 0, (fun v => .blk v _)), (4, 0, (fun v => .blk v _))]) (fun h => by cases h) hst11 hfr11 (by kernel_rfl) (by kernel_rfl) (by kernel_rfl) (.cons rfl (ob_move rfl) <|
          .cons rfl (ob_move rfl) <|
          .cons rfl (ob_buildS (.cons rfl <| .cons rfl <| .cons rfl <| .nil) Tryd.underlying24 Tryd.zeroValue24 (.cons Tryd.sizeOf3 <| .cons Tryd.sizeOf3 <| .cons Tryd.sizeOf9 <| .cons Tryd.sizeOf22 <| .nil) rfl) <|
          .consT rfl rfl (fun _ => rfl) rfl (ob_allocL Tryd.zeroValue24 rfl) <|
          .consT rfl rfl (fun _ => rfl) rfl (ob_imgT 12 rfl rfl rfl fun y12 => ob_storeF rfl rfl rfl rfl Tryd.sizeOf24 rfl rfl rfl) <|
          .nil) ?_
      intro a12 w12 m12 hst12 hle12 hk12
      have hfr12 := hk12.fr (T' := [(6, _), (7, _), (8, _), (9, _), (4, _), (5, _), (0, _), (1, _)]) (.old rfl rfl <| .old rfl rfl <| .old rfl rfl <| .old rfl rfl <| .old rfl rfl <| .old rfl rfl <| .old rfl rfl <| .old rfl rfl <| .nil)
      obtain ⟨g33, e33, _⟩ := hk12.ex 12 rfl
      replace hfr12 := hfr12.cons e33
      replace hst12 := hst12.fin (L' := [_]) (.cons e33 <| .cons e33 <| .nil)
      replace h_l := h_l.mono hle12
      replace hcut := hcut.mono hle12
      have hlh12 := hlh11.trans hle12
      replace hM := hM.trans hle12
      clear hst11 hfr11 hk12
      have hcv : VR m12 ⟨4, 0, nm, l2⟩ _ := VR.build hcut (by unfold InI64; omega) (by unfold InI64; omega)
      have hR := con_right hn0 hdp
      have hF := con_first hn0 hdp
      have hX := con_text (nm := nm) (l := l2)
      have hcb : bulkV ⟨4, 0, nm, l2⟩ ≤ 1073741824 := by simp only [bulkV]; omega
      refine hK32 _ _ ?_; try clear hK32 K32
      refine seq_any fun K34 hK34 => ?_
      refine region_plain (fun h => by cases h) hst12 hfr12 (by kernel_rfl) (by kernel_rfl) (.cons rfl (ob_loadLS' (j := 0) rfl rfl Tryd.isAgg24 Tryd.sizeOf24 rfl rfl) <|
          .cons rfl (ob_callE rfl (.cons rfl <| .nil) Tryd.call12 (fun w m hK => by have hle_ := KC.le hK; have hA := KC.agree hK; have hM := hM.trans hle_; have hT := tab_keep hT hK.st.ext; have hcv := hcv.mono hle_; exact text0_c (t := ⟨4, 0, nm, l2⟩) hA hcv hT hcb)) <|
          .cons rfl (ob_move rfl) <|
          .cons rfl (ob_extract rfl rfl) <|
          .cons rfl (ob_extract rfl rfl) <|
          .cons rfl (ob_assign rfl) <|
          .cons rfl (ob_assign rfl) <|
          .nil) ?_
      intro a13 w13 m13 hst13 hle13 hk13
      have hfr13 := hk13.fr (T' := [(6, _), (7, _), (8, _), (9, _), (4, _), (5, _), (0, _), (1, _), (12, _), (13, _), (14, _)]) (.old rfl rfl <| .old rfl rfl <| .old rfl rfl <| .old rfl rfl <| .old rfl rfl <| .old rfl rfl <| .old rfl rfl <| .old rfl rfl <| .old rfl rfl <| .new rfl <| .new rfl <| .nil)
      replace h_l := h_l.mono hle13
      replace hcut := hcut.mono hle13
      replace hcv := hcv.mono hle13
      have hlh13 := hlh12.trans hle13
      replace hM := hM.trans hle13
      clear hst12 hfr12 hk13
      refine hK34 _ _ ?_; try clear hK34 K34
      refine seq_any fun K35 hK35 => ?_
      refine seq_any fun K36 hK36 => ?_
      refine region_plain (fun h => by cases h) hst13 hfr13 (by kernel_rfl) (by kernel_rfl) (.cons rfl (ob_loadLS' (j := 0) rfl rfl Tryd.isAgg24 Tryd.sizeOf24 rfl rfl) <|
          .cons rfl (ob_callE rfl (.cons rfl <| .nil) Tryd.call14 (fun w m hK => by have hle_ := KC.le hK; have hA := KC.agree hK; have hM := hM.trans hle_; have hT := tab_keep hT hK.st.ext; have hcv := hcv.mono hle_; exact right0_c (t := ⟨4, 0, nm, l2⟩) hA hcv)) <|
          .cons rfl (ob_move rfl) <|
          .cons rfl (ob_bneq rfl rfl Tryd.underlying4) <|
          .cons rfl (ob_move rfl) <|
          .cons rfl (ob_loadLS' (j := 0) rfl rfl Tryd.isAgg24 Tryd.sizeOf24 rfl rfl) <|
          .cons rfl (ob_callE rfl (.cons rfl <| .nil) Tryd.call16 (fun w m hK => by have hle_ := KC.le hK; have hA := KC.agree hK; have hM := hM.trans hle_; have hT := tab_keep hT hK.st.ext; have hcv := hcv.mono hle_; exact first_c (t := ⟨4, 0, nm, l2⟩) hA hcv)) <|
          .cons rfl (ob_move rfl) <|
          .cons rfl (ob_bneq rfl rfl Tryd.underlying4) <|
          .cons rfl (ob_or rfl rfl rfl) <|
          .cons rfl (ob_move rfl) <|
          .cons rfl (ob_move rfl) <|
          .cons rfl (ob_eql rfl rfl) <|
          .cons rfl (ob_move rfl) <|
          .cons rfl (ob_bneq rfl rfl Tryd.underlying4) <|
          .cons rfl (ob_or rfl rfl rfl) <|
          .nil) ?_
      intro a14 w14 m14 hst14 hle14 hk14
      have hfr14 := hk14.fr (T' := [(6, _), (7, _), (8, _), (9, _), (4, _), (5, _), (0, _), (1, _), (12, _), (13, _), (14, _), (107, _)]) (.old rfl rfl <| .old rfl rfl <| .old rfl rfl <| .old rfl rfl <| .old rfl rfl <| .old rfl rfl <| .old rfl rfl <| .old rfl rfl <| .old rfl rfl <| .old rfl rfl <| .old rfl rfl <| .new rfl <| .nil)
      replace h_l := h_l.mono hle14
      replace hcut := hcut.mono hle14
      replace hcv := hcv.mono hle14
      have hlh14 := hlh13.trans hle14
      replace hM := hM.trans hle14
      clear hst13 hfr13 hk14
      refine hK36 _ _ ?_; try clear hK36 K36
      refine cond_any hfr14 rfl rfl (fun hb107 => ?_) (fun hb107 => ?_)
      · exfalso; rw [hF, hR, ← hra, ← hfa] at hb107
        cases ra <;> cases fa <;> simp at hb107
      · try simp only [Bool.not_eq_true', Bool.not_eq_false', decide_eq_true_eq, decide_eq_false_iff_not, Bool.and_eq_true, Bool.or_eq_true, Bool.and_eq_false_iff, Bool.or_eq_false_iff, Bool.not_not, u8_eq] at hb107
        refine wp_skip ?_
        refine hK35 _ _ ?_; try clear hK35 K35
        refine seq_any fun K37 hK37 => ?_
        refine region_plain (fun h => by cases h) hst14 hfr14 (by kernel_rfl) (by kernel_rfl) (.cons rfl (ob_move rfl) <|
            .cons rfl (ob_move rfl) <|
            .cons rfl (ob_move rfl) <|
            .cons rfl (ob_not rfl) <|
            .cons rfl (ob_move rfl) <|
            .cons rfl (ob_move rfl) <|
            .cons rfl (ob_move rfl) <|
            .cons rfl (ob_seql rfl rfl) <|
            .cons rfl (ob_or rfl rfl rfl) <|
            .cons rfl (ob_and rfl rfl rfl) <|
            .cons rfl (ob_assign rfl) <|
            .nil) ?_
        intro a15 w15 m15 hst15 hle15 hk15
        have hfr15 := hk15.fr (T' := [(6, _), (7, _), (8, _), (9, _), (5, _), (0, _), (1, _), (12, _), (13, _), (14, _), (4, _)]) (.old rfl rfl <| .old rfl rfl <| .old rfl rfl <| .old rfl rfl <| .old rfl rfl <| .old rfl rfl <| .old rfl rfl <| .old rfl rfl <| .old rfl rfl <| .old rfl rfl <| .new rfl <| .nil)
        replace h_l := h_l.mono hle15
        replace hcut := hcut.mono hle15
        replace hcv := hcv.mono hle15
        have hlh15 := hlh14.trans hle15
        replace hM := hM.trans hle15
        clear hst14 hfr14 hk15
        refine hK37 _ _ ?_; try clear hK37 K37
        refine wp_ret ?_
        repeat (with_reducible first | refine then_ret ?_ | refine block_ret ?_)
        exact fn_ret hst15 hfr15 rfl (.tmp rfl <| .nil) (by refine congrArg Value.bool ?_; rw [hR, ← hra]; cases ra; (rfl); (rw [hst_ rfl, hX]; first | (rw [if_neg (c := l2 = []) (by intro e; rw [e] at hb81; simp at hb81)]; simp; done) | (rw [if_pos (c := l2 = []) (List.eq_nil_of_length_eq_zero (by omega))]; simp)))

end Go.Proofs.YtineijefefjpeaaDoor
