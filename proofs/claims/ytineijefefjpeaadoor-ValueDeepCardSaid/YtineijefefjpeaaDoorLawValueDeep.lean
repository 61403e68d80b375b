/-
  'brocadelaw11': the walk of the law. Conditions: those of each theorem.
-/
import Derived.Test.YtineijefefjpeaaDoorShown1
import Derived.Test.YtineijefefjpeaaDoorPlain4
namespace Go.Proofs.YtineijefefjpeaaDoor
set_option linter.all false
open Go.RowKit
open Go.Lib (itoa formatBool decDigits)
set_option maxHeartbeats 400000 in
theorem valueDeep_c {w : World} {m : Mem} {n : Int} {t : VT} {vs_t : List Value} (hA : Agree w m) (h_t : VR m t vs_t) (hT : Tab w) (hb_t : t.name.length ≤ 140737488351232) : FnV Tryd.prog 7 #[.int .i64 n, .agg vs_t.toArray] w m (fun _ _ v => v = .bool true) := by
  obtain ⟨o_t, c_t, rfl, hk_t, hi_t, hj_t⟩ := h_t.open_
  have hbg_t := hk_t.big; have hcp_t := hk_t.cap
  refine fn_enter (vs := [_, _]) Tryd.func7 rfl rfl rfl fun a0 hfr0 => ?_
  have hst0 := st_enter hA (loc_nil [] _ w m)
  have hM : MLe m m := MLe.refl m
  obtain ⟨N, hN, hN2⟩ : ∃ N : Nat, (band n 65535).tmod 1200 = (N : Int) ∧ N < 1200 := by have h : 0 ≤ band n 65535 ∧ band n 65535 ≤ 65535 := band_le n 65535 (by omega); refine ⟨((band n 65535).tmod 1200).toNat, ?_, ?_⟩; (have := Int.tmod_nonneg 1200 h.1; omega); (have := Int.tmod_lt_of_pos (band n 65535) (b := 1200) (by omega); omega)
  have hv0 : VR m ⟨t.kind, t.n, t.name, []⟩ [.int .i64 t.kind, .int .i64 t.n, S t.name, .slice none 0 0] := VR.leaf hi_t hj_t
  refine seq_any fun K1 hK1 => ?_
  replace hst0 := hst0.more (r := .free) trivial List.nodup_nil (by simp [Res.blocks])
  refine region_any (tch := [(0, 0, (fun v => .blk v _))]) (fun h => by cases h) hst0 hfr0 (by kernel_rfl) (by kernel_rfl) (by kernel_rfl) (.consT rfl rfl (fun _ => rfl) rfl (ob_boxL rfl rfl) <|
      .cons rfl (ob_assign rfl) <|
      .nil) ?_
  intro a1 w1 m1 hst1 hle1 hk1
  have hfr1 := hk1.fr (T' := [(0, _), (1, _), (4, _)]) (.old rfl rfl <| .old rfl rfl <| .new rfl <| .nil)
  obtain ⟨gv, e2, _⟩ := hk1.ex 3 rfl
  replace hfr1 := hfr1.cons e2
  replace hst1 := hst1.fin (L' := [_]) (.cons e2 <| .nil)
  replace h_t := h_t.mono hle1
  replace hk_t := hk_t.mono hle1
  replace hv0 := hv0.mono hle1
  replace hM := hM.trans hle1
  clear hst0 hfr0 hk1
  refine hK1 _ _ ?_; try clear hK1 K1
  refine seq_any fun K3 hK3 => ?_
  refine region_plain (fun h => by cases h) hst1 hfr1 (by kernel_rfl) (by kernel_rfl) (.cons rfl (ob_callE rfl (.nil) Tryd.call11 (fun w m hK => by have hle_ := KC.le hK; have hA := KC.agree hK; have hM := hM.trans hle_; have hT := tab_keep hT hK.st.ext; have h_t := h_t.mono hle_; have hk_t := hk_t.mono hle_; have hv0 := hv0.mono hle_; exact shown_c hA (by first | assumption | omega | simp_all))) <|
      .cons rfl (ob_assign rfl) <|
      .nil) ?_
  intro a2 w2 m2 hst2 hle2 hk2
  have hfr2 := hk2.fr (T' := [(0, _), (1, _), (4, _), (3, _), (5, _)]) (.old rfl rfl <| .old rfl rfl <| .old rfl rfl <| .old rfl rfl <| .new rfl <| .nil)
  replace h_t := h_t.mono hle2
  replace hk_t := hk_t.mono hle2
  replace hv0 := hv0.mono hle2
  replace hM := hM.trans hle2
  clear hst1 hfr1 hk2
  refine hK3 _ _ ?_; try clear hK3 K3
  refine seq_any fun K4 hK4 => ?_
  refine region_plain (fun h => by cases h) hst2 hfr2 (by kernel_rfl) (by kernel_rfl) (.cons rfl (ob_move rfl) <|
      .cons rfl (ob_band rfl rfl) <|
      .cons rfl (ob_rem rfl rfl (by omega)) <|
      .cons rfl (ob_assign rfl) <|
      .nil) ?_
  intro a3 w3 m3 hst3 hle3 hk3
  have hfr3 := hk3.fr (T' := [(1, _), (4, _), (3, _), (5, _), (0, _)]) (.old rfl rfl <| .old rfl rfl <| .old rfl rfl <| .old rfl rfl <| .new rfl <| .nil)
  replace h_t := h_t.mono hle3
  replace hk_t := hk_t.mono hle3
  replace hv0 := hv0.mono hle3
  replace hM := hM.trans hle3
  clear hst2 hfr2 hk3
  rw [hN] at hfr3
  refine hK4 _ _ ?_; try clear hK4 K4
  refine seq_any fun K5 hK5 => ?_
  refine region_any (tch := [(1, 0, (fun _ => .blk _ _))]) (fun h => by cases h) hst3 hfr3 (by kernel_rfl) (by kernel_rfl) (by kernel_rfl) (.cons rfl (ob_fieldAddr rfl Tryd.underlying24 rfl Tryd.sizeOf22 rfl) <|
      .consT rfl rfl (fun _ => rfl) rfl (ob_store rfl rfl rfl Tryd.sizeOf22 rfl rfl rfl) <|
      .nil) ?_
  intro a4 w4 m4 hst4 hle4 hk4
  have hfr4 := hk4.fr (T' := [(1, _), (4, _), (3, _), (5, _), (0, _)]) (.old rfl rfl <| .old rfl rfl <| .old rfl rfl <| .old rfl rfl <| .old rfl rfl <| .nil)
  replace hst4 := hst4.fin (L' := [_]) (.cons rfl <| .nil)
  replace h_t := h_t.mono hle4
  replace hk_t := hk_t.mono hle4
  replace hv0 := hv0.mono hle4
  replace hM := hM.trans hle4
  clear hst3 hfr3 hk4
  refine hK5 _ _ ?_; try clear hK5 K5
  refine seq_any fun K6 hK6 => ?_
  refine region_plain (fun h => by cases h) hst4 hfr4 (by kernel_rfl) (by kernel_rfl) (.cons rfl (ob_loadLS' (j := 0) rfl rfl Tryd.isAgg24 Tryd.sizeOf24 rfl rfl) <|
      .cons rfl (ob_callE rfl (.cons rfl <| .nil) Tryd.call14 (fun w m hK => by have hle_ := KC.le hK; have hA := KC.agree hK; have hM := hM.trans hle_; have hT := tab_keep hT hK.st.ext; have hv0 := hv0.mono hle_; exact right0_c (t := ⟨t.kind, t.n, t.name, []⟩) hA hv0)) <|
      .cons rfl (ob_assign rfl) <|
      .nil) ?_
  intro a5 w5 m5 hst5 hle5 hk5
  have hfr5 := hk5.fr (T' := [(1, _), (4, _), (3, _), (5, _), (0, _), (6, _)]) (.old rfl rfl <| .old rfl rfl <| .old rfl rfl <| .old rfl rfl <| .old rfl rfl <| .new rfl <| .nil)
  replace h_t := h_t.mono hle5
  replace hk_t := hk_t.mono hle5
  replace hv0 := hv0.mono hle5
  replace hM := hM.trans hle5
  clear hst4 hfr4 hk5
  refine hK6 _ _ ?_; try clear hK6 K6
  refine seq_any fun K7 hK7 => ?_
  refine region_plain (fun h => by cases h) hst5 hfr5 (by kernel_rfl) (by kernel_rfl) (.cons rfl (ob_loadLS' (j := 0) rfl rfl Tryd.isAgg24 Tryd.sizeOf24 rfl rfl) <|
      .cons rfl (ob_callE rfl (.cons rfl <| .nil) Tryd.call16 (fun w m hK => by have hle_ := KC.le hK; have hA := KC.agree hK; have hM := hM.trans hle_; have hT := tab_keep hT hK.st.ext; have hv0 := hv0.mono hle_; exact first_c (t := ⟨t.kind, t.n, t.name, []⟩) hA hv0)) <|
      .cons rfl (ob_assign rfl) <|
      .nil) ?_
  intro a6 w6 m6 hst6 hle6 hk6
  have hfr6 := hk6.fr (T' := [(1, _), (4, _), (3, _), (5, _), (0, _), (6, _), (7, _)]) (.old rfl rfl <| .old rfl rfl <| .old rfl rfl <| .old rfl rfl <| .old rfl rfl <| .old rfl rfl <| .new rfl <| .nil)
  replace h_t := h_t.mono hle6
  replace hk_t := hk_t.mono hle6
  replace hv0 := hv0.mono hle6
  replace hM := hM.trans hle6
  clear hst5 hfr5 hk6
  refine hK7 _ _ ?_; try clear hK7 K7
  refine seq_any fun K8 hK8 => ?_
  refine seq_any fun K9 hK9 => ?_
  refine region_plain (fun h => by cases h) hst6 hfr6 (by kernel_rfl) (by kernel_rfl) (.cons rfl (ob_assign rfl) <|
      .nil) ?_
  intro a7 w7 m7 hst7 hle7 hk7
  have hfr7 := hk7.fr (T' := [(1, _), (4, _), (3, _), (5, _), (0, _), (6, _), (7, _), (8, _)]) (.old rfl rfl <| .old rfl rfl <| .old rfl rfl <| .old rfl rfl <| .old rfl rfl <| .old rfl rfl <| .old rfl rfl <| .new rfl <| .nil)
  replace h_t := h_t.mono hle7
  replace hk_t := hk_t.mono hle7
  replace hv0 := hv0.mono hle7
  replace hM := hM.trans hle7
  clear hst6 hfr6 hk7
  refine hK9 _ _ ?_; try clear hK9 K9
  refine wp_block ?_
  refine loop_any (T := [(1, _), (4, _), (3, _), (5, _), (0, _), (6, _), (7, _)]) (fun (y : Nat × List Value) => ([(8, .int .i64 (y.1 : Int))] : List (Nat × Value))) (fun y => [.blk (.pointer (some ⟨gv, 0, none⟩)) (.cells y.2.toArray 24)]) (fun (y : Nat × List Value) m => (fun (y : Nat) (cs : List Value) => (y ≤ N) ∧ (VR m (tower y ⟨t.kind, t.n, t.name, []⟩) cs)) y.1 y.2) (fun y => N - y.1) ((0, [.int .i64 t.kind, .int .i64 t.n, S t.name, .slice none 0 0])) ⟨hst7, MLe.refl _, hfr7.sub (.cons rfl <| .cons rfl <| .cons rfl <| .cons rfl <| .cons rfl <| .cons rfl <| .cons rfl <| .cons rfl <| .nil), ⟨Nat.zero_le _, hv0⟩⟩ fun y a8 w8 m8 hh8 => ?_
  have hst8 := hh8.st; have hle8 := hh8.le; have hfr8 := hh8.fr; have hrel := hh8.rel; clear hh8
  replace h_t := h_t.mono hle8
  replace hk_t := hk_t.mono hle8
  replace hv0 := hv0.mono hle8
  clear hst7 hfr7
  replace hM := hM.trans hle8
  obtain ⟨y, cs⟩ := y
  dsimp only at hrel hfr8 hst8
  obtain ⟨hyn, hJ0⟩ := hrel
  obtain ⟨ov, cv, rfl, hkv, hiv, hjv⟩ := hJ0.open_
  have hlh8 := hle8
  refine seq_any fun K11 hK11 => ?_
  refine seq_any fun K12 hK12 => ?_
  refine region_plain (fun h => by cases h) hst8 hfr8 (by kernel_rfl) (by kernel_rfl) (.cons rfl (ob_move rfl) <|
      .cons rfl (ob_move rfl) <|
      .cons rfl (ob_lss rfl rfl) <|
      .nil) ?_
  intro a9 w9 m9 hst9 hle9 hk9
  have hfr9 := hk9.fr (T' := [(8, _), (1, _), (4, _), (3, _), (5, _), (0, _), (6, _), (7, _), (23, _)]) (.old rfl rfl <| .old rfl rfl <| .old rfl rfl <| .old rfl rfl <| .old rfl rfl <| .old rfl rfl <| .old rfl rfl <| .old rfl rfl <| .new rfl <| .nil)
  replace h_t := h_t.mono hle9
  replace hk_t := hk_t.mono hle9
  replace hv0 := hv0.mono hle9
  replace hJ0 := hJ0.mono hle9
  replace hkv := hkv.mono hle9
  have hlh9 := hlh8.trans hle9
  replace hM := hM.trans hle9
  clear hst8 hfr8 hk9
  refine hK12 _ _ ?_; try clear hK12 K12
  refine cond_any hfr9 rfl rfl (fun hb23 => ?_) (fun hb23 => ?_)
  · try simp only [Bool.not_eq_true', Bool.not_eq_false', decide_eq_true_eq, decide_eq_false_iff_not, Bool.and_eq_true, Bool.or_eq_true, Bool.and_eq_false_iff, Bool.or_eq_false_iff, Bool.not_not, u8_eq] at hb23
    refine wp_skip ?_
    refine hK11 _ _ ?_; try clear hK11 K11
    refine seq_any fun K13 hK13 => ?_
    refine wp_block ?_
    refine region_any (tch := [(3, 0, (fun _ => .blkx _ _ _))]) (fun h => by cases h) hst9 hfr9 (by kernel_rfl) (by kernel_rfl) (by kernel_rfl) (.cons rfl (ob_loadLS' (j := 0) rfl rfl Tryd.isAgg24 Tryd.sizeOf24 rfl rfl) <|
        .cons rfl (ob_buildSlice (.cons rfl <| .nil) Tryd.underlying22 Tryd.sizeOf24 Tryd.zeroValue24 rfl rfl rfl rfl) <|
        .cons rfl (ob_imgV 27 rfl rfl rfl fun y27 => ob_buildS (.cons rfl <| .cons rfl <| .cons rfl <| .nil) Tryd.underlying24 Tryd.zeroValue24 (.cons Tryd.sizeOf3 <| .cons Tryd.sizeOf3 <| .cons Tryd.sizeOf9 <| .cons Tryd.sizeOf22 <| .nil) rfl) <|
        .consT rfl rfl (fun _ => rfl) rfl (ob_imgTX 28 rfl rfl rfl fun y28 => ob_store' rfl rfl rfl Tryd.sizeOf24 rfl rfl rfl) <|
        .nil) ?_
    intro a10 w10 m10 hst10 hle10 hk10
    have hfr10 := hk10.fr (T' := [(8, _), (1, _), (4, _), (3, _), (5, _), (0, _), (6, _), (7, _)]) (.old rfl rfl <| .old rfl rfl <| .old rfl rfl <| .old rfl rfl <| .old rfl rfl <| .old rfl rfl <| .old rfl rfl <| .old rfl rfl <| .nil)
    replace hst10 := hst10.fin (L' := [_]) (.cons rfl <| .nil)
    obtain ⟨gk, hgk, hst10⟩ := hst10.unx (k := 0) rfl (fun _ => rfl)
    replace h_t := h_t.mono hle10
    replace hk_t := hk_t.mono hle10
    replace hv0 := hv0.mono hle10
    replace hJ0 := hJ0.mono hle10
    replace hkv := hkv.mono hle10
    have hlh10 := hlh9.trans hle10
    replace hM := hM.trans hle10
    clear hst9 hfr9 hk10
    have hnew : VR m10 (tower (y + 1) ⟨t.kind, t.n, t.name, []⟩) [.int .i64 4, .int .i64 0, S [67], .slice (some ⟨gk, 0, none⟩) 1 1] := VR.build (ks := [tower y ⟨t.kind, t.n, t.name, []⟩]) (Sl.one hgk rfl hJ0) (by unfold InI64; omega) (by unfold InI64; omega)
    refine hK13 _ _ ?_; try clear hK13 K13
    refine region_plain (fun h => by cases h) hst10 hfr10 (by kernel_rfl) (by kernel_rfl) (.cons rfl (ob_move rfl) <|
        .cons rfl (ob_add rfl rfl ⟨by omega, by omega⟩) <|
        .cons rfl (ob_assign rfl) <|
        .nil) ?_
    intro a11 w11 m11 hst11 hle11 hk11
    have hfr11 := hk11.fr (T' := [(1, _), (4, _), (3, _), (5, _), (0, _), (6, _), (7, _), (8, _)]) (.old rfl rfl <| .old rfl rfl <| .old rfl rfl <| .old rfl rfl <| .old rfl rfl <| .old rfl rfl <| .old rfl rfl <| .new rfl <| .nil)
    replace h_t := h_t.mono hle11
    replace hk_t := hk_t.mono hle11
    replace hv0 := hv0.mono hle11
    replace hJ0 := hJ0.mono hle11
    replace hkv := hkv.mono hle11
    replace hgk := hgk.mono hle11
    replace hnew := hnew.mono hle11
    have hlh11 := hlh10.trans hle11
    replace hM := hM.trans hle11
    clear hst10 hfr10 hk11
    exact ⟨(y + 1, [.int .i64 4, .int .i64 0, S [67], .slice (some ⟨gk, 0, none⟩) 1 1]), m11, by show N - (y + 1) < N - y; omega, ⟨hst11, hlh11, hfr11.sub (.cons rfl <| .cons rfl <| .cons rfl <| .cons rfl <| .cons rfl <| .cons rfl <| .cons rfl <| .cons rfl <| .nil), ⟨by show y + 1 ≤ N; omega, hnew⟩⟩⟩
  · try simp only [Bool.not_eq_true', Bool.not_eq_false', decide_eq_true_eq, decide_eq_false_iff_not, Bool.and_eq_true, Bool.or_eq_true, Bool.and_eq_false_iff, Bool.or_eq_false_iff, Bool.not_not, u8_eq] at hb23
    have hge : y = N := by omega
    have hft := tower_fit (k := t.kind) hj_t hb_t y (by omega)
    refine wp_exit ?_
    refine hK8 _ _ ?_; try clear hK8 K8
    refine seq_any fun K15 hK15 => ?_
    refine region_plain (fun h => by cases h) hst9 hfr9 (by kernel_rfl) (by kernel_rfl) (.cons rfl (ob_loadLS' (j := 0) rfl rfl Tryd.isAgg24 Tryd.sizeOf24 rfl rfl) <|
        .cons rfl (ob_callE rfl (.cons rfl <| .nil) Tryd.call12 (fun w m hK => by have hle_ := KC.le hK; have hA := KC.agree hK; have hM := hM.trans hle_; have hT := tab_keep hT hK.st.ext; have hJ0 := hJ0.mono hle_; exact text0f_c hA hJ0 hT hft)) <|
        .cons rfl (ob_move rfl) <|
        .cons rfl (ob_extract rfl rfl) <|
        .cons rfl (ob_extract rfl rfl) <|
        .cons rfl (ob_assign rfl) <|
        .cons rfl (ob_assign rfl) <|
        .nil) ?_
    intro a10 w10 m10 hst10 hle10 hk10
    have hfr10 := hk10.fr (T' := [(8, _), (1, _), (4, _), (3, _), (5, _), (0, _), (6, _), (7, _), (10, _)]) (.old rfl rfl <| .old rfl rfl <| .old rfl rfl <| .old rfl rfl <| .old rfl rfl <| .old rfl rfl <| .old rfl rfl <| .old rfl rfl <| .new rfl <| .nil)
    replace h_t := h_t.mono hle10
    replace hk_t := hk_t.mono hle10
    replace hv0 := hv0.mono hle10
    replace hJ0 := hJ0.mono hle10
    replace hkv := hkv.mono hle10
    have hlh10 := hlh9.trans hle10
    replace hM := hM.trans hle10
    clear hst9 hfr9 hk10
    refine hK15 _ _ ?_; try clear hK15 K15
    refine seq_any fun K16 hK16 => ?_
    refine region_plain (fun h => by cases h) hst10 hfr10 (by kernel_rfl) (by kernel_rfl) (.cons rfl (ob_move rfl) <|
        .cons rfl (ob_move rfl) <|
        .cons rfl (ob_move rfl) <|
        .cons rfl (ob_lss rfl rfl) <|
        .cons rfl (ob_and rfl rfl rfl) <|
        .cons rfl (ob_assign rfl) <|
        .nil) ?_
    intro a11 w11 m11 hst11 hle11 hk11
    have hfr11 := hk11.fr (T' := [(8, _), (1, _), (4, _), (3, _), (5, _), (0, _), (6, _), (7, _), (10, _), (11, _)]) (.old rfl rfl <| .old rfl rfl <| .old rfl rfl <| .old rfl rfl <| .old rfl rfl <| .old rfl rfl <| .old rfl rfl <| .old rfl rfl <| .old rfl rfl <| .new rfl <| .nil)
    replace h_t := h_t.mono hle11
    replace hk_t := hk_t.mono hle11
    replace hv0 := hv0.mono hle11
    replace hJ0 := hJ0.mono hle11
    replace hkv := hkv.mono hle11
    have hlh11 := hlh10.trans hle11
    replace hM := hM.trans hle11
    clear hst10 hfr10 hk11
    refine hK16 _ _ ?_; try clear hK16 K16
    refine seq_any fun K17 hK17 => ?_
    refine region_plain (fun h => by cases h) hst11 hfr11 (by kernel_rfl) (by kernel_rfl) (.cons rfl (ob_move rfl) <|
        .cons rfl (ob_move rfl) <|
        .cons rfl (ob_loadLS' (j := 0) rfl rfl Tryd.isAgg24 Tryd.sizeOf24 rfl rfl) <|
        .cons rfl (ob_callE rfl (.cons rfl <| .nil) Tryd.call14 (fun w m hK => by have hle_ := KC.le hK; have hA := KC.agree hK; have hM := hM.trans hle_; have hT := tab_keep hT hK.st.ext; have hJ0 := hJ0.mono hle_; exact right0_c hA hJ0)) <|
        .cons rfl (ob_move rfl) <|
        .cons rfl (ob_beql rfl rfl Tryd.underlying4) <|
        .cons rfl (ob_and rfl rfl rfl) <|
        .cons rfl (ob_move rfl) <|
        .cons rfl (ob_loadLS' (j := 0) rfl rfl Tryd.isAgg24 Tryd.sizeOf24 rfl rfl) <|
        .cons rfl (ob_callE rfl (.cons rfl <| .nil) Tryd.call16 (fun w m hK => by have hle_ := KC.le hK; have hA := KC.agree hK; have hM := hM.trans hle_; have hT := tab_keep hT hK.st.ext; have hJ0 := hJ0.mono hle_; exact first_c hA hJ0)) <|
        .cons rfl (ob_move rfl) <|
        .cons rfl (ob_move rfl) <|
        .cons rfl (ob_move rfl) <|
        .cons rfl (ob_lss rfl rfl) <|
        .cons rfl (ob_and rfl rfl rfl) <|
        .cons rfl (ob_beql rfl rfl Tryd.underlying4) <|
        .cons rfl (ob_and rfl rfl rfl) <|
        .cons rfl (ob_move rfl) <|
        .cons rfl (ob_move rfl) <|
        .cons rfl (ob_eql rfl rfl) <|
        .cons rfl (ob_move rfl) <|
        .cons rfl (ob_beql rfl rfl Tryd.underlying4) <|
        .cons rfl (ob_and rfl rfl rfl) <|
        .cons rfl (ob_assign rfl) <|
        .nil) ?_
    intro a12 w12 m12 hst12 hle12 hk12
    have hfr12 := hk12.fr (T' := [(8, _), (1, _), (3, _), (5, _), (0, _), (6, _), (7, _), (10, _), (11, _), (4, _)]) (.old rfl rfl <| .old rfl rfl <| .old rfl rfl <| .old rfl rfl <| .old rfl rfl <| .old rfl rfl <| .old rfl rfl <| .old rfl rfl <| .old rfl rfl <| .new rfl <| .nil)
    replace h_t := h_t.mono hle12
    replace hk_t := hk_t.mono hle12
    replace hv0 := hv0.mono hle12
    replace hJ0 := hJ0.mono hle12
    replace hkv := hkv.mono hle12
    have hlh12 := hlh11.trans hle12
    replace hM := hM.trans hle12
    clear hst11 hfr11 hk12
    refine hK17 _ _ ?_; try clear hK17 K17
    refine wp_ret ?_
    repeat (with_reducible first | refine then_ret ?_ | refine block_ret ?_)
    exact fn_ret hst12 hfr12 rfl (.tmp rfl <| .nil) (by subst hge; refine congrArg Value.bool ?_; rw [tower_right, tower_plain]; cases rightV 1000 ⟨t.kind, t.n, t.name, []⟩ <;> cases plainV ⟨t.kind, t.n, t.name, []⟩ <;> by_cases hq : y < 1000 <;> simp [hq] <;> omega)

end Go.Proofs.YtineijefefjpeaaDoor
