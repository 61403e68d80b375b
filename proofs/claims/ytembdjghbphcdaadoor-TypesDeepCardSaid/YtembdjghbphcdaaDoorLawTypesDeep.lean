/-
  'brocadelaw04': the walk of the law. Conditions: those of each theorem.
-/
import Derived.Test.YtembdjghbphcdaaDoorShown1
namespace Go.Proofs.YtembdjghbphcdaaDoor
set_option linter.all false
set_option maxRecDepth 4000
open Go.RowKit
open Go.Lib (itoa decDigits)
def towT : Nat → Ty
  | 0 => leafT 1
  | n + 1 => refT (towT n)
theorem towT_deep : ∀ n, deepT (towT n) = n + 1
  | 0 => by simp [towT, leafT, deepT, deepTs]
  | n + 1 => by simp only [towT, refT, deepT, deepTs, towT_deep n]; omega
theorem towT_right : ∀ n, rightT (towT n) = true
  | 0 => by decide
  | n + 1 => by simp [towT, refT, rightT, rightTs, rightTB, arity, rowOk, isSortedS, towT_right n]

set_option maxHeartbeats 400000 in
theorem typesDeep_c {w : World} {m : Mem} {n : Int} (hA : Agree w m) (hT : Tab w) : FnV Tryd.prog 6 #[.int .i64 n] w m (fun _ _ v => v = .bool true) := by
  refine fn_enter (vs := [_]) Tryd.func6 rfl rfl rfl fun a0 hfr0 => ?_
  have hst0 := st_enter hA (loc_nil [] _ w m)
  have hM : MLe m m := MLe.refl m
  obtain ⟨K, hK_, hK2⟩ : ∃ K : Nat, band n 511 = (K : Int) ∧ K ≤ 511 := by have h : 0 ≤ band n 511 ∧ band n 511 ≤ 511 := band_le n 511 (by omega); exact ⟨(band n 511).toNat, by omega, by omega⟩
  have h0_ : TyR m (towT 0) (leafV 1) := leafR ⟨by omega, by omega⟩
  refine seq_any fun K1 hK1 => ?_
  refine region_plain (fun h => by cases h) hst0 hfr0 (by kernel_rfl) (by kernel_rfl) (.cons rfl (ob_assign rfl) <|
      .nil) ?_
  intro a1 w1 m1 hst1 hle1 hk1
  have hfr1 := hk1.fr (T' := [(0, _), (2, _)]) (.old rfl rfl <| .new rfl <| .nil)
  replace h0_ := h0_.mono hle1
  replace hM := hM.trans hle1
  clear hst0 hfr0 hk1
  refine hK1 _ _ ?_; try clear hK1 K1
  refine seq_any fun K2 hK2 => ?_
  refine region_plain (fun h => by cases h) hst1 hfr1 (by kernel_rfl) (by kernel_rfl) (.cons rfl (ob_callE rfl (.nil) Tryd.call11 (fun w m hK => by have hle_ := KC.le hK; have hA := KC.agree hK; have hM := hM.trans hle_; have hT := tab_keep hT hK.st.ext; have h0_ := h0_.mono hle_; exact shown_c hA (by first | assumption | omega | simp_all))) <|
      .cons rfl (ob_assign rfl) <|
      .nil) ?_
  intro a2 w2 m2 hst2 hle2 hk2
  have hfr2 := hk2.fr (T' := [(0, _), (2, _), (3, _)]) (.old rfl rfl <| .old rfl rfl <| .new rfl <| .nil)
  replace h0_ := h0_.mono hle2
  replace hM := hM.trans hle2
  clear hst1 hfr1 hk2
  refine hK2 _ _ ?_; try clear hK2 K2
  refine seq_any fun K3 hK3 => ?_
  refine region_plain (fun h => by cases h) hst2 hfr2 (by kernel_rfl) (by kernel_rfl) (.cons rfl (ob_move rfl) <|
      .cons rfl (ob_band rfl rfl) <|
      .cons rfl (ob_assign rfl) <|
      .nil) ?_
  intro a3 w3 m3 hst3 hle3 hk3
  have hfr3 := hk3.fr (T' := [(2, _), (3, _), (0, _)]) (.old rfl rfl <| .old rfl rfl <| .new rfl <| .nil)
  replace h0_ := h0_.mono hle3
  replace hM := hM.trans hle3
  clear hst2 hfr2 hk3
  rw [hK_] at hfr3
  refine hK3 _ _ ?_; try clear hK3 K3
  refine seq_any fun K4 hK4 => ?_
  replace hst3 := hst3.more (r := .free) trivial List.nodup_nil (by simp [Res.blocks])
  refine region_any (tch := [(1, 0, (fun v => .blk v _)), (2, 0, (fun v => .blk v _))]) (fun h => by cases h) hst3 hfr3 (by kernel_rfl) (by kernel_rfl) (by kernel_rfl) (.cons rfl (ob_callE rfl (.nil) Tryd.call24 (fun w m hK => by have hle_ := KC.le hK; have hA := KC.agree hK; have hM := hM.trans hle_; have hT := tab_keep hT hK.st.ext; exact whole_c hA)) <|
      .consT rfl rfl (fun _ => rfl) rfl (ob_allocL Tryd.zeroValue27 rfl) <|
      .consT rfl rfl (fun _ => rfl) rfl (ob_imgT 4 rfl rfl rfl fun y4 => ob_storeF rfl rfl rfl rfl rfl Tryd.sizeOf27 rfl rfl rfl) <|
      .nil) ?_
  intro a4 w4 m4 hst4 hle4 hk4
  have hfr4 := hk4.fr (T' := [(2, _), (3, _), (0, _)]) (.old rfl rfl <| .old rfl rfl <| .old rfl rfl <| .nil)
  obtain ⟨gv, e5, _⟩ := hk4.ex 4 rfl
  replace hfr4 := hfr4.cons e5
  replace hst4 := hst4.fin (L' := [_]) (.cons e5 <| .cons e5 <| .nil)
  replace h0_ := h0_.mono hle4
  replace hM := hM.trans hle4
  clear hst3 hfr3 hk4
  refine hK4 _ _ ?_; try clear hK4 K4
  refine seq_any fun K6 hK6 => ?_
  refine seq_any fun K7 hK7 => ?_
  refine region_plain (fun h => by cases h) hst4 hfr4 (by kernel_rfl) (by kernel_rfl) (.cons rfl (ob_assign rfl) <|
      .nil) ?_
  intro a5 w5 m5 hst5 hle5 hk5
  have hfr5 := hk5.fr (T' := [(2, _), (3, _), (0, _), (4, _), (5, _)]) (.old rfl rfl <| .old rfl rfl <| .old rfl rfl <| .old rfl rfl <| .new rfl <| .nil)
  replace h0_ := h0_.mono hle5
  replace hM := hM.trans hle5
  clear hst4 hfr4 hk5
  refine hK7 _ _ ?_; try clear hK7 K7
  refine wp_block ?_
  refine loop_any (T := [(2, _), (3, _), (0, _), (4, _)]) (fun (y : Nat × List Value) => ([(5, .int .i64 (y.1 : Int))] : List (Nat × Value))) (fun y => [.blk (.pointer (some ⟨gv, 0, none⟩)) (.cells y.2.toArray 27)]) (fun (y : Nat × List Value) m => (fun (y : Nat) (cs : List Value) => (y ≤ K) ∧ (TyR m (towT y) cs)) y.1 y.2) (fun y => K - y.1) ((0, leafV 1)) ⟨hst5, MLe.refl _, hfr5.sub (.cons rfl <| .cons rfl <| .cons rfl <| .cons rfl <| .cons rfl <| .nil), ⟨Nat.zero_le _, h0_⟩⟩ fun y a6 w6 m6 hh6 => ?_
  have hst6 := hh6.st; have hle6 := hh6.le; have hfr6 := hh6.fr; have hrel := hh6.rel; clear hh6
  replace h0_ := h0_.mono hle6
  clear hst5 hfr5
  replace hM := hM.trans hle6
  obtain ⟨y, cs⟩ := y
  dsimp only at hrel hfr6 hst6
  obtain ⟨hyn, hJ0⟩ := hrel
  obtain ⟨ov, cv, ow, cw, rfl, hkv, hsv, hiv, hjv, hrv⟩ := hJ0.open_
  have hlh6 := hle6
  refine seq_any fun K9 hK9 => ?_
  refine seq_any fun K10 hK10 => ?_
  refine region_plain (fun h => by cases h) hst6 hfr6 (by kernel_rfl) (by kernel_rfl) (.cons rfl (ob_move rfl) <|
      .cons rfl (ob_move rfl) <|
      .cons rfl (ob_lss rfl rfl) <|
      .nil) ?_
  intro a7 w7 m7 hst7 hle7 hk7
  have hfr7 := hk7.fr (T' := [(5, _), (2, _), (3, _), (0, _), (4, _), (12, _)]) (.old rfl rfl <| .old rfl rfl <| .old rfl rfl <| .old rfl rfl <| .old rfl rfl <| .new rfl <| .nil)
  replace h0_ := h0_.mono hle7
  replace hJ0 := hJ0.mono hle7
  have hlh7 := hlh6.trans hle7
  replace hM := hM.trans hle7
  clear hst6 hfr6 hk7
  refine hK10 _ _ ?_; try clear hK10 K10
  refine cond_any hfr7 rfl rfl (fun hb12 => ?_) (fun hb12 => ?_)
  · try simp only [Bool.not_eq_true', Bool.not_eq_false', decide_eq_true_eq, decide_eq_false_iff_not, Bool.and_eq_true, Bool.or_eq_true, Bool.and_eq_false_iff, Bool.or_eq_false_iff, Bool.not_not, u8_eq] at hb12
    refine wp_skip ?_
    refine hK9 _ _ ?_; try clear hK9 K9
    refine seq_any fun K11 hK11 => ?_
    refine wp_block ?_
    refine region_any (tch := [(3, 0, (fun _ => .blkx _ _ _))]) (fun h => by cases h) hst7 hfr7 (by kernel_rfl) (by kernel_rfl) (by kernel_rfl) (.cons rfl (ob_loadLS' (j := 0) rfl rfl Tryd.isAgg27 Tryd.sizeOf27 rfl rfl) <|
        .cons rfl (ob_buildSlice (.cons rfl <| .nil) Tryd.underlying22 Tryd.sizeOf27 Tryd.zeroValue27 rfl rfl rfl rfl) <|
        .cons rfl (ob_imgV 16 rfl rfl rfl fun y16 => ob_buildS (.cons rfl <| .cons rfl <| .nil) Tryd.underlying27 Tryd.zeroValue27 (.cons Tryd.sizeOf3 <| .cons Tryd.sizeOf9 <| .cons Tryd.sizeOf3 <| .cons Tryd.sizeOf22 <| .cons Tryd.sizeOf25 <| .nil) rfl) <|
        .consT rfl rfl (fun _ => rfl) rfl (ob_imgTX 17 rfl rfl rfl fun y17 => ob_store' rfl rfl rfl Tryd.sizeOf27 rfl rfl rfl) <|
        .nil) ?_
    intro a8 w8 m8 hst8 hle8 hk8
    have hfr8 := hk8.fr (T' := [(5, _), (2, _), (3, _), (0, _), (4, _)]) (.old rfl rfl <| .old rfl rfl <| .old rfl rfl <| .old rfl rfl <| .old rfl rfl <| .nil)
    replace hst8 := hst8.fin (L' := [_]) (.cons rfl <| .nil)
    obtain ⟨gk, hgk, hst8⟩ := hst8.unx (k := 0) rfl (fun _ => rfl)
    replace h0_ := h0_.mono hle8
    replace hJ0 := hJ0.mono hle8
    have hlh8 := hlh7.trans hle8
    replace hM := hM.trans hle8
    clear hst7 hfr7 hk8
    have hnew : TyR m8 (towT (y + 1)) [.int .i64 6, S [], .int .i64 0, .slice (some ⟨gk, 0, none⟩) 1 1, .slice none 0 0, .int .i64 0] := TyR.build (k := 6) (v := 0) (r := 0) (s := []) (ls := []) (Sl.one hgk rfl hJ0) Sl.empty ⟨by omega, by omega⟩ ⟨by omega, by omega⟩ ⟨by omega, by omega⟩
    refine hK11 _ _ ?_; try clear hK11 K11
    refine region_plain (fun h => by cases h) hst8 hfr8 (by kernel_rfl) (by kernel_rfl) (.cons rfl (ob_move rfl) <|
        .cons rfl (ob_add rfl rfl ⟨by omega, by omega⟩) <|
        .cons rfl (ob_assign rfl) <|
        .nil) ?_
    intro a9 w9 m9 hst9 hle9 hk9
    have hfr9 := hk9.fr (T' := [(2, _), (3, _), (0, _), (4, _), (5, _)]) (.old rfl rfl <| .old rfl rfl <| .old rfl rfl <| .old rfl rfl <| .new rfl <| .nil)
    replace h0_ := h0_.mono hle9
    replace hJ0 := hJ0.mono hle9
    replace hgk := hgk.mono hle9
    replace hnew := hnew.mono hle9
    have hlh9 := hlh8.trans hle9
    replace hM := hM.trans hle9
    clear hst8 hfr8 hk9
    exact ⟨(y + 1, [.int .i64 6, S [], .int .i64 0, .slice (some ⟨gk, 0, none⟩) 1 1, .slice none 0 0, .int .i64 0]), m9, by show K - (y + 1) < K - y; omega, ⟨hst9, hlh9, hfr9.sub (.cons rfl <| .cons rfl <| .cons rfl <| .cons rfl <| .cons rfl <| .nil), ⟨by show y + 1 ≤ K; omega, hnew⟩⟩⟩
  · try simp only [Bool.not_eq_true', Bool.not_eq_false', decide_eq_true_eq, decide_eq_false_iff_not, Bool.and_eq_true, Bool.or_eq_true, Bool.and_eq_false_iff, Bool.or_eq_false_iff, Bool.not_not, u8_eq] at hb12
    have hge : y = K := by omega
    have htd := towT_deep y
    have htr := towT_right y
    refine wp_exit ?_
    refine hK6 _ _ ?_; try clear hK6 K6
    refine seq_any fun K13 hK13 => ?_
    refine region_plain (fun h => by cases h) hst7 hfr7 (by kernel_rfl) (by kernel_rfl) (.cons rfl (ob_move rfl) <|
        .cons rfl (ob_move rfl) <|
        .cons rfl (ob_loadLS' (j := 0) rfl rfl Tryd.isAgg27 Tryd.sizeOf27 rfl rfl) <|
        .cons rfl (ob_callE rfl (.cons rfl <| .nil) Tryd.call18 (fun w m hK => by have hle_ := KC.le hK; have hA := KC.agree hK; have hM := hM.trans hle_; have hT := tab_keep hT hK.st.ext; have hJ0 := hJ0.mono hle_; exact depth0_c hA hJ0)) <|
        .cons rfl (ob_move rfl) <|
        .cons rfl (ob_add rfl rfl ⟨by omega, by omega⟩) <|
        .cons rfl (ob_min2 rfl rfl) <|
        .cons rfl (ob_eql rfl rfl) <|
        .cons rfl (ob_and rfl rfl rfl) <|
        .cons rfl (ob_move rfl) <|
        .cons rfl (ob_loadLS' (j := 0) rfl rfl Tryd.isAgg27 Tryd.sizeOf27 rfl rfl) <|
        .cons rfl (ob_callE rfl (.cons rfl <| .nil) Tryd.call13 (fun w m hK => by have hle_ := KC.le hK; have hA := KC.agree hK; have hM := hM.trans hle_; have hT := tab_keep hT hK.st.ext; have hJ0 := hJ0.mono hle_; exact right0_c hA hJ0)) <|
        .cons rfl (ob_move rfl) <|
        .cons rfl (ob_lss rfl rfl) <|
        .cons rfl (ob_beql rfl rfl Tryd.underlying4) <|
        .cons rfl (ob_and rfl rfl rfl) <|
        .cons rfl (ob_assign rfl) <|
        .nil) ?_
    intro a8 w8 m8 hst8 hle8 hk8
    have hfr8 := hk8.fr (T' := [(5, _), (3, _), (0, _), (4, _), (2, _)]) (.old rfl rfl <| .old rfl rfl <| .old rfl rfl <| .old rfl rfl <| .new rfl <| .nil)
    replace h0_ := h0_.mono hle8
    replace hJ0 := hJ0.mono hle8
    have hlh8 := hlh7.trans hle8
    replace hM := hM.trans hle8
    clear hst7 hfr7 hk8
    refine hK13 _ _ ?_; try clear hK13 K13
    refine wp_ret ?_
    repeat (with_reducible first | refine then_ret ?_ | refine block_ret ?_)
    exact fn_ret hst8 hfr8 rfl (.tmp rfl <| .nil) (by subst hge; refine congrArg Value.bool ?_; rw [htd, htr, show decide (y + 1 ≤ 200) = decide ((y : Int) < 200) from by rw [decide_eq_decide]; omega]; simp; split <;> omega)

end Go.Proofs.YtembdjghbphcdaaDoor
