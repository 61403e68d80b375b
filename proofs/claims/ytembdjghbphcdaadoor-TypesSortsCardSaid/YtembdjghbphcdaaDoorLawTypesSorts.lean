/-
  'brocadelaw04': the walk of the law. Conditions: those of each theorem.
-/
import Derived.Test.YtembdjghbphcdaaDoorShown1
import Derived.Test.YtembdjghbphcdaaDoorRows4
import Derived.Test.YtembdjghbphcdaaDoorTyapp
namespace Go.Proofs.YtembdjghbphcdaaDoor
set_option linter.all false
set_option maxRecDepth 4000
open Go.RowKit
open Go.Lib (itoa decDigits)
theorem moved_perm {ls : List Str} {k : Nat} {x : Str} (hk : k < ls.length) (hx : ls.drop k = x :: ls.drop (k + 1)) : (([x] ++ ((ls.take k).drop 0)) ++ ((ls.take ls.length).drop (k + 1))).Perm ls := by
  rw [List.drop_zero, List.take_length]
  have h1 : ls.take k ++ x :: ls.drop (k + 1) = ls := by rw [← hx]; exact List.take_append_drop k ls
  have h2 : (([x] ++ ls.take k) ++ ls.drop (k + 1)).Perm (ls.take k ++ x :: ls.drop (k + 1)) := (List.perm_middle (l₁ := ls.take k) (a := x) (l₂ := ls.drop (k + 1))).symm
  rw [h1] at h2; exact h2
theorem rev_at {ls : List Str} {y : Nat} {x : Str} (hy : y < ls.length) (hx : ls.drop (ls.length - 1 - y) = x :: ls.drop (ls.length - 1 - y + 1)) : ls.reverse.take (y + 1) = ls.reverse.take y ++ [x] := by
  have h0 : ls[ls.length - 1 - y]? = some x := by
    have := congrArg (fun q => q[0]?) hx
    simpa using this
  rw [List.take_succ, List.getElem?_reverse hy, h0]; rfl

set_option maxHeartbeats 400000 in
theorem typesSorts_c {w : World} {m : Mem} {o_l : Option Addr} {c_l : Nat} {l : List Str} {n : Int} {p : Int} (hA : Agree w m) (h_l : Strs m o_l l.length c_l l) (hT : Tab w) : FnV Tryd.prog 8 #[.slice o_l l.length c_l, .int .i64 n, .int .i64 p] w m (fun _ _ v => v = .bool true) := by
  have hb_l := h_l.big; have hc_l := h_l.cap
  refine fn_enter (vs := [_, _, _]) Tryd.func8 rfl rfl rfl fun a0 hfr0 => ?_
  have hst0 := st_enter hA (loc_nil [] _ w m)
  have hM : MLe m m := MLe.refl m
  have emin : (if (30 : Int) < (l.length : Int) then (30 : Int) else (l.length : Int)) = ((min l.length 30 : Nat) : Int) := by split <;> omega
  have hbn : 0 ≤ band n 255 ∧ band n 255 ≤ 255 := band_le n 255 (by omega)
  have hbp : 0 ≤ band p 255 ∧ band p 255 ≤ 255 := band_le p 255 (by omega)
  have hIn : InI64 (band n 255) := ⟨by omega, by omega⟩
  refine seq_any fun K1 hK1 => ?_
  refine region_plain (fun h => by cases h) hst0 hfr0 (by kernel_rfl) (by kernel_rfl) (.cons rfl (ob_assign rfl) <|
      .nil) ?_
  intro a1 w1 m1 hst1 hle1 hk1
  have hfr1 := hk1.fr (T' := [(0, _), (1, _), (2, _), (6, _)]) (.old rfl rfl <| .old rfl rfl <| .old rfl rfl <| .new rfl <| .nil)
  replace h_l := h_l.mono hle1
  replace hM := hM.trans hle1
  clear hst0 hfr0 hk1
  refine hK1 _ _ ?_; try clear hK1 K1
  refine seq_any fun K2 hK2 => ?_
  refine region_plain (fun h => by cases h) hst1 hfr1 (by kernel_rfl) (by kernel_rfl) (.cons rfl (ob_callE rfl (.nil) Tryd.call11 (fun w m hK => by have hle_ := KC.le hK; have hA := KC.agree hK; have hM := hM.trans hle_; have hT := tab_keep hT hK.st.ext; have h_l := h_l.mono hle_; exact shown_c hA (by first | assumption | omega | simp_all))) <|
      .cons rfl (ob_assign rfl) <|
      .nil) ?_
  intro a2 w2 m2 hst2 hle2 hk2
  have hfr2 := hk2.fr (T' := [(0, _), (1, _), (2, _), (6, _), (7, _)]) (.old rfl rfl <| .old rfl rfl <| .old rfl rfl <| .old rfl rfl <| .new rfl <| .nil)
  replace h_l := h_l.mono hle2
  replace hM := hM.trans hle2
  clear hst1 hfr1 hk2
  refine hK2 _ _ ?_; try clear hK2 K2
  refine seq_any fun K3 hK3 => ?_
  refine region_plain (fun h => by cases h) hst2 hfr2 (by kernel_rfl) (by kernel_rfl) (.cons rfl (ob_move rfl) <|
      .cons rfl (ob_move rfl) <|
      .cons rfl (ob_len rfl Tryd.underlying23) <|
      .cons rfl (ob_min2 rfl rfl) <|
      .cons rfl (ob_slice rfl .none (.some rfl emin) Tryd.underlying23 Tryd.sizeOf9 (by omega) (by omega)) <|
      .cons rfl (ob_assign rfl) <|
      .nil) ?_
  intro a3 w3 m3 hst3 hle3 hk3
  have hfr3 := hk3.fr (T' := [(1, _), (2, _), (6, _), (7, _), (0, _)]) (.old rfl rfl <| .old rfl rfl <| .old rfl rfl <| .old rfl rfl <| .new rfl <| .nil)
  replace h_l := h_l.mono hle3
  replace hM := hM.trans hle3
  clear hst2 hfr2 hk3
  have hcut : Strs _ _ _ _ _ := h_l.cut (l := 0) (k := min l.length 30) (Nat.zero_le _) (Nat.min_le_left _ _)
  have hlk : min l.length 30 - 0 = ((l.take (min l.length 30)).drop 0).length := by simp
  have hl99 : ((l.take (min l.length 30)).drop 0).length ≤ 30 := by rw [← hlk]; omega
  generalize (l.take (min l.length 30)).drop 0 = ls at hlk hcut hl99
  rw [hlk] at hcut hfr3
  generalize (if c_l = 0 then o_l else o_l.map (·.add (0 * 1))) = oq at hcut hfr3
  generalize c_l - 0 = cq at hcut hfr3
  refine hK3 _ _ ?_; try clear hK3 K3
  refine seq_any fun K4 hK4 => ?_
  refine region_plain (fun h => by cases h) hst3 hfr3 (by kernel_rfl) (by kernel_rfl) (.cons rfl (ob_assign rfl) <|
      .nil) ?_
  intro a4 w4 m4 hst4 hle4 hk4
  have hfr4 := hk4.fr (T' := [(1, _), (2, _), (6, _), (7, _), (0, _), (8, _)]) (.old rfl rfl <| .old rfl rfl <| .old rfl rfl <| .old rfl rfl <| .old rfl rfl <| .new rfl <| .nil)
  replace h_l := h_l.mono hle4
  replace hcut := hcut.mono hle4
  replace hM := hM.trans hle4
  clear hst3 hfr3 hk4
  refine hK4 _ _ ?_; try clear hK4 K4
  refine seq_any fun K5 hK5 => ?_
  refine seq_any fun K6 hK6 => ?_
  refine region_plain (fun h => by cases h) hst4 hfr4 (by kernel_rfl) (by kernel_rfl) (.cons rfl (ob_move rfl) <|
      .cons rfl (ob_len rfl Tryd.underlying23) <|
      .cons rfl (ob_sub rfl rfl ⟨by omega, by omega⟩) <|
      .cons rfl (ob_assign rfl) <|
      .nil) ?_
  intro a5 w5 m5 hst5 hle5 hk5
  have hfr5 := hk5.fr (T' := [(1, _), (2, _), (6, _), (7, _), (0, _), (8, _), (9, _)]) (.old rfl rfl <| .old rfl rfl <| .old rfl rfl <| .old rfl rfl <| .old rfl rfl <| .old rfl rfl <| .new rfl <| .nil)
  replace h_l := h_l.mono hle5
  replace hcut := hcut.mono hle5
  replace hM := hM.trans hle5
  clear hst4 hfr4 hk5
  rw [show ((ls.length : Nat) : Int) - 1 = (ls.length : Int) - 1 - ((0 : Nat) : Int) by omega] at hfr5
  refine hK6 _ _ ?_; try clear hK6 K6
  refine wp_block ?_
  have hst5 := hst5.more (r := .row (.slice none 0 0) 0 1 9 []) ⟨rfl, .inl ⟨rfl, rfl⟩⟩ List.nodup_nil (by simp [Res.blocks, rowBlock])
  refine loop_any (T := [(1, _), (2, _), (6, _), (7, _), (0, _)]) (fun (y : Nat × Option Addr × Nat × List Value) => ([(8, .slice y.2.1 y.1 y.2.2.1), (9, .int .i64 ((ls.length : Int) - 1 - (y.1 : Int)))] : List (Nat × Value))) (fun y => [.row (.slice y.2.1 y.1 y.2.2.1) y.1 1 9 y.2.2.2]) (fun (y : Nat × Option Addr × Nat × List Value) m => (fun (y : Nat) (Bo : Option Addr) (Bp : Nat) (Bc : List Value) => (y ≤ ls.length) ∧ (Bc = ((ls.reverse.take y).map S)) ∧ (RowAt m Bo Bc) ∧ (y ≤ Bp) ∧ (∀ s ∈ ls.reverse.take y, s ≠ [])) y.1 y.2.1 y.2.2.1 y.2.2.2) (fun y => ls.length - y.1) ((0, none, 0, [])) ⟨hst5, MLe.refl _, hfr5.sub (.cons rfl <| .cons rfl <| .cons rfl <| .cons rfl <| .cons rfl <| .cons rfl <| .cons rfl <| .nil), ⟨Nat.zero_le _, rfl, .inl rfl, Nat.le_refl _, by simp⟩⟩ fun y a6 w6 m6 hh6 => ?_
  have hst6 := hh6.st; have hle6 := hh6.le; have hfr6 := hh6.fr; have hrel := hh6.rel; clear hh6
  replace h_l := h_l.mono hle6
  replace hcut := hcut.mono hle6
  clear hst5 hfr5
  replace hM := hM.trans hle6
  obtain ⟨y, Bo, Bp, Bc⟩ := y
  dsimp only at hrel hfr6 hst6
  obtain ⟨hyn, he_B, hrow_B, hcap_B, hne⟩ := hrel
  have hlh6 := hle6
  refine seq_any fun K8 hK8 => ?_
  refine seq_any fun K9 hK9 => ?_
  refine region_plain (fun h => by cases h) hst6 hfr6 (by kernel_rfl) (by kernel_rfl) (.cons rfl (ob_move rfl) <|
      .cons rfl (ob_geq rfl rfl) <|
      .nil) ?_
  intro a7 w7 m7 hst7 hle7 hk7
  have hfr7 := hk7.fr (T' := [(8, _), (9, _), (1, _), (2, _), (6, _), (7, _), (0, _), (26, _)]) (.old rfl rfl <| .old rfl rfl <| .old rfl rfl <| .old rfl rfl <| .old rfl rfl <| .old rfl rfl <| .old rfl rfl <| .new rfl <| .nil)
  replace h_l := h_l.mono hle7
  replace hcut := hcut.mono hle7
  replace hrow_B := hrow_B.mono hle7
  have hlh7 := hlh6.trans hle7
  replace hM := hM.trans hle7
  clear hst6 hfr6 hk7
  refine hK9 _ _ ?_; try clear hK9 K9
  refine cond_any hfr7 rfl rfl (fun hb26 => ?_) (fun hb26 => ?_)
  · try simp only [Bool.not_eq_true', Bool.not_eq_false', decide_eq_true_eq, decide_eq_false_iff_not, Bool.and_eq_true, Bool.or_eq_true, Bool.and_eq_false_iff, Bool.or_eq_false_iff, Bool.not_not, u8_eq] at hb26
    refine wp_skip ?_
    refine hK8 _ _ ?_; try clear hK8 K8
    refine seq_any fun K10 hK10 => ?_
    refine wp_block ?_
    refine seq_any fun K11 hK11 => ?_
    refine seq_any fun K12 hK12 => ?_
    obtain ⟨p13, vs13, x13, ho13, hd13, hm_x13, ht13, hcv13, hl13, hv13⟩ := hcut.nth (k := ls.length - 1 - y) (by omega)
    cases ho13
    subst hv13
    refine region_plain (fun h => by cases h) hst7 hfr7 (by kernel_rfl) (by kernel_rfl) (.cons rfl (ob_move rfl) <|
        .cons rfl (ob_move rfl) <|
        .cons rfl (ob_indexAddr (k := ls.length - 1 - y) rfl rfl Tryd.underlying23 Tryd.sizeOf9 (by omega) (by omega)) <|
        .cons rfl (ob_load1' rfl hcv13 Tryd.isAgg9 rfl) <|
        .cons rfl (ob_seql rfl rfl) <|
        .nil) ?_
    intro a8 w8 m8 hst8 hle8 hk8
    have hfr8 := hk8.fr (T' := [(8, _), (9, _), (1, _), (2, _), (6, _), (7, _), (0, _), (33, _)]) (.old rfl rfl <| .old rfl rfl <| .old rfl rfl <| .old rfl rfl <| .old rfl rfl <| .old rfl rfl <| .old rfl rfl <| .new rfl <| .nil)
    replace h_l := h_l.mono hle8
    replace hcut := hcut.mono hle8
    replace hrow_B := hrow_B.mono hle8
    replace hcv13 := hcv13.mono hle8
    have hlh8 := hlh7.trans hle8
    replace hM := hM.trans hle8
    clear hst7 hfr7 hk8
    refine hK12 _ _ ?_; try clear hK12 K12
    refine cond_any hfr8 rfl rfl (fun hb33 => ?_) (fun hb33 => ?_)
    · try simp only [Bool.not_eq_true', Bool.not_eq_false', decide_eq_true_eq, decide_eq_false_iff_not, Bool.and_eq_true, Bool.or_eq_true, Bool.and_eq_false_iff, Bool.or_eq_false_iff, Bool.not_not, u8_eq] at hb33
      refine seq_any fun K14 hK14 => ?_
      refine region_plain (fun h => by cases h) hst8 hfr8 (by kernel_rfl) (by kernel_rfl) (.cons rfl (ob_move rfl) <|
          .cons rfl (ob_assign rfl) <|
          .nil) ?_
      intro a9 w9 m9 hst9 hle9 hk9
      have hfr9 := hk9.fr (T' := [(8, _), (9, _), (1, _), (2, _), (7, _), (0, _), (6, _)]) (.old rfl rfl <| .old rfl rfl <| .old rfl rfl <| .old rfl rfl <| .old rfl rfl <| .old rfl rfl <| .new rfl <| .nil)
      replace h_l := h_l.mono hle9
      replace hcut := hcut.mono hle9
      replace hrow_B := hrow_B.mono hle9
      replace hcv13 := hcv13.mono hle9
      have hlh9 := hlh8.trans hle9
      replace hM := hM.trans hle9
      clear hst8 hfr8 hk9
      refine hK14 _ _ ?_; try clear hK14 K14
      refine wp_ret ?_
      repeat (with_reducible first | refine then_ret ?_ | refine block_ret ?_)
      exact fn_ret hst9 hfr9 rfl (.tmp rfl <| .nil) (rfl)
    · try simp only [Bool.not_eq_true', Bool.not_eq_false', decide_eq_true_eq, decide_eq_false_iff_not, Bool.and_eq_true, Bool.or_eq_true, Bool.and_eq_false_iff, Bool.or_eq_false_iff, Bool.not_not, u8_eq] at hb33
      refine wp_skip ?_
      refine hK11 _ _ ?_; try clear hK11 K11
      refine region_any (tch := [(6, 0, (fun v => .row v _ _ _ _))]) (fun h => by cases h) hst8 hfr8 (by kernel_rfl) (by kernel_rfl) (by kernel_rfl) (.cons rfl (ob_move rfl) <|
          .cons rfl (ob_move rfl) <|
          .cons rfl (ob_move rfl) <|
          .cons rfl (ob_indexAddr (k := ls.length - 1 - y) rfl rfl Tryd.underlying23 Tryd.sizeOf9 (by omega) (by omega)) <|
          .cons rfl (ob_load1' rfl hcv13 Tryd.isAgg9 rfl) <|
          .cons rfl (ob_buildSlice (.cons rfl <| .nil) Tryd.underlying23 Tryd.sizeOf9 Tryd.zeroValue9 rfl rfl rfl rfl) <|
          .consT rfl rfl (fun _ => rfl) rfl (ob_imgT 40 rfl rfl rfl fun y40 => ob_append (size := 1) (bytes := 16) rfl rfl Tryd.underlying23 Tryd.type9 rfl rfl rfl rfl (fun w m hK => .inr ⟨_, rfl, hK.2⟩) rfl (by decide) rfl (by simp only [maxLen]; omega) (by omega)) <|
          .consA 41 rfl rfl <|
          .nil) ?_
      intro a9 w9 m9 hst9 hle9 hk9
      have hfr9 := hk9.fr (T' := [(9, _), (1, _), (2, _), (6, _), (7, _), (0, _)]) (.old rfl rfl <| .old rfl rfl <| .old rfl rfl <| .old rfl rfl <| .old rfl rfl <| .old rfl rfl <| .nil)
      obtain ⟨⟨Bo2, Bp2⟩, e16, hrow2_B, hcap2_B⟩ := hk9.ex 41 rfl
      replace hfr9 := hfr9.cons e16
      replace hfr9 := hfr9.cons (hk9.same 8 rfl e16)
      replace hst9 := hst9.fin (L' := [_]) (.cons e16 <| .nil)
      replace h_l := h_l.mono hle9
      replace hcut := hcut.mono hle9
      replace hrow_B := hrow_B.mono hle9
      replace hcv13 := hcv13.mono hle9
      have hlh9 := hlh8.trans hle9
      replace hM := hM.trans hle9
      clear hst8 hfr8 hk9
      refine hK10 _ _ ?_; try clear hK10 K10
      refine region_plain (fun h => by cases h) hst9 hfr9 (by kernel_rfl) (by kernel_rfl) (.cons rfl (ob_move rfl) <|
          .cons rfl (ob_sub rfl rfl ⟨by omega, by omega⟩) <|
          .cons rfl (ob_assign rfl) <|
          .nil) ?_
      intro a10 w10 m10 hst10 hle10 hk10
      have hfr10 := hk10.fr (T' := [(1, _), (2, _), (6, _), (7, _), (0, _), (8, _), (9, _)]) (.old rfl rfl <| .old rfl rfl <| .old rfl rfl <| .old rfl rfl <| .old rfl rfl <| .old rfl rfl <| .new rfl <| .nil)
      replace h_l := h_l.mono hle10
      replace hcut := hcut.mono hle10
      replace hrow_B := hrow_B.mono hle10
      replace hcv13 := hcv13.mono hle10
      replace hrow2_B := hrow2_B.mono hle10
      have hlh10 := hlh9.trans hle10
      replace hM := hM.trans hle10
      clear hst9 hfr9 hk10
      rw [show (ls.length : Int) - 1 - (y : Int) - 1 = (ls.length : Int) - 1 - ((y + 1 : Nat) : Int) by omega] at hfr10
      exact ⟨(y + 1, _, _, _), m10, by show ls.length - (y + 1) < ls.length - y; omega, ⟨hst10, hlh10, hfr10.sub (.cons rfl <| .cons rfl <| .cons rfl <| .cons rfl <| .cons rfl <| .cons rfl <| .cons rfl <| .nil), ⟨by show y + 1 ≤ ls.length; omega, by rw [rev_at (by omega) hd13, List.map_append, ← he_B]; rfl, hrow2_B, hcap2_B, by rw [rev_at (by omega) hd13]; intro s hs; rcases List.mem_append.1 hs with h | h; (exact hne s h); (rw [List.mem_singleton] at h; rw [h]; exact hb33)⟩⟩⟩
  · try simp only [Bool.not_eq_true', Bool.not_eq_false', decide_eq_true_eq, decide_eq_false_iff_not, Bool.and_eq_true, Bool.or_eq_true, Bool.and_eq_false_iff, Bool.or_eq_false_iff, Bool.not_not, u8_eq] at hb26
    have hge : y = ls.length := by omega
    rw [List.take_of_length_le (by simp; omega)] at he_B hne
    subst he_B
    have hsB : Strs m7 Bo ls.reverse.length Bp ls.reverse := Strs.of_row hrow_B rfl (by simp; omega) (by simp; omega)
    have hyl : y = ls.reverse.length := by simp; omega
    rw [hyl] at hfr7 hst7
    have hno : ¬ [] ∈ ls := fun h => hne [] (by simpa using h) rfl
    refine wp_exit ?_
    refine hK5 _ _ ?_; try clear hK5 K5
    refine seq_any fun K17 hK17 => ?_
    refine region_plain (fun h => by cases h) hst7 hfr7 (by kernel_rfl) (by kernel_rfl) (.cons rfl (ob_move rfl) <|
        .cons rfl (ob_band rfl rfl) <|
        .cons rfl (ob_assign rfl) <|
        .nil) ?_
    intro a8 w8 m8 hst8 hle8 hk8
    have hfr8 := hk8.fr (T' := [(8, _), (9, _), (2, _), (6, _), (7, _), (0, _), (1, _)]) (.old rfl rfl <| .old rfl rfl <| .old rfl rfl <| .old rfl rfl <| .old rfl rfl <| .old rfl rfl <| .new rfl <| .nil)
    replace h_l := h_l.mono hle8
    replace hcut := hcut.mono hle8
    replace hrow_B := hrow_B.mono hle8
    replace hsB := hsB.mono hle8
    have hlh8 := hlh7.trans hle8
    replace hM := hM.trans hle8
    clear hst7 hfr7 hk8
    refine hK17 _ _ ?_; try clear hK17 K17
    refine seq_any fun K18 hK18 => ?_
    replace hst8 := hst8.more (r := .free) trivial List.nodup_nil (by simp [Res.blocks])
    refine region_any (tch := [(4, 1, (fun v => .blk v _)), (5, 1, (fun v => .blkx v _ _))]) (fun h => by cases h) hst8 hfr8 (by kernel_rfl) (by kernel_rfl) (by kernel_rfl) (.cons rfl (ob_move rfl) <|
        .cons rfl (ob_move rfl) <|
        .cons rfl (ob_buildS (.cons rfl <| .cons rfl <| .nil) Tryd.underlying25 Tryd.zeroValue25 (.cons Tryd.sizeOf23 <| .cons Tryd.sizeOf3 <| .nil) rfl) <|
        .cons rfl (ob_call (φ := MP.rw ⟨sortS ls, band n 255⟩) rfl (.cons rfl <| .nil) Tryd.call25 (fun w m hK => by have hle_ := KC.le hK; have hA := KC.agree hK; have hM := hM.trans hle_; have hT := tab_keep hT hK.st.ext; have hcut := hcut.mono hle_; exact FnG.mono (sorted_c (r := ⟨ls, band n 255⟩) hA ⟨_, _, rfl, hcut, hIn⟩ (by show ls.length ≤ _; omega)) fun _ _ _ _ h => h)) <|
        .consT rfl rfl (fun _ => rfl) rfl (ob_allocL Tryd.zeroValue25 rfl) <|
        .consT rfl rfl (fun _ => rfl) rfl (ob_imgT 10 rfl rfl rfl fun y10 => ob_imgTX 47 rfl rfl rfl fun y47 => ob_storeF rfl rfl rfl rfl rfl Tryd.sizeOf25 rfl rfl rfl) <|
        .nil) ?_
    intro a9 w9 m9 hst9 hle9 hk9
    have hfr9 := hk9.fr (T' := [(8, _), (9, _), (2, _), (6, _), (7, _), (0, _), (1, _)]) (.old rfl rfl <| .old rfl rfl <| .old rfl rfl <| .old rfl rfl <| .old rfl rfl <| .old rfl rfl <| .old rfl rfl <| .nil)
    obtain ⟨g19, e19, _⟩ := hk9.ex 10 rfl
    replace hfr9 := hfr9.cons e19
    replace hst9 := hst9.fin (L' := [_, _]) (.cons e19 <| .cons e19 <| .nil)
    obtain ⟨⟨oa, ca⟩, hSa, hst9⟩ := hst9.unx (k := 1) rfl (fun _ => rfl)
    replace h_l := h_l.mono hle9
    replace hcut := hcut.mono hle9
    replace hrow_B := hrow_B.mono hle9
    replace hsB := hsB.mono hle9
    have hlh9 := hlh8.trans hle9
    replace hM := hM.trans hle9
    clear hst8 hfr8 hk9
    refine hK18 _ _ ?_; try clear hK18 K18
    refine seq_any fun K21 hK21 => ?_
    replace hst9 := hst9.more (r := .free) trivial List.nodup_nil (by simp [Res.blocks])
    refine region_any (tch := [(4, 2, (fun v => .blk v _)), (5, 2, (fun v => .blkx v _ _))]) (fun h => by cases h) hst9 hfr9 (by kernel_rfl) (by kernel_rfl) (by kernel_rfl) (.cons rfl (ob_move rfl) <|
        .cons rfl (ob_move rfl) <|
        .cons rfl (ob_buildS (.cons rfl <| .cons rfl <| .nil) Tryd.underlying25 Tryd.zeroValue25 (.cons Tryd.sizeOf23 <| .cons Tryd.sizeOf3 <| .nil) rfl) <|
        .cons rfl (ob_call (φ := MP.rw ⟨sortS ls.reverse, band n 255⟩) rfl (.cons rfl <| .nil) Tryd.call25 (fun w m hK => by have hle_ := KC.le hK; have hA := KC.agree hK; have hM := hM.trans hle_; have hT := tab_keep hT hK.st.ext; have hsB := hsB.mono hle_; exact FnG.mono (sorted_c (r := ⟨ls.reverse, band n 255⟩) hA ⟨_, _, rfl, hsB, hIn⟩ (by show ls.reverse.length ≤ _; rw [List.length_reverse]; omega)) fun _ _ _ _ h => h)) <|
        .consT rfl rfl (fun _ => rfl) rfl (ob_allocL Tryd.zeroValue25 rfl) <|
        .consT rfl rfl (fun _ => rfl) rfl (ob_imgT 11 rfl rfl rfl fun y11 => ob_imgTX 51 rfl rfl rfl fun y51 => ob_storeF rfl rfl rfl rfl rfl Tryd.sizeOf25 rfl rfl rfl) <|
        .nil) ?_
    intro a10 w10 m10 hst10 hle10 hk10
    have hfr10 := hk10.fr (T' := [(8, _), (9, _), (2, _), (6, _), (7, _), (0, _), (1, _), (10, _)]) (.old rfl rfl <| .old rfl rfl <| .old rfl rfl <| .old rfl rfl <| .old rfl rfl <| .old rfl rfl <| .old rfl rfl <| .old rfl rfl <| .nil)
    obtain ⟨g22, e22, _⟩ := hk10.ex 11 rfl
    replace hfr10 := hfr10.cons e22
    replace hst10 := hst10.fin (L' := [_, _, _]) (.cons e22 <| .cons e22 <| .nil)
    obtain ⟨⟨ob, cb⟩, hSb, hst10⟩ := hst10.unx (k := 2) rfl (fun _ => rfl)
    replace h_l := h_l.mono hle10
    replace hcut := hcut.mono hle10
    replace hrow_B := hrow_B.mono hle10
    replace hsB := hsB.mono hle10
    replace hSa := hSa.mono hle10
    have hlh10 := hlh9.trans hle10
    replace hM := hM.trans hle10
    clear hst9 hfr9 hk10
    refine hK21 _ _ ?_; try clear hK21 K21
    refine seq_any fun K24 hK24 => ?_
    obtain ⟨cs_25, hrw_25, hrd_25, hcl_25⟩ := hcut.reads
    replace hst10 := hst10.more (r := .free) trivial List.nodup_nil (by simp [Res.blocks])
    refine region_any (tch := [(2, 3, (fun v => .row (nz v) _ _ _ _))]) (fun h => by cases h) hst10 hfr10 (by kernel_rfl) (by kernel_rfl) (by kernel_rfl) (.cons rfl (ob_buildSlice0 Tryd.underlying23 Tryd.sizeOf9) <|
        .cons rfl (ob_move rfl) <|
        .consT rfl rfl (fun _ => rfl) rfl (ob_imgT 52 rfl rfl rfl fun y52 => ob_appendZ (size := 1) (bytes := 16) rfl rfl (fun _ => .inr ⟨rfl, rfl, rfl, rfl⟩) Tryd.underlying23 Tryd.type9 rfl rfl rfl rfl (fun w m hK => hrw_25.mono (KC.le hK)) hcl_25 (by decide) hrd_25.one (by simp only [maxLen]; omega) (by omega)) <|
        .consA 54 rfl rfl <|
        .nil) ?_
    intro a11 w11 m11 hst11 hle11 hk11
    have hfr11 := hk11.fr (T' := [(8, _), (9, _), (2, _), (6, _), (7, _), (0, _), (1, _), (10, _), (11, _)]) (.old rfl rfl <| .old rfl rfl <| .old rfl rfl <| .old rfl rfl <| .old rfl rfl <| .old rfl rfl <| .old rfl rfl <| .old rfl rfl <| .old rfl rfl <| .nil)
    obtain ⟨⟨oz25, cz25⟩, e26, hrz25, hcz25⟩ := hk11.ex 54 rfl
    replace e26 : envOf a11 54 = .slice oz25 (ls).length cz25 := by rw [e26]; refine congrArg (fun q => Value.slice _ q _) ?_; first | omega | (simp only [List.length_append, List.length_cons, List.length_nil, List.nil_append, List.length_take, List.length_drop]; try omega)
    replace hfr11 := hfr11.cons e26
    replace hfr11 := hfr11.cons (hk11.same 12 rfl e26)
    replace hst11 := hst11.fin (L' := [_, _, _, _]) (.cons e26 <| .nil)
    replace h_l := h_l.mono hle11
    replace hcut := hcut.mono hle11
    replace hrow_B := hrow_B.mono hle11
    replace hsB := hsB.mono hle11
    replace hSa := hSa.mono hle11
    replace hSb := hSb.mono hle11
    replace hrw_25 := hrw_25.mono hle11
    replace hrd_25 := hrd_25.mono hle11
    have hlh11 := hlh10.trans hle11
    replace hM := hM.trans hle11
    clear hst10 hfr10 hk11
    have hsz25 : Strs m11 oz25 (ls).length cz25 ls := Reads.sl (Reads.nil.app hrd_25) hrz25 (by decide) rfl (by have h := hcz25; first | omega | (simp only [List.length_append, List.length_cons, List.length_nil, List.nil_append, List.length_take, List.length_drop] at h ⊢; omega)) (by first | omega | (simp only [List.length_append, List.length_cons, List.length_nil, List.nil_append, List.length_take, List.length_drop]; omega))
    refine hK24 _ _ ?_; try clear hK24 K24
    refine seq_any fun K27 hK27 => ?_
    refine seq_any fun K28 hK28 => ?_
    refine region_plain (fun h => by cases h) hst11 hfr11 (by kernel_rfl) (by kernel_rfl) (.cons rfl (ob_move rfl) <|
        .cons rfl (ob_len rfl Tryd.underlying23) <|
        .cons rfl (ob_gtr rfl rfl) <|
        .nil) ?_
    intro a12 w12 m12 hst12 hle12 hk12
    have hfr12 := hk12.fr (T' := [(8, _), (9, _), (2, _), (6, _), (7, _), (0, _), (1, _), (10, _), (11, _), (12, _), (57, _)]) (.old rfl rfl <| .old rfl rfl <| .old rfl rfl <| .old rfl rfl <| .old rfl rfl <| .old rfl rfl <| .old rfl rfl <| .old rfl rfl <| .old rfl rfl <| .old rfl rfl <| .new rfl <| .nil)
    replace h_l := h_l.mono hle12
    replace hcut := hcut.mono hle12
    replace hrow_B := hrow_B.mono hle12
    replace hsB := hsB.mono hle12
    replace hSa := hSa.mono hle12
    replace hSb := hSb.mono hle12
    replace hrw_25 := hrw_25.mono hle12
    replace hrd_25 := hrd_25.mono hle12
    replace hsz25 := hsz25.mono hle12
    have hlh12 := hlh11.trans hle12
    replace hM := hM.trans hle12
    clear hst11 hfr11 hk12
    refine hK28 _ _ ?_; try clear hK28 K28
    refine cond_any hfr12 rfl rfl (fun hb57 => ?_) (fun hb57 => ?_)
    · try simp only [Bool.not_eq_true', Bool.not_eq_false', decide_eq_true_eq, decide_eq_false_iff_not, Bool.and_eq_true, Bool.or_eq_true, Bool.and_eq_false_iff, Bool.or_eq_false_iff, Bool.not_not, u8_eq] at hb57
      obtain ⟨k, hk1, hk2⟩ : ∃ k : Nat, (band p 255).tmod (ls.length : Int) = (k : Int) ∧ k < ls.length := by have h1 := Int.tmod_nonneg (ls.length : Int) hbp.1; have h2 := Int.tmod_lt_of_pos (band p 255) (show (0 : Int) < (ls.length : Int) by omega); exact ⟨((band p 255).tmod (ls.length : Int)).toNat, by omega, by omega⟩
      refine seq_any fun K29 hK29 => ?_
      refine region_plain (fun h => by cases h) hst12 hfr12 (by kernel_rfl) (by kernel_rfl) (.cons rfl (ob_move rfl) <|
          .cons rfl (ob_band rfl rfl) <|
          .cons rfl (ob_move rfl) <|
          .cons rfl (ob_len rfl Tryd.underlying23) <|
          .cons rfl (ob_rem rfl rfl (by omega)) <|
          .cons rfl (ob_assign rfl) <|
          .nil) ?_
      intro a13 w13 m13 hst13 hle13 hk13
      have hfr13 := hk13.fr (T' := [(8, _), (9, _), (2, _), (6, _), (7, _), (0, _), (1, _), (10, _), (11, _), (12, _), (13, _)]) (.old rfl rfl <| .old rfl rfl <| .old rfl rfl <| .old rfl rfl <| .old rfl rfl <| .old rfl rfl <| .old rfl rfl <| .old rfl rfl <| .old rfl rfl <| .old rfl rfl <| .new rfl <| .nil)
      replace h_l := h_l.mono hle13
      replace hcut := hcut.mono hle13
      replace hrow_B := hrow_B.mono hle13
      replace hsB := hsB.mono hle13
      replace hSa := hSa.mono hle13
      replace hSb := hSb.mono hle13
      replace hrw_25 := hrw_25.mono hle13
      replace hrd_25 := hrd_25.mono hle13
      replace hsz25 := hsz25.mono hle13
      have hlh13 := hlh12.trans hle13
      replace hM := hM.trans hle13
      clear hst12 hfr12 hk13
      rw [hk1] at hfr13
      refine hK29 _ _ ?_; try clear hK29 K29
      refine seq_any fun K30 hK30 => ?_
      obtain ⟨p31, vs31, x31, ho31, hd31, hm_x31, ht31, hcv31, hl31, hv31⟩ := hsz25.nth (k := k) (by omega)
      cases ho31
      subst hv31
      refine region_plain (fun h => by cases h) hst13 hfr13 (by kernel_rfl) (by kernel_rfl) (.cons rfl (ob_move rfl) <|
          .cons rfl (ob_move rfl) <|
          .cons rfl (ob_indexAddr (k := k) rfl rfl Tryd.underlying23 Tryd.sizeOf9 rfl (by omega)) <|
          .cons rfl (ob_load1' rfl hcv31 Tryd.isAgg9 rfl) <|
          .cons rfl (ob_assign rfl) <|
          .nil) ?_
      intro a14 w14 m14 hst14 hle14 hk14
      have hfr14 := hk14.fr (T' := [(8, _), (9, _), (2, _), (6, _), (7, _), (0, _), (1, _), (10, _), (11, _), (12, _), (13, _), (14, _)]) (.old rfl rfl <| .old rfl rfl <| .old rfl rfl <| .old rfl rfl <| .old rfl rfl <| .old rfl rfl <| .old rfl rfl <| .old rfl rfl <| .old rfl rfl <| .old rfl rfl <| .old rfl rfl <| .new rfl <| .nil)
      replace h_l := h_l.mono hle14
      replace hcut := hcut.mono hle14
      replace hrow_B := hrow_B.mono hle14
      replace hsB := hsB.mono hle14
      replace hSa := hSa.mono hle14
      replace hSb := hSb.mono hle14
      replace hrw_25 := hrw_25.mono hle14
      replace hrd_25 := hrd_25.mono hle14
      replace hsz25 := hsz25.mono hle14
      replace hcv31 := hcv31.mono hle14
      have hlh14 := hlh13.trans hle14
      replace hM := hM.trans hle14
      clear hst13 hfr13 hk14
      refine hK30 _ _ ?_; try clear hK30 K30
      have hct32 : Strs _ _ _ _ ((ls.take (k)).drop (0)) := hsz25.cut (l := 0) (k := k) (by omega) (by omega)
      obtain ⟨cs_33, hrw_33, hrd_33, hcl_33⟩ := hct32.reads
      have hct34 : Strs _ _ _ _ ((ls.take (ls.length)).drop (k + 1)) := hsz25.cut (l := k + 1) (k := ls.length) (by omega) (by omega)
      obtain ⟨cs_35, hrw_35, hrd_35, hcl_35⟩ := hct34.reads
      replace hst14 := hst14.more (r := .free) trivial List.nodup_nil (by simp [Res.blocks])
      refine region_any (tch := [(1, 4, (fun v => .row (nz v) _ _ _ _)), (5, 4, (fun v => .row (nz v) _ _ _ _)), (10, 4, (fun v => .row (nz v) _ _ _ _))]) (fun _ => mixed) hst14 hfr14 (by kernel_rfl) (by kernel_rfl) (by kernel_rfl) (.cons rfl (ob_move rfl) <|
          .consT rfl rfl (fun _ => rfl) rfl (ob_buildSliceR (.cons rfl <| .nil) Tryd.underlying23 Tryd.sizeOf9 Tryd.zeroValue9 rfl rfl rfl rfl rfl) <|
          .cons rfl (ob_move rfl) <|
          .cons rfl (ob_move rfl) <|
          .cons rfl (ob_slice rfl .none (.some rfl (by omega)) Tryd.underlying23 Tryd.sizeOf9 (by omega) (by omega)) <|
          .consT rfl rfl (fun _ => rfl) rfl (ob_imgT 68 rfl rfl rfl fun y68 => ob_appendZ (size := 1) (bytes := 16) rfl rfl (fun _ => .inl rfl) Tryd.underlying23 Tryd.type9 rfl rfl rfl rfl (fun w m hK => hrw_33.mono (KC.le hK)) hcl_33 (by decide) hrd_33.one (by simp only [maxLen]; omega) (by omega)) <|
          .cons rfl (ob_move rfl) <|
          .cons rfl (ob_move rfl) <|
          .cons rfl (ob_add rfl rfl ⟨by omega, by omega⟩) <|
          .cons rfl (ob_slice rfl (.some rfl (by omega)) .none Tryd.underlying23 Tryd.sizeOf9 (by omega) (by omega)) <|
          .consT rfl rfl (fun _ => rfl) rfl (ob_imgT 72 rfl rfl rfl fun y72 => ob_appendZ (size := 1) (bytes := 16) rfl rfl (fun _ => .inl rfl) Tryd.underlying23 Tryd.type9 rfl rfl rfl rfl (fun w m hK => hrw_35.mono (KC.le hK)) hcl_35 (by decide) hrd_35.one (by simp only [maxLen]; omega) (by omega)) <|
          .consA 77 rfl rfl <|
          .nil) ?_
      intro a15 w15 m15 hst15 hle15 hk15
      have hfr15 := hk15.fr (T' := [(8, _), (9, _), (2, _), (6, _), (7, _), (0, _), (1, _), (10, _), (11, _), (13, _), (14, _)]) (.old rfl rfl <| .old rfl rfl <| .old rfl rfl <| .old rfl rfl <| .old rfl rfl <| .old rfl rfl <| .old rfl rfl <| .old rfl rfl <| .old rfl rfl <| .old rfl rfl <| .old rfl rfl <| .nil)
      obtain ⟨gz68, e36, _⟩ := hk15.ex 68 rfl
      replace hfr15 := hfr15.cons e36
      obtain ⟨⟨oz33, cz33⟩, e37, hrz33, hcz33⟩ := hk15.ex 72 rfl
      replace e37 : envOf a15 72 = .slice oz33 (([x31] ++ ((ls.take (k)).drop (0)))).length cz33 := by rw [e37]; refine congrArg (fun q => Value.slice _ q _) ?_; first | omega | (simp only [List.length_append, List.length_cons, List.length_nil, List.nil_append, List.length_take, List.length_drop]; try omega)
      replace hfr15 := hfr15.cons e37
      obtain ⟨⟨oz35, cz35⟩, e38, hrz35, hcz35⟩ := hk15.ex 77 rfl
      replace e38 : envOf a15 77 = .slice oz35 ((([x31] ++ ((ls.take (k)).drop (0))) ++ ((ls.take (ls.length)).drop (k + 1)))).length cz35 := by rw [e38]; refine congrArg (fun q => Value.slice _ q _) ?_; first | omega | (simp only [List.length_append, List.length_cons, List.length_nil, List.nil_append, List.length_take, List.length_drop]; try omega)
      replace hfr15 := hfr15.cons e38
      replace hfr15 := hfr15.cons (hk15.same 12 rfl e38)
      replace hst15 := hst15.fin (L' := [_, _, _, _, _]) (.cons e36 <| .cons e37 <| .cons e38 <| .nil)
      replace h_l := h_l.mono hle15
      replace hcut := hcut.mono hle15
      replace hrow_B := hrow_B.mono hle15
      replace hsB := hsB.mono hle15
      replace hSa := hSa.mono hle15
      replace hSb := hSb.mono hle15
      replace hrw_25 := hrw_25.mono hle15
      replace hrd_25 := hrd_25.mono hle15
      replace hsz25 := hsz25.mono hle15
      replace hcv31 := hcv31.mono hle15
      replace hct32 := hct32.mono hle15
      replace hrw_33 := hrw_33.mono hle15
      replace hrd_33 := hrd_33.mono hle15
      replace hct34 := hct34.mono hle15
      replace hrw_35 := hrw_35.mono hle15
      replace hrd_35 := hrd_35.mono hle15
      have hlh15 := hlh14.trans hle15
      replace hM := hM.trans hle15
      clear hst14 hfr14 hk15
      have hsz35 : Strs m15 oz35 ((([x31] ++ ((ls.take (k)).drop (0))) ++ ((ls.take (ls.length)).drop (k + 1)))).length cz35 (([x31] ++ ((ls.take (k)).drop (0))) ++ ((ls.take (ls.length)).drop (k + 1))) := Reads.sl (((Reads.single (vs := [_]) rfl rfl).app hrd_33).app hrd_35) hrz35 (by decide) rfl (by have h := hcz35; first | omega | (simp only [List.length_append, List.length_cons, List.length_nil, List.nil_append, List.length_take, List.length_drop] at h ⊢; omega)) (by first | omega | (simp only [List.length_append, List.length_cons, List.length_nil, List.nil_append, List.length_take, List.length_drop]; omega))
      have hmp : sortS (([x31] ++ ((ls.take k).drop 0)) ++ ((ls.take ls.length).drop (k + 1))) = sortS ls := sortS_of_perm (moved_perm hk2 hd31)
      have hml : ((([x31] ++ ((ls.take k).drop 0)) ++ ((ls.take ls.length).drop (k + 1)))).length ≤ 30 := by rw [(moved_perm hk2 hd31).length_eq]; omega
      refine hK27 _ _ ?_; try clear hK27 K27
      refine seq_any fun K39 hK39 => ?_
      replace hst15 := hst15.more (r := .free) trivial List.nodup_nil (by simp [Res.blocks])
      refine region_any (tch := [(4, 5, (fun v => .blk v _)), (5, 5, (fun v => .blkx v _ _))]) (fun h => by cases h) hst15 hfr15 (by kernel_rfl) (by kernel_rfl) (by kernel_rfl) (.cons rfl (ob_move rfl) <|
          .cons rfl (ob_move rfl) <|
          .cons rfl (ob_buildS (.cons rfl <| .cons rfl <| .nil) Tryd.underlying25 Tryd.zeroValue25 (.cons Tryd.sizeOf23 <| .cons Tryd.sizeOf3 <| .nil) rfl) <|
          .cons rfl (ob_call (φ := MP.rw ⟨sortS (([x31] ++ ((ls.take k).drop 0)) ++ ((ls.take ls.length).drop (k + 1))), band n 255⟩) rfl (.cons rfl <| .nil) Tryd.call25 (fun w m hK => by have hle_ := KC.le hK; have hA := KC.agree hK; have hM := hM.trans hle_; have hT := tab_keep hT hK.st.ext; have hsz35 := hsz35.mono hle_; exact FnG.mono (sorted_c (r := ⟨(([x31] ++ ((ls.take k).drop 0)) ++ ((ls.take ls.length).drop (k + 1))), band n 255⟩) hA ⟨_, _, rfl, hsz35, hIn⟩ (by show ((([x31] ++ ((ls.take k).drop 0)) ++ ((ls.take ls.length).drop (k + 1)))).length ≤ _; omega)) fun _ _ _ _ h => h)) <|
          .consT rfl rfl (fun _ => rfl) rfl (ob_allocL Tryd.zeroValue25 rfl) <|
          .consT rfl rfl (fun _ => rfl) rfl (ob_imgT 15 rfl rfl rfl fun y15 => ob_imgTX 81 rfl rfl rfl fun y81 => ob_storeF rfl rfl rfl rfl rfl Tryd.sizeOf25 rfl rfl rfl) <|
          .nil) ?_
      intro a16 w16 m16 hst16 hle16 hk16
      have hfr16 := hk16.fr (T' := [(8, _), (9, _), (2, _), (6, _), (7, _), (0, _), (1, _), (10, _), (11, _), (13, _), (14, _), (12, _)]) (.old rfl rfl <| .old rfl rfl <| .old rfl rfl <| .old rfl rfl <| .old rfl rfl <| .old rfl rfl <| .old rfl rfl <| .old rfl rfl <| .old rfl rfl <| .old rfl rfl <| .old rfl rfl <| .old rfl rfl <| .nil)
      obtain ⟨g40, e40, _⟩ := hk16.ex 15 rfl
      replace hfr16 := hfr16.cons e40
      replace hst16 := hst16.fin (L' := [_, _, _, _, _, _]) (.cons e40 <| .cons e40 <| .nil)
      obtain ⟨⟨oc, cc⟩, hSc, hst16⟩ := hst16.unx (k := 5) rfl (fun _ => rfl)
      replace h_l := h_l.mono hle16
      replace hcut := hcut.mono hle16
      replace hrow_B := hrow_B.mono hle16
      replace hsB := hsB.mono hle16
      replace hSa := hSa.mono hle16
      replace hSb := hSb.mono hle16
      replace hrw_25 := hrw_25.mono hle16
      replace hrd_25 := hrd_25.mono hle16
      replace hsz25 := hsz25.mono hle16
      replace hcv31 := hcv31.mono hle16
      replace hct32 := hct32.mono hle16
      replace hrw_33 := hrw_33.mono hle16
      replace hrd_33 := hrd_33.mono hle16
      replace hct34 := hct34.mono hle16
      replace hrw_35 := hrw_35.mono hle16
      replace hrd_35 := hrd_35.mono hle16
      replace hsz35 := hsz35.mono hle16
      have hlh16 := hlh15.trans hle16
      replace hM := hM.trans hle16
      clear hst15 hfr15 hk16
      refine hK39 _ _ ?_; try clear hK39 K39
      refine seq_any fun K42 hK42 => ?_
      refine region_plain (fun _ => mixed) hst16 hfr16 (by kernel_rfl) (by kernel_rfl) (.cons rfl (ob_move rfl) <|
          .cons rfl (ob_move rfl) <|
          .cons rfl (ob_loadLS' (j := 1) rfl rfl Tryd.isAgg25 Tryd.sizeOf25 rfl rfl) <|
          .cons rfl (ob_callE rfl (.cons rfl <| .nil) Tryd.call19 (fun w m hK => by have hle_ := KC.le hK; have hA := KC.agree hK; have hM := hM.trans hle_; have hT := tab_keep hT hK.st.ext; have hSa := hSa.mono hle_; exact rightrow_c (r := ⟨sortS ls, band n 255⟩) hA hSa)) <|
          .cons rfl (ob_and rfl rfl rfl) <|
          .cons rfl (ob_move rfl) <|
          .cons rfl (ob_loadLS' (j := 1) rfl rfl Tryd.isAgg25 Tryd.sizeOf25 rfl rfl) <|
          .cons rfl (ob_loadLS' (j := 2) rfl rfl Tryd.isAgg25 Tryd.sizeOf25 rfl rfl) <|
          .cons rfl (ob_callE rfl (.cons rfl <| .cons rfl <| .nil) Tryd.call26 (fun w m hK => by have hle_ := KC.le hK; have hA := KC.agree hK; have hM := hM.trans hle_; have hT := tab_keep hT hK.st.ext; have hSa := hSa.mono hle_; have hSb := hSb.mono hle_; exact samerow_c (a := ⟨sortS ls, band n 255⟩) (b := ⟨sortS ls.reverse, band n 255⟩) hA hSa hSb)) <|
          .cons rfl (ob_and rfl rfl rfl) <|
          .cons rfl (ob_move rfl) <|
          .cons rfl (ob_loadLS' (j := 1) rfl rfl Tryd.isAgg25 Tryd.sizeOf25 rfl rfl) <|
          .cons rfl (ob_loadLS' (j := 5) rfl rfl Tryd.isAgg25 Tryd.sizeOf25 rfl rfl) <|
          .cons rfl (ob_callE rfl (.cons rfl <| .cons rfl <| .nil) Tryd.call26 (fun w m hK => by have hle_ := KC.le hK; have hA := KC.agree hK; have hM := hM.trans hle_; have hT := tab_keep hT hK.st.ext; have hSa := hSa.mono hle_; have hSc := hSc.mono hle_; exact samerow_c (a := ⟨sortS ls, band n 255⟩) (b := ⟨sortS (([x31] ++ ((ls.take k).drop 0)) ++ ((ls.take ls.length).drop (k + 1))), band n 255⟩) hA hSa hSc)) <|
          .cons rfl (ob_and rfl rfl rfl) <|
          .cons rfl (ob_move rfl) <|
          .cons rfl (ob_loadLS' (j := 1) rfl rfl Tryd.isAgg25 Tryd.sizeOf25 rfl rfl) <|
          .cons rfl (ob_call (φ := MP.rw ⟨sortS (sortS ls), band n 255⟩) rfl (.cons rfl <| .nil) Tryd.call25 (fun w m hK => by have hle_ := KC.le hK; have hA := KC.agree hK; have hM := hM.trans hle_; have hT := tab_keep hT hK.st.ext; have hSa := hSa.mono hle_; exact FnG.mono (sorted_c (r := ⟨sortS ls, band n 255⟩) hA hSa (by simp only [sortS_len]; omega)) fun _ _ _ _ h => h)) <|
          .cons rfl (ob_loadLS' (j := 1) rfl rfl Tryd.isAgg25 Tryd.sizeOf25 rfl rfl) <|
          .cons rfl (ob_imgE 99 rfl rfl rfl fun y99 => ob_callE rfl (.cons rfl <| .cons rfl <| .nil) Tryd.call26 (fun w m hK => by have hle_ := KC.le hK; have hA := KC.agree hK; have hM := hM.trans hle_; have hT := tab_keep hT hK.1.st.ext; have hr0_ := hK.2; have hSa := hSa.mono hle_; exact samerow_c (a := ⟨sortS (sortS ls), band n 255⟩) (b := ⟨sortS ls, band n 255⟩) hA hr0_ hSa)) <|
          .cons rfl (ob_and rfl rfl rfl) <|
          .cons rfl (ob_move rfl) <|
          .cons rfl (ob_fieldAddr rfl Tryd.underlying25 rfl Tryd.sizeOf23 rfl) <|
          .cons rfl (ob_loadL (j := 1) rfl rfl Tryd.isAgg23 rfl) <|
          .cons rfl (ob_len rfl Tryd.underlying23) <|
          .cons rfl (ob_move rfl) <|
          .cons rfl (ob_len rfl Tryd.underlying23) <|
          .cons rfl (ob_eql rfl rfl) <|
          .cons rfl (ob_and rfl rfl rfl) <|
          .cons rfl (ob_assign rfl) <|
          .nil) ?_
      intro a17 w17 m17 hst17 hle17 hk17
      have hfr17 := hk17.fr (T' := [(8, _), (9, _), (2, _), (7, _), (0, _), (1, _), (10, _), (11, _), (13, _), (14, _), (12, _), (15, _), (6, _)]) (.old rfl rfl <| .old rfl rfl <| .old rfl rfl <| .old rfl rfl <| .old rfl rfl <| .old rfl rfl <| .old rfl rfl <| .old rfl rfl <| .old rfl rfl <| .old rfl rfl <| .old rfl rfl <| .old rfl rfl <| .new rfl <| .nil)
      replace h_l := h_l.mono hle17
      replace hcut := hcut.mono hle17
      replace hrow_B := hrow_B.mono hle17
      replace hsB := hsB.mono hle17
      replace hSa := hSa.mono hle17
      replace hSb := hSb.mono hle17
      replace hrw_25 := hrw_25.mono hle17
      replace hrd_25 := hrd_25.mono hle17
      replace hsz25 := hsz25.mono hle17
      replace hcv31 := hcv31.mono hle17
      replace hct32 := hct32.mono hle17
      replace hrw_33 := hrw_33.mono hle17
      replace hrd_33 := hrd_33.mono hle17
      replace hct34 := hct34.mono hle17
      replace hrw_35 := hrw_35.mono hle17
      replace hrd_35 := hrd_35.mono hle17
      replace hsz35 := hsz35.mono hle17
      replace hSc := hSc.mono hle17
      have hlh17 := hlh16.trans hle17
      replace hM := hM.trans hle17
      clear hst16 hfr16 hk17
      refine hK42 _ _ ?_; try clear hK42 K42
      refine wp_ret ?_
      repeat (with_reducible first | refine then_ret ?_ | refine block_ret ?_)
      exact fn_ret hst17 hfr17 rfl (.tmp rfl <| .nil) (by refine congrArg Value.bool ?_; have hq1 : rowOk (sortS ls) (band n 255) = true := (by unfold rowOk; simp [hbn.1, sortS_sorted, sortS_mem, hno]); rw [hq1, hmp, sortS_of_perm ls.reverse_perm, sortS_id (sortS_sorted ls), sortS_len]; simp)
    · try simp only [Bool.not_eq_true', Bool.not_eq_false', decide_eq_true_eq, decide_eq_false_iff_not, Bool.and_eq_true, Bool.or_eq_true, Bool.and_eq_false_iff, Bool.or_eq_false_iff, Bool.not_not, u8_eq] at hb57
      have hmp : sortS ls = sortS ls := rfl
      have hml : (ls).length ≤ 30 := by omega
      refine wp_skip ?_
      refine hK27 _ _ ?_; try clear hK27 K27
      refine seq_any fun K44 hK44 => ?_
      replace hst12 := hst12.more (r := .free) trivial List.nodup_nil (by simp [Res.blocks])
      refine region_any (tch := [(4, 4, (fun v => .blk v _)), (5, 4, (fun v => .blkx v _ _))]) (fun h => by cases h) hst12 hfr12 (by kernel_rfl) (by kernel_rfl) (by kernel_rfl) (.cons rfl (ob_move rfl) <|
          .cons rfl (ob_move rfl) <|
          .cons rfl (ob_buildS (.cons rfl <| .cons rfl <| .nil) Tryd.underlying25 Tryd.zeroValue25 (.cons Tryd.sizeOf23 <| .cons Tryd.sizeOf3 <| .nil) rfl) <|
          .cons rfl (ob_call (φ := MP.rw ⟨sortS ls, band n 255⟩) rfl (.cons rfl <| .nil) Tryd.call25 (fun w m hK => by have hle_ := KC.le hK; have hA := KC.agree hK; have hM := hM.trans hle_; have hT := tab_keep hT hK.st.ext; have hsz25 := hsz25.mono hle_; exact FnG.mono (sorted_c (r := ⟨ls, band n 255⟩) hA ⟨_, _, rfl, hsz25, hIn⟩ (by show (ls).length ≤ _; omega)) fun _ _ _ _ h => h)) <|
          .consT rfl rfl (fun _ => rfl) rfl (ob_allocL Tryd.zeroValue25 rfl) <|
          .consT rfl rfl (fun _ => rfl) rfl (ob_imgT 15 rfl rfl rfl fun y15 => ob_imgTX 81 rfl rfl rfl fun y81 => ob_storeF rfl rfl rfl rfl rfl Tryd.sizeOf25 rfl rfl rfl) <|
          .nil) ?_
      intro a13 w13 m13 hst13 hle13 hk13
      have hfr13 := hk13.fr (T' := [(8, _), (9, _), (2, _), (6, _), (7, _), (0, _), (1, _), (10, _), (11, _), (12, _)]) (.old rfl rfl <| .old rfl rfl <| .old rfl rfl <| .old rfl rfl <| .old rfl rfl <| .old rfl rfl <| .old rfl rfl <| .old rfl rfl <| .old rfl rfl <| .old rfl rfl <| .nil)
      obtain ⟨g45, e45, _⟩ := hk13.ex 15 rfl
      replace hfr13 := hfr13.cons e45
      replace hst13 := hst13.fin (L' := [_, _, _, _, _]) (.cons e45 <| .cons e45 <| .nil)
      obtain ⟨⟨oc, cc⟩, hSc, hst13⟩ := hst13.unx (k := 4) rfl (fun _ => rfl)
      replace h_l := h_l.mono hle13
      replace hcut := hcut.mono hle13
      replace hrow_B := hrow_B.mono hle13
      replace hsB := hsB.mono hle13
      replace hSa := hSa.mono hle13
      replace hSb := hSb.mono hle13
      replace hrw_25 := hrw_25.mono hle13
      replace hrd_25 := hrd_25.mono hle13
      replace hsz25 := hsz25.mono hle13
      have hlh13 := hlh12.trans hle13
      replace hM := hM.trans hle13
      clear hst12 hfr12 hk13
      refine hK44 _ _ ?_; try clear hK44 K44
      refine seq_any fun K47 hK47 => ?_
      refine region_plain (fun _ => mixed) hst13 hfr13 (by kernel_rfl) (by kernel_rfl) (.cons rfl (ob_move rfl) <|
          .cons rfl (ob_move rfl) <|
          .cons rfl (ob_loadLS' (j := 1) rfl rfl Tryd.isAgg25 Tryd.sizeOf25 rfl rfl) <|
          .cons rfl (ob_callE rfl (.cons rfl <| .nil) Tryd.call19 (fun w m hK => by have hle_ := KC.le hK; have hA := KC.agree hK; have hM := hM.trans hle_; have hT := tab_keep hT hK.st.ext; have hSa := hSa.mono hle_; exact rightrow_c (r := ⟨sortS ls, band n 255⟩) hA hSa)) <|
          .cons rfl (ob_and rfl rfl rfl) <|
          .cons rfl (ob_move rfl) <|
          .cons rfl (ob_loadLS' (j := 1) rfl rfl Tryd.isAgg25 Tryd.sizeOf25 rfl rfl) <|
          .cons rfl (ob_loadLS' (j := 2) rfl rfl Tryd.isAgg25 Tryd.sizeOf25 rfl rfl) <|
          .cons rfl (ob_callE rfl (.cons rfl <| .cons rfl <| .nil) Tryd.call26 (fun w m hK => by have hle_ := KC.le hK; have hA := KC.agree hK; have hM := hM.trans hle_; have hT := tab_keep hT hK.st.ext; have hSa := hSa.mono hle_; have hSb := hSb.mono hle_; exact samerow_c (a := ⟨sortS ls, band n 255⟩) (b := ⟨sortS ls.reverse, band n 255⟩) hA hSa hSb)) <|
          .cons rfl (ob_and rfl rfl rfl) <|
          .cons rfl (ob_move rfl) <|
          .cons rfl (ob_loadLS' (j := 1) rfl rfl Tryd.isAgg25 Tryd.sizeOf25 rfl rfl) <|
          .cons rfl (ob_loadLS' (j := 4) rfl rfl Tryd.isAgg25 Tryd.sizeOf25 rfl rfl) <|
          .cons rfl (ob_callE rfl (.cons rfl <| .cons rfl <| .nil) Tryd.call26 (fun w m hK => by have hle_ := KC.le hK; have hA := KC.agree hK; have hM := hM.trans hle_; have hT := tab_keep hT hK.st.ext; have hSa := hSa.mono hle_; have hSc := hSc.mono hle_; exact samerow_c (a := ⟨sortS ls, band n 255⟩) (b := ⟨sortS ls, band n 255⟩) hA hSa hSc)) <|
          .cons rfl (ob_and rfl rfl rfl) <|
          .cons rfl (ob_move rfl) <|
          .cons rfl (ob_loadLS' (j := 1) rfl rfl Tryd.isAgg25 Tryd.sizeOf25 rfl rfl) <|
          .cons rfl (ob_call (φ := MP.rw ⟨sortS (sortS ls), band n 255⟩) rfl (.cons rfl <| .nil) Tryd.call25 (fun w m hK => by have hle_ := KC.le hK; have hA := KC.agree hK; have hM := hM.trans hle_; have hT := tab_keep hT hK.st.ext; have hSa := hSa.mono hle_; exact FnG.mono (sorted_c (r := ⟨sortS ls, band n 255⟩) hA hSa (by simp only [sortS_len]; omega)) fun _ _ _ _ h => h)) <|
          .cons rfl (ob_loadLS' (j := 1) rfl rfl Tryd.isAgg25 Tryd.sizeOf25 rfl rfl) <|
          .cons rfl (ob_imgE 99 rfl rfl rfl fun y99 => ob_callE rfl (.cons rfl <| .cons rfl <| .nil) Tryd.call26 (fun w m hK => by have hle_ := KC.le hK; have hA := KC.agree hK; have hM := hM.trans hle_; have hT := tab_keep hT hK.1.st.ext; have hr0_ := hK.2; have hSa := hSa.mono hle_; exact samerow_c (a := ⟨sortS (sortS ls), band n 255⟩) (b := ⟨sortS ls, band n 255⟩) hA hr0_ hSa)) <|
          .cons rfl (ob_and rfl rfl rfl) <|
          .cons rfl (ob_move rfl) <|
          .cons rfl (ob_fieldAddr rfl Tryd.underlying25 rfl Tryd.sizeOf23 rfl) <|
          .cons rfl (ob_loadL (j := 1) rfl rfl Tryd.isAgg23 rfl) <|
          .cons rfl (ob_len rfl Tryd.underlying23) <|
          .cons rfl (ob_move rfl) <|
          .cons rfl (ob_len rfl Tryd.underlying23) <|
          .cons rfl (ob_eql rfl rfl) <|
          .cons rfl (ob_and rfl rfl rfl) <|
          .cons rfl (ob_assign rfl) <|
          .nil) ?_
      intro a14 w14 m14 hst14 hle14 hk14
      have hfr14 := hk14.fr (T' := [(8, _), (9, _), (2, _), (7, _), (0, _), (1, _), (10, _), (11, _), (12, _), (15, _), (6, _)]) (.old rfl rfl <| .old rfl rfl <| .old rfl rfl <| .old rfl rfl <| .old rfl rfl <| .old rfl rfl <| .old rfl rfl <| .old rfl rfl <| .old rfl rfl <| .old rfl rfl <| .new rfl <| .nil)
      replace h_l := h_l.mono hle14
      replace hcut := hcut.mono hle14
      replace hrow_B := hrow_B.mono hle14
      replace hsB := hsB.mono hle14
      replace hSa := hSa.mono hle14
      replace hSb := hSb.mono hle14
      replace hrw_25 := hrw_25.mono hle14
      replace hrd_25 := hrd_25.mono hle14
      replace hsz25 := hsz25.mono hle14
      replace hSc := hSc.mono hle14
      have hlh14 := hlh13.trans hle14
      replace hM := hM.trans hle14
      clear hst13 hfr13 hk14
      refine hK47 _ _ ?_; try clear hK47 K47
      refine wp_ret ?_
      repeat (with_reducible first | refine then_ret ?_ | refine block_ret ?_)
      exact fn_ret hst14 hfr14 rfl (.tmp rfl <| .nil) (by refine congrArg Value.bool ?_; have hq1 : rowOk (sortS ls) (band n 255) = true := (by unfold rowOk; simp [hbn.1, sortS_sorted, sortS_mem, hno]); rw [hq1, hmp, sortS_of_perm ls.reverse_perm, sortS_id (sortS_sorted ls), sortS_len]; simp)

end Go.Proofs.YtembdjghbphcdaaDoor
