/-
  'brocadelaw04': the walk of the law. Conditions: those of each theorem.
-/
import Derived.Test.YtembdjghbphcdaaDoorShown1
import Derived.Test.YtembdjghbphcdaaDoorRows4
import Derived.Test.YtembdjghbphcdaaDoorTyapp
namespace Go.Proofs.YtembdjghbphcdaaDoor
set_option linter.all false
set_option maxRecDepth 4000
open Go.RowKit
open Go.Lib (itoa decDigits)
theorem rowOk_iff {ls : List Str} {rv : Int} : rowOk ls rv = true ↔ 0 ≤ rv ∧ isSortedS ls = true ∧ ¬ [] ∈ ls := by
  unfold rowOk; simp [and_assoc]
theorem rowOk_add {ls : List Str} {rv : Int} {s : Str} (h : rowOk ls rv = true) (hs : s ≠ []) : rowOk (sortS (ls ++ [s])) rv = true := by
  rw [rowOk_iff] at h ⊢
  refine ⟨h.1, sortS_sorted _, fun hm => ?_⟩
  rw [sortS_mem, List.mem_append, List.mem_singleton] at hm
  rcases hm with hm | hm
  · exact h.2.2 hm
  · exact hs hm.symm
theorem any_perm {p : Str → Bool} {l k : List Str} (h : l.Perm k) : l.any p = k.any p := by
  rw [Bool.eq_iff_iff, List.any_eq_true, List.any_eq_true]
  exact ⟨fun ⟨x, hx, hp⟩ => ⟨x, h.mem_iff.1 hx, hp⟩, fun ⟨x, hx, hp⟩ => ⟨x, h.mem_iff.2 hx, hp⟩⟩
theorem calm_add (ls : List Str) (rv : Int) (s : Str) : calmS (sortS (ls ++ [s])) rv = (calmS ls rv && decide (s = consoleS)) := by
  unfold calmS
  rw [any_perm (sortS_perm _), List.any_append]
  simp [Bool.and_assoc]

set_option maxHeartbeats 400000 in
theorem typesLabels_c {w : World} {m : Mem} {r : Rw} {vs_r : List Value} {s : Str} (hA : Agree w m) (h_r : RwR m r vs_r) (hT : Tab w) : FnV Tryd.prog 9 #[.agg vs_r.toArray, S s] w m (fun _ _ v => v = .bool true) := by
  obtain ⟨o_r, c_r, rfl, hs_r, hr_r⟩ := h_r.open_
  have hbs_r := hs_r.big; have hcs_r := hs_r.cap
  refine fn_enter (vs := [_, _]) Tryd.func9 rfl rfl rfl fun a0 hfr0 => ?_
  have hst0 := st_enter hA (loc_nil [] _ w m)
  have hM : MLe m m := MLe.refl m
  have emin : (if (100 : Int) < (r.labels.length : Int) then (100 : Int) else (r.labels.length : Int)) = ((min r.labels.length 100 : Nat) : Int) := by split <;> omega
  refine seq_any fun K1 hK1 => ?_
  replace hst0 := hst0.more (r := .free) trivial List.nodup_nil (by simp [Res.blocks])
  refine region_any (tch := [(0, 0, (fun v => .blk v _))]) (fun h => by cases h) hst0 hfr0 (by kernel_rfl) (by kernel_rfl) (by kernel_rfl) (.consT rfl rfl (fun _ => rfl) rfl (ob_boxL rfl rfl) <|
      .cons rfl (ob_assign rfl) <|
      .nil) ?_
  intro a1 w1 m1 hst1 hle1 hk1
  have hfr1 := hk1.fr (T' := [(0, _), (1, _), (4, _)]) (.old rfl rfl <| .old rfl rfl <| .new rfl <| .nil)
  obtain ⟨g2, e2, _⟩ := hk1.ex 2 rfl
  replace hfr1 := hfr1.cons e2
  replace hst1 := hst1.fin (L' := [_]) (.cons e2 <| .nil)
  replace h_r := h_r.mono hle1
  replace hs_r := hs_r.mono hle1
  replace hM := hM.trans hle1
  clear hst0 hfr0 hk1
  refine hK1 _ _ ?_; try clear hK1 K1
  refine seq_any fun K3 hK3 => ?_
  refine region_plain (fun h => by cases h) hst1 hfr1 (by kernel_rfl) (by kernel_rfl) (.cons rfl (ob_callE rfl (.nil) Tryd.call11 (fun w m hK => by have hle_ := KC.le hK; have hA := KC.agree hK; have hM := hM.trans hle_; have hT := tab_keep hT hK.st.ext; have h_r := h_r.mono hle_; have hs_r := hs_r.mono hle_; exact shown_c hA (by first | assumption | omega | simp_all))) <|
      .cons rfl (ob_assign rfl) <|
      .nil) ?_
  intro a2 w2 m2 hst2 hle2 hk2
  have hfr2 := hk2.fr (T' := [(0, _), (1, _), (4, _), (2, _), (5, _)]) (.old rfl rfl <| .old rfl rfl <| .old rfl rfl <| .old rfl rfl <| .new rfl <| .nil)
  replace h_r := h_r.mono hle2
  replace hs_r := hs_r.mono hle2
  replace hM := hM.trans hle2
  clear hst1 hfr1 hk2
  refine hK3 _ _ ?_; try clear hK3 K3
  refine seq_any fun K4 hK4 => ?_
  refine region_any (tch := [(8, 0, (fun _ => .blk _ _))]) (fun h => by cases h) hst2 hfr2 (by kernel_rfl) (by kernel_rfl) (by kernel_rfl) (.cons rfl (ob_fieldAddr rfl Tryd.underlying25 rfl Tryd.sizeOf23 rfl) <|
      .cons rfl (ob_loadL (j := 0) rfl rfl Tryd.isAgg23 rfl) <|
      .cons rfl (ob_fieldAddr rfl Tryd.underlying25 rfl Tryd.sizeOf23 rfl) <|
      .cons rfl (ob_loadL (j := 0) rfl rfl Tryd.isAgg23 rfl) <|
      .cons rfl (ob_len rfl Tryd.underlying23) <|
      .cons rfl (ob_min2 rfl rfl) <|
      .cons rfl (ob_slice rfl .none (.some rfl emin) Tryd.underlying23 Tryd.sizeOf9 (by omega) (by omega)) <|
      .cons rfl (ob_fieldAddr rfl Tryd.underlying25 rfl Tryd.sizeOf23 rfl) <|
      .consT rfl rfl (fun _ => rfl) rfl (ob_store rfl rfl rfl Tryd.sizeOf23 rfl rfl rfl) <|
      .nil) ?_
  intro a3 w3 m3 hst3 hle3 hk3
  have hfr3 := hk3.fr (T' := [(0, _), (1, _), (4, _), (2, _), (5, _)]) (.old rfl rfl <| .old rfl rfl <| .old rfl rfl <| .old rfl rfl <| .old rfl rfl <| .nil)
  replace hst3 := hst3.fin (L' := [_]) (.cons rfl <| .nil)
  replace h_r := h_r.mono hle3
  replace hs_r := hs_r.mono hle3
  replace hM := hM.trans hle3
  clear hst2 hfr2 hk3
  have hcut : Strs _ _ _ _ _ := hs_r.cut (l := 0) (k := min r.labels.length 100) (Nat.zero_le _) (Nat.min_le_left _ _)
  have hlk : min r.labels.length 100 - 0 = ((r.labels.take (min r.labels.length 100)).drop 0).length := by simp
  have hl99 : ((r.labels.take (min r.labels.length 100)).drop 0).length ≤ 100 := by rw [← hlk]; omega
  generalize (r.labels.take (min r.labels.length 100)).drop 0 = ls at hlk hcut hl99
  rw [hlk] at hcut hst3
  generalize (if c_r = 0 then o_r else o_r.map (·.add (0 * 1))) = oq at hcut hst3
  generalize c_r - 0 = cq at hcut hst3
  have hrw2 : RwR _ ⟨ls, r.var⟩ _ := ⟨_, _, rfl, hcut, hr_r⟩
  refine hK4 _ _ ?_; try clear hK4 K4
  refine seq_any fun K5 hK5 => ?_
  refine seq_any fun K6 hK6 => ?_
  refine region_plain (fun h => by cases h) hst3 hfr3 (by kernel_rfl) (by kernel_rfl) (.cons rfl (ob_loadLS' (j := 0) rfl rfl Tryd.isAgg25 Tryd.sizeOf25 rfl rfl) <|
      .cons rfl (ob_callE rfl (.cons rfl <| .nil) Tryd.call19 (fun w m hK => by have hle_ := KC.le hK; have hA := KC.agree hK; have hM := hM.trans hle_; have hT := tab_keep hT hK.st.ext; have hrw2 := hrw2.mono hle_; exact rightrow_c (r := ⟨ls, r.var⟩) hA hrw2)) <|
      .cons rfl (ob_not rfl) <|
      .cons rfl (ob_move rfl) <|
      .cons rfl (ob_move rfl) <|
      .cons rfl (ob_seql rfl rfl) <|
      .cons rfl (ob_or rfl rfl rfl) <|
      .nil) ?_
  intro a4 w4 m4 hst4 hle4 hk4
  have hfr4 := hk4.fr (T' := [(0, _), (1, _), (4, _), (2, _), (5, _), (28, _)]) (.old rfl rfl <| .old rfl rfl <| .old rfl rfl <| .old rfl rfl <| .old rfl rfl <| .new rfl <| .nil)
  replace h_r := h_r.mono hle4
  replace hs_r := hs_r.mono hle4
  replace hcut := hcut.mono hle4
  replace hrw2 := hrw2.mono hle4
  replace hM := hM.trans hle4
  clear hst3 hfr3 hk4
  refine hK6 _ _ ?_; try clear hK6 K6
  refine cond_any hfr4 rfl rfl (fun hb28 => ?_) (fun hb28 => ?_)
  · try simp only [Bool.not_eq_true', Bool.not_eq_false', decide_eq_true_eq, decide_eq_false_iff_not, Bool.and_eq_true, Bool.or_eq_true, Bool.and_eq_false_iff, Bool.or_eq_false_iff, Bool.not_not, u8_eq] at hb28
    refine seq_any fun K7 hK7 => ?_
    refine region_plain (fun h => by cases h) hst4 hfr4 (by kernel_rfl) (by kernel_rfl) (.cons rfl (ob_move rfl) <|
        .cons rfl (ob_assign rfl) <|
        .nil) ?_
    intro a5 w5 m5 hst5 hle5 hk5
    have hfr5 := hk5.fr (T' := [(0, _), (1, _), (2, _), (5, _), (4, _)]) (.old rfl rfl <| .old rfl rfl <| .old rfl rfl <| .old rfl rfl <| .new rfl <| .nil)
    replace h_r := h_r.mono hle5
    replace hs_r := hs_r.mono hle5
    replace hcut := hcut.mono hle5
    replace hrw2 := hrw2.mono hle5
    replace hM := hM.trans hle5
    clear hst4 hfr4 hk5
    refine hK7 _ _ ?_; try clear hK7 K7
    refine wp_ret ?_
    repeat (with_reducible first | refine then_ret ?_ | refine block_ret ?_)
    exact fn_ret hst5 hfr5 rfl (.tmp rfl <| .nil) (rfl)
  · try simp only [Bool.not_eq_true', Bool.not_eq_false', decide_eq_true_eq, decide_eq_false_iff_not, Bool.and_eq_true, Bool.or_eq_true, Bool.and_eq_false_iff, Bool.or_eq_false_iff, Bool.not_not, u8_eq] at hb28
    have hq : rowOk ls r.var = true := by simp_all
    have hs0 : s ≠ [] := by simp_all
    have hq3 := rowOk_iff.1 hq
    have hq2 := rowOk_add hq hs0
    have hadd := add_less hq3.2.1 s
    have hmem : s ∈ (sortS (ls ++ [s])) := sortS_mem.2 (by simp)
    have hll : (sortS (ls ++ [s])).length = ls.length + 1 := by rw [sortS_len]; simp
    have hca := calm_add ls r.var s
    have hcc := calm_add ls r.var consoleS
    have hel : (ls.erase s).length ≤ ls.length := List.erase_sublist.length_le
    refine wp_skip ?_
    refine hK5 _ _ ?_; try clear hK5 K5
    refine seq_any fun K9 hK9 => ?_
    replace hst4 := hst4.more (r := .free) trivial List.nodup_nil (by simp [Res.blocks])
    refine region_any (tch := [(3, 1, (fun v => .blk v _)), (4, 1, (fun v => .blkx v _ _))]) (fun h => by cases h) hst4 hfr4 (by kernel_rfl) (by kernel_rfl) (by kernel_rfl) (.cons rfl (ob_loadLS' (j := 0) rfl rfl Tryd.isAgg25 Tryd.sizeOf25 rfl rfl) <|
        .cons rfl (ob_move rfl) <|
        .cons rfl (ob_call (φ := MP.rw ⟨sortS (ls ++ [s]), r.var⟩) rfl (.cons rfl <| .cons rfl <| .nil) Tryd.call27 (fun w m hK => by have hle_ := KC.le hK; have hA := KC.agree hK; have hM := hM.trans hle_; have hT := tab_keep hT hK.st.ext; have hrw2 := hrw2.mono hle_; exact FnG.mono (add_c (r := ⟨ls, r.var⟩) (s := s) hA hrw2 (by simp only [sortS_len, List.length_append, List.length_cons, List.length_nil]; omega)) fun _ _ _ _ h => h)) <|
        .consT rfl rfl (fun _ => rfl) rfl (ob_allocL Tryd.zeroValue25 rfl) <|
        .consT rfl rfl (fun _ => rfl) rfl (ob_imgT 6 rfl rfl rfl fun y6 => ob_imgTX 32 rfl rfl rfl fun y32 => ob_storeF rfl rfl rfl rfl rfl Tryd.sizeOf25 rfl rfl rfl) <|
        .nil) ?_
    intro a5 w5 m5 hst5 hle5 hk5
    have hfr5 := hk5.fr (T' := [(0, _), (1, _), (4, _), (2, _), (5, _)]) (.old rfl rfl <| .old rfl rfl <| .old rfl rfl <| .old rfl rfl <| .old rfl rfl <| .nil)
    obtain ⟨g10, e10, _⟩ := hk5.ex 6 rfl
    replace hfr5 := hfr5.cons e10
    replace hst5 := hst5.fin (L' := [_, _]) (.cons e10 <| .cons e10 <| .nil)
    obtain ⟨⟨om, cm⟩, hmo, hst5⟩ := hst5.unx (k := 1) rfl (fun _ => rfl)
    replace h_r := h_r.mono hle5
    replace hs_r := hs_r.mono hle5
    replace hcut := hcut.mono hle5
    replace hrw2 := hrw2.mono hle5
    replace hM := hM.trans hle5
    clear hst4 hfr4 hk5
    refine hK9 _ _ ?_; try clear hK9 K9
    refine seq_any fun K12 hK12 => ?_
    replace hst5 := hst5.more (r := .free) trivial List.nodup_nil (by simp [Res.blocks])
    refine region_any (tch := [(6, 2, (fun v => .blk v _)), (7, 2, (fun v => .blkx v _ _))]) (fun h => by cases h) hst5 hfr5 (by kernel_rfl) (by kernel_rfl) (by kernel_rfl) (.cons rfl (ob_loadLS' (j := 1) rfl rfl Tryd.isAgg25 Tryd.sizeOf25 rfl rfl) <|
        .cons rfl (ob_move rfl) <|
        .cons rfl (ob_call (φ := MP.rwb ⟨(sortS (ls ++ [s])).erase s, r.var⟩ (decide (s ∈ (sortS (ls ++ [s]))))) rfl (.cons rfl <| .cons rfl <| .nil) Tryd.call28 (fun w m hK => by have hle_ := KC.le hK; have hA := KC.agree hK; have hM := hM.trans hle_; have hT := tab_keep hT hK.st.ext; have hmo := hmo.mono hle_; exact FnG.mono (less_c (r := ⟨(sortS (ls ++ [s])), r.var⟩) (s := s) hA hmo (by simp only [sortS_len, List.length_append, List.length_cons, List.length_nil]; omega)) fun _ _ _ _ h => h)) <|
        .cons rfl (ob_imgV 36 rfl rfl rfl fun y36 => ob_move rfl) <|
        .cons rfl (ob_imgV 33 rfl rfl rfl fun y33 => ob_extract rfl rfl) <|
        .cons rfl (ob_imgE 33 rfl rfl rfl fun y33 => ob_extract rfl rfl) <|
        .consT rfl rfl (fun _ => rfl) rfl (ob_allocL Tryd.zeroValue25 rfl) <|
        .consT rfl rfl (fun _ => rfl) rfl (ob_imgT 7 rfl rfl rfl fun y7 => ob_imgTX 37 rfl rfl rfl fun y37 => ob_storeF rfl rfl rfl rfl rfl Tryd.sizeOf25 rfl rfl rfl) <|
        .cons rfl (ob_assign rfl) <|
        .nil) ?_
    intro a6 w6 m6 hst6 hle6 hk6
    have hfr6 := hk6.fr (T' := [(0, _), (1, _), (4, _), (2, _), (5, _), (6, _), (8, _)]) (.old rfl rfl <| .old rfl rfl <| .old rfl rfl <| .old rfl rfl <| .old rfl rfl <| .old rfl rfl <| .new rfl <| .nil)
    obtain ⟨g13, e13, _⟩ := hk6.ex 7 rfl
    replace hfr6 := hfr6.cons e13
    replace hst6 := hst6.fin (L' := [_, _, _]) (.cons e13 <| .cons e13 <| .nil)
    obtain ⟨⟨ob, cb⟩, hbk, hst6⟩ := hst6.unx (k := 2) rfl (fun _ => rfl)
    replace h_r := h_r.mono hle6
    replace hs_r := hs_r.mono hle6
    replace hcut := hcut.mono hle6
    replace hrw2 := hrw2.mono hle6
    replace hmo := hmo.mono hle6
    replace hM := hM.trans hle6
    clear hst5 hfr5 hk6
    refine hK12 _ _ ?_; try clear hK12 K12
    refine seq_any fun K15 hK15 => ?_
    refine seq_any fun K16 hK16 => ?_
    refine region_plain (fun h => by cases h) hst6 hfr6 (by kernel_rfl) (by kernel_rfl) (.cons rfl (ob_loadLS' (j := 1) rfl rfl Tryd.isAgg25 Tryd.sizeOf25 rfl rfl) <|
        .cons rfl (ob_callE rfl (.cons rfl <| .nil) Tryd.call19 (fun w m hK => by have hle_ := KC.le hK; have hA := KC.agree hK; have hM := hM.trans hle_; have hT := tab_keep hT hK.st.ext; have hmo := hmo.mono hle_; exact rightrow_c (r := ⟨(sortS (ls ++ [s])), r.var⟩) hA hmo)) <|
        .cons rfl (ob_not rfl) <|
        .cons rfl (ob_move rfl) <|
        .cons rfl (ob_move rfl) <|
        .cons rfl (ob_not rfl) <|
        .cons rfl (ob_or rfl rfl rfl) <|
        .cons rfl (ob_move rfl) <|
        .cons rfl (ob_loadLS' (j := 2) rfl rfl Tryd.isAgg25 Tryd.sizeOf25 rfl rfl) <|
        .cons rfl (ob_loadLS' (j := 0) rfl rfl Tryd.isAgg25 Tryd.sizeOf25 rfl rfl) <|
        .cons rfl (ob_callE rfl (.cons rfl <| .cons rfl <| .nil) Tryd.call26 (fun w m hK => by have hle_ := KC.le hK; have hA := KC.agree hK; have hM := hM.trans hle_; have hT := tab_keep hT hK.st.ext; have hrw2 := hrw2.mono hle_; have hbk := hbk.mono hle_; exact samerow_c (a := ⟨(sortS (ls ++ [s])).erase s, r.var⟩) (b := ⟨ls, r.var⟩) hA hbk hrw2)) <|
        .cons rfl (ob_not rfl) <|
        .cons rfl (ob_or rfl rfl rfl) <|
        .cons rfl (ob_move rfl) <|
        .cons rfl (ob_fieldAddr rfl Tryd.underlying25 rfl Tryd.sizeOf23 rfl) <|
        .cons rfl (ob_loadL (j := 1) rfl rfl Tryd.isAgg23 rfl) <|
        .cons rfl (ob_len rfl Tryd.underlying23) <|
        .cons rfl (ob_fieldAddr rfl Tryd.underlying25 rfl Tryd.sizeOf23 rfl) <|
        .cons rfl (ob_loadL (j := 0) rfl rfl Tryd.isAgg23 rfl) <|
        .cons rfl (ob_len rfl Tryd.underlying23) <|
        .cons rfl (ob_add rfl rfl ⟨by omega, by omega⟩) <|
        .cons rfl (ob_neq rfl rfl) <|
        .cons rfl (ob_or rfl rfl rfl) <|
        .nil) ?_
    intro a7 w7 m7 hst7 hle7 hk7
    have hfr7 := hk7.fr (T' := [(0, _), (1, _), (4, _), (2, _), (5, _), (6, _), (8, _), (7, _), (61, _)]) (.old rfl rfl <| .old rfl rfl <| .old rfl rfl <| .old rfl rfl <| .old rfl rfl <| .old rfl rfl <| .old rfl rfl <| .old rfl rfl <| .new rfl <| .nil)
    replace h_r := h_r.mono hle7
    replace hs_r := hs_r.mono hle7
    replace hcut := hcut.mono hle7
    replace hrw2 := hrw2.mono hle7
    replace hmo := hmo.mono hle7
    replace hbk := hbk.mono hle7
    replace hM := hM.trans hle7
    clear hst6 hfr6 hk7
    refine hK16 _ _ ?_; try clear hK16 K16
    refine cond_any hfr7 rfl rfl (fun hb61 => ?_) (fun hb61 => ?_)
    · exfalso; rw [hq2, hadd, decide_eq_true hmem] at hb61; simp at hb61; omega
    · try simp only [Bool.not_eq_true', Bool.not_eq_false', decide_eq_true_eq, decide_eq_false_iff_not, Bool.and_eq_true, Bool.or_eq_true, Bool.and_eq_false_iff, Bool.or_eq_false_iff, Bool.not_not, u8_eq] at hb61
      refine wp_skip ?_
      refine hK15 _ _ ?_; try clear hK15 K15
      refine seq_any fun K17 hK17 => ?_
      refine seq_any fun K18 hK18 => ?_
      refine region_plain (fun _ => mixed) hst7 hfr7 (by kernel_rfl) (by kernel_rfl) (.cons rfl (ob_loadLS' (j := 1) rfl rfl Tryd.isAgg25 Tryd.sizeOf25 rfl rfl) <|
          .cons rfl (ob_callE rfl (.cons rfl <| .nil) Tryd.call29 (fun w m hK => by have hle_ := KC.le hK; have hA := KC.agree hK; have hM := hM.trans hle_; have hT := tab_keep hT hK.st.ext; have hmo := hmo.mono hle_; exact calm_c (r := ⟨(sortS (ls ++ [s])), r.var⟩) hA hmo)) <|
          .cons rfl (ob_loadLS' (j := 0) rfl rfl Tryd.isAgg25 Tryd.sizeOf25 rfl rfl) <|
          .cons rfl (ob_callE rfl (.cons rfl <| .nil) Tryd.call29 (fun w m hK => by have hle_ := KC.le hK; have hA := KC.agree hK; have hM := hM.trans hle_; have hT := tab_keep hT hK.st.ext; have hrw2 := hrw2.mono hle_; exact calm_c (r := ⟨ls, r.var⟩) hA hrw2)) <|
          .cons rfl (ob_move rfl) <|
          .cons rfl (ob_move rfl) <|
          .cons rfl (ob_seql rfl rfl) <|
          .cons rfl (ob_and rfl rfl rfl) <|
          .cons rfl (ob_bneq rfl rfl Tryd.underlying4) <|
          .nil) ?_
      intro a8 w8 m8 hst8 hle8 hk8
      have hfr8 := hk8.fr (T' := [(0, _), (1, _), (4, _), (2, _), (5, _), (6, _), (8, _), (7, _), (70, _)]) (.old rfl rfl <| .old rfl rfl <| .old rfl rfl <| .old rfl rfl <| .old rfl rfl <| .old rfl rfl <| .old rfl rfl <| .old rfl rfl <| .new rfl <| .nil)
      replace h_r := h_r.mono hle8
      replace hs_r := hs_r.mono hle8
      replace hcut := hcut.mono hle8
      replace hrw2 := hrw2.mono hle8
      replace hmo := hmo.mono hle8
      replace hbk := hbk.mono hle8
      replace hM := hM.trans hle8
      clear hst7 hfr7 hk8
      refine hK18 _ _ ?_; try clear hK18 K18
      refine cond_any hfr8 rfl rfl (fun hb70 => ?_) (fun hb70 => ?_)
      · exfalso; rw [hca] at hb70; revert hb70; show ¬ ((!((calmS ls r.var && decide (s = consoleS)) == (calmS ls r.var && decide (s = consoleS)))) = true); simp
      · try simp only [Bool.not_eq_true', Bool.not_eq_false', decide_eq_true_eq, decide_eq_false_iff_not, Bool.and_eq_true, Bool.or_eq_true, Bool.and_eq_false_iff, Bool.or_eq_false_iff, Bool.not_not, u8_eq] at hb70
        refine wp_skip ?_
        refine hK17 _ _ ?_; try clear hK17 K17
        refine seq_any fun K19 hK19 => ?_
        refine region_plain (fun h => by cases h) hst8 hfr8 (by kernel_rfl) (by kernel_rfl) (.cons rfl (ob_assign rfl) <|
            .nil) ?_
        intro a9 w9 m9 hst9 hle9 hk9
        have hfr9 := hk9.fr (T' := [(0, _), (1, _), (4, _), (2, _), (5, _), (6, _), (8, _), (7, _), (9, _)]) (.old rfl rfl <| .old rfl rfl <| .old rfl rfl <| .old rfl rfl <| .old rfl rfl <| .old rfl rfl <| .old rfl rfl <| .old rfl rfl <| .new rfl <| .nil)
        replace h_r := h_r.mono hle9
        replace hs_r := hs_r.mono hle9
        replace hcut := hcut.mono hle9
        replace hrw2 := hrw2.mono hle9
        replace hmo := hmo.mono hle9
        replace hbk := hbk.mono hle9
        replace hM := hM.trans hle9
        clear hst8 hfr8 hk9
        refine hK19 _ _ ?_; try clear hK19 K19
        refine seq_any fun K20 hK20 => ?_
        refine seq_any fun K21 hK21 => ?_
        refine region_plain (fun h => by cases h) hst9 hfr9 (by kernel_rfl) (by kernel_rfl) (.cons rfl (ob_assign rfl) <|
            .nil) ?_
        intro a10 w10 m10 hst10 hle10 hk10
        have hfr10 := hk10.fr (T' := [(0, _), (1, _), (4, _), (2, _), (5, _), (6, _), (8, _), (7, _), (9, _), (10, _)]) (.old rfl rfl <| .old rfl rfl <| .old rfl rfl <| .old rfl rfl <| .old rfl rfl <| .old rfl rfl <| .old rfl rfl <| .old rfl rfl <| .old rfl rfl <| .new rfl <| .nil)
        replace h_r := h_r.mono hle10
        replace hs_r := hs_r.mono hle10
        replace hcut := hcut.mono hle10
        replace hrw2 := hrw2.mono hle10
        replace hmo := hmo.mono hle10
        replace hbk := hbk.mono hle10
        replace hM := hM.trans hle10
        clear hst9 hfr9 hk10
        refine hK21 _ _ ?_; try clear hK21 K21
        refine wp_block ?_
        refine loop_any (T := [(0, _), (1, _), (4, _), (2, _), (5, _), (6, _), (8, _), (7, _)]) (fun (y : Nat × Bool) => ([(9, .bool y.2), (10, .int .i64 (y.1 : Int))] : List (Nat × Value))) (fun _ => _) (fun (y : Nat × Bool) m => (fun (y : Nat) (hs : Bool) => (y ≤ ls.length) ∧ (hs = decide (s ∈ ls.take y))) y.1 y.2) (fun y => ls.length - y.1) ((0, false)) ⟨hst10, MLe.refl _, hfr10.sub (.cons rfl <| .cons rfl <| .cons rfl <| .cons rfl <| .cons rfl <| .cons rfl <| .cons rfl <| .cons rfl <| .cons rfl <| .cons rfl <| .nil), ⟨Nat.zero_le _, by simp⟩⟩ fun y a11 w11 m11 hh11 => ?_
        have hst11 := hh11.st; have hle11 := hh11.le; have hfr11 := hh11.fr; have hrel := hh11.rel; clear hh11
        replace h_r := h_r.mono hle11
        replace hs_r := hs_r.mono hle11
        replace hcut := hcut.mono hle11
        replace hrw2 := hrw2.mono hle11
        replace hmo := hmo.mono hle11
        replace hbk := hbk.mono hle11
        clear hst10 hfr10
        replace hM := hM.trans hle11
        obtain ⟨y, hs⟩ := y
        dsimp only at hrel hfr11 hst11
        obtain ⟨hyn, hhs⟩ := hrel
        have hlh11 := hle11
        refine seq_any fun K23 hK23 => ?_
        refine seq_any fun K24 hK24 => ?_
        refine region_plain (fun h => by cases h) hst11 hfr11 (by kernel_rfl) (by kernel_rfl) (.cons rfl (ob_move rfl) <|
            .cons rfl (ob_fieldAddr rfl Tryd.underlying25 rfl Tryd.sizeOf23 rfl) <|
            .cons rfl (ob_loadL (j := 0) rfl rfl Tryd.isAgg23 rfl) <|
            .cons rfl (ob_len rfl Tryd.underlying23) <|
            .cons rfl (ob_lss rfl rfl) <|
            .nil) ?_
        intro a12 w12 m12 hst12 hle12 hk12
        have hfr12 := hk12.fr (T' := [(9, _), (10, _), (0, _), (1, _), (4, _), (2, _), (5, _), (6, _), (8, _), (7, _), (75, _)]) (.old rfl rfl <| .old rfl rfl <| .old rfl rfl <| .old rfl rfl <| .old rfl rfl <| .old rfl rfl <| .old rfl rfl <| .old rfl rfl <| .old rfl rfl <| .old rfl rfl <| .new rfl <| .nil)
        replace h_r := h_r.mono hle12
        replace hs_r := hs_r.mono hle12
        replace hcut := hcut.mono hle12
        replace hrw2 := hrw2.mono hle12
        replace hmo := hmo.mono hle12
        replace hbk := hbk.mono hle12
        have hlh12 := hlh11.trans hle12
        replace hM := hM.trans hle12
        clear hst11 hfr11 hk12
        refine hK24 _ _ ?_; try clear hK24 K24
        refine cond_any hfr12 rfl rfl (fun hb75 => ?_) (fun hb75 => ?_)
        · try simp only [Bool.not_eq_true', Bool.not_eq_false', decide_eq_true_eq, decide_eq_false_iff_not, Bool.and_eq_true, Bool.or_eq_true, Bool.and_eq_false_iff, Bool.or_eq_false_iff, Bool.not_not, u8_eq] at hb75
          refine wp_skip ?_
          refine hK23 _ _ ?_; try clear hK23 K23
          refine seq_any fun K25 hK25 => ?_
          refine wp_block ?_
          obtain ⟨p26, vs26, x26, ho26, hd26, hm_x26, ht26, hcv26, hl26, hv26⟩ := hcut.nth (k := y) (by omega)
          cases ho26
          subst hv26
          refine region_plain (fun h => by cases h) hst12 hfr12 (by kernel_rfl) (by kernel_rfl) (.cons rfl (ob_move rfl) <|
              .cons rfl (ob_move rfl) <|
              .cons rfl (ob_fieldAddr rfl Tryd.underlying25 rfl Tryd.sizeOf23 rfl) <|
              .cons rfl (ob_loadL (j := 0) rfl rfl Tryd.isAgg23 rfl) <|
              .cons rfl (ob_move rfl) <|
              .cons rfl (ob_indexAddr (k := y) rfl rfl Tryd.underlying23 Tryd.sizeOf9 rfl (by omega)) <|
              .cons rfl (ob_load1' rfl hcv26 Tryd.isAgg9 rfl) <|
              .cons rfl (ob_move rfl) <|
              .cons rfl (ob_seql rfl rfl) <|
              .cons rfl (ob_or rfl rfl rfl) <|
              .cons rfl (ob_assign rfl) <|
              .nil) ?_
          intro a13 w13 m13 hst13 hle13 hk13
          have hfr13 := hk13.fr (T' := [(10, _), (0, _), (1, _), (4, _), (2, _), (5, _), (6, _), (8, _), (7, _), (9, _)]) (.old rfl rfl <| .old rfl rfl <| .old rfl rfl <| .old rfl rfl <| .old rfl rfl <| .old rfl rfl <| .old rfl rfl <| .old rfl rfl <| .old rfl rfl <| .new rfl <| .nil)
          replace h_r := h_r.mono hle13
          replace hs_r := hs_r.mono hle13
          replace hcut := hcut.mono hle13
          replace hrw2 := hrw2.mono hle13
          replace hmo := hmo.mono hle13
          replace hbk := hbk.mono hle13
          replace hcv26 := hcv26.mono hle13
          have hlh13 := hlh12.trans hle13
          replace hM := hM.trans hle13
          clear hst12 hfr12 hk13
          refine hK25 _ _ ?_; try clear hK25 K25
          refine region_plain (fun h => by cases h) hst13 hfr13 (by kernel_rfl) (by kernel_rfl) (.cons rfl (ob_move rfl) <|
              .cons rfl (ob_add rfl rfl ⟨by omega, by omega⟩) <|
              .cons rfl (ob_assign rfl) <|
              .nil) ?_
          intro a14 w14 m14 hst14 hle14 hk14
          have hfr14 := hk14.fr (T' := [(0, _), (1, _), (4, _), (2, _), (5, _), (6, _), (8, _), (7, _), (9, _), (10, _)]) (.old rfl rfl <| .old rfl rfl <| .old rfl rfl <| .old rfl rfl <| .old rfl rfl <| .old rfl rfl <| .old rfl rfl <| .old rfl rfl <| .old rfl rfl <| .new rfl <| .nil)
          replace h_r := h_r.mono hle14
          replace hs_r := hs_r.mono hle14
          replace hcut := hcut.mono hle14
          replace hrw2 := hrw2.mono hle14
          replace hmo := hmo.mono hle14
          replace hbk := hbk.mono hle14
          replace hcv26 := hcv26.mono hle14
          have hlh14 := hlh13.trans hle14
          replace hM := hM.trans hle14
          clear hst13 hfr13 hk14
          exact ⟨(y + 1, _), m14, by show ls.length - (y + 1) < ls.length - y; omega, ⟨hst14, hlh14, hfr14.sub (.cons rfl <| .cons rfl <| .cons rfl <| .cons rfl <| .cons rfl <| .cons rfl <| .cons rfl <| .cons rfl <| .cons rfl <| .cons rfl <| .nil), ⟨by show y + 1 ≤ ls.length; omega, by rw [ht26, hhs]; by_cases h1 : s ∈ ls.take y <;> by_cases h2 : x26 = s <;> simp [h1, h2]; (try intro h; exact absurd h.symm h2)⟩⟩⟩
        · try simp only [Bool.not_eq_true', Bool.not_eq_false', decide_eq_true_eq, decide_eq_false_iff_not, Bool.and_eq_true, Bool.or_eq_true, Bool.and_eq_false_iff, Bool.or_eq_false_iff, Bool.not_not, u8_eq] at hb75
          have hge : y = ls.length := by omega
          rw [List.take_of_length_le (by omega)] at hhs
          refine wp_exit ?_
          refine hK20 _ _ ?_; try clear hK20 K20
          refine seq_any fun K27 hK27 => ?_
          replace hst12 := hst12.more (r := .free) trivial List.nodup_nil (by simp [Res.blocks])
          refine region_any (tch := [(6, 3, (fun v => .blk v _)), (7, 3, (fun v => .blkx v _ _))]) (fun h => by cases h) hst12 hfr12 (by kernel_rfl) (by kernel_rfl) (by kernel_rfl) (.cons rfl (ob_loadLS' (j := 0) rfl rfl Tryd.isAgg25 Tryd.sizeOf25 rfl rfl) <|
              .cons rfl (ob_move rfl) <|
              .cons rfl (ob_call (φ := MP.rwb ⟨ls.erase s, r.var⟩ (decide (s ∈ ls))) rfl (.cons rfl <| .cons rfl <| .nil) Tryd.call28 (fun w m hK => by have hle_ := KC.le hK; have hA := KC.agree hK; have hM := hM.trans hle_; have hT := tab_keep hT hK.st.ext; have hrw2 := hrw2.mono hle_; exact FnG.mono (less_c (r := ⟨ls, r.var⟩) (s := s) hA hrw2 (by simp only [sortS_len, List.length_append, List.length_cons, List.length_nil]; omega)) fun _ _ _ _ h => h)) <|
              .cons rfl (ob_imgV 91 rfl rfl rfl fun y91 => ob_move rfl) <|
              .cons rfl (ob_imgV 88 rfl rfl rfl fun y88 => ob_extract rfl rfl) <|
              .cons rfl (ob_imgE 88 rfl rfl rfl fun y88 => ob_extract rfl rfl) <|
              .consT rfl rfl (fun _ => rfl) rfl (ob_allocL Tryd.zeroValue25 rfl) <|
              .consT rfl rfl (fun _ => rfl) rfl (ob_imgT 11 rfl rfl rfl fun y11 => ob_imgTX 92 rfl rfl rfl fun y92 => ob_storeF rfl rfl rfl rfl rfl Tryd.sizeOf25 rfl rfl rfl) <|
              .cons rfl (ob_assign rfl) <|
              .nil) ?_
          intro a13 w13 m13 hst13 hle13 hk13
          have hfr13 := hk13.fr (T' := [(9, _), (10, _), (0, _), (1, _), (4, _), (2, _), (5, _), (6, _), (8, _), (7, _), (12, _)]) (.old rfl rfl <| .old rfl rfl <| .old rfl rfl <| .old rfl rfl <| .old rfl rfl <| .old rfl rfl <| .old rfl rfl <| .old rfl rfl <| .old rfl rfl <| .old rfl rfl <| .new rfl <| .nil)
          obtain ⟨g28, e28, _⟩ := hk13.ex 11 rfl
          replace hfr13 := hfr13.cons e28
          replace hst13 := hst13.fin (L' := [_, _, _, _]) (.cons e28 <| .cons e28 <| .nil)
          obtain ⟨⟨ol, cl⟩, hle, hst13⟩ := hst13.unx (k := 3) rfl (fun _ => rfl)
          replace h_r := h_r.mono hle13
          replace hs_r := hs_r.mono hle13
          replace hcut := hcut.mono hle13
          replace hrw2 := hrw2.mono hle13
          replace hmo := hmo.mono hle13
          replace hbk := hbk.mono hle13
          have hlh13 := hlh12.trans hle13
          replace hM := hM.trans hle13
          clear hst12 hfr12 hk13
          refine hK27 _ _ ?_; try clear hK27 K27
          refine seq_any fun K30 hK30 => ?_
          refine region_plain (fun _ => mixed) hst13 hfr13 (by kernel_rfl) (by kernel_rfl) (.cons rfl (ob_move rfl) <|
              .cons rfl (ob_move rfl) <|
              .cons rfl (ob_move rfl) <|
              .cons rfl (ob_move rfl) <|
              .cons rfl (ob_beql rfl rfl Tryd.underlying4) <|
              .cons rfl (ob_and rfl rfl rfl) <|
              .cons rfl (ob_move rfl) <|
              .cons rfl (ob_move rfl) <|
              .cons rfl (ob_move rfl) <|
              .cons rfl (ob_loadLS' (j := 3) rfl rfl Tryd.isAgg25 Tryd.sizeOf25 rfl rfl) <|
              .cons rfl (ob_loadLS' (j := 0) rfl rfl Tryd.isAgg25 Tryd.sizeOf25 rfl rfl) <|
              .cons rfl (ob_callE rfl (.cons rfl <| .cons rfl <| .nil) Tryd.call26 (fun w m hK => by have hle_ := KC.le hK; have hA := KC.agree hK; have hM := hM.trans hle_; have hT := tab_keep hT hK.st.ext; have hrw2 := hrw2.mono hle_; have hle := hle.mono hle_; exact samerow_c (a := ⟨ls.erase s, r.var⟩) (b := ⟨ls, r.var⟩) hA hle hrw2)) <|
              .cons rfl (ob_or rfl rfl rfl) <|
              .cons rfl (ob_and rfl rfl rfl) <|
              .cons rfl (ob_move rfl) <|
              .cons rfl (ob_loadLS' (j := 0) rfl rfl Tryd.isAgg25 Tryd.sizeOf25 rfl rfl) <|
              .cons rfl (ob_call (φ := MP.rw ⟨sortS (ls ++ [consoleS]), r.var⟩) rfl (.cons rfl <| .cons rfl <| .nil) Tryd.call27 (fun w m hK => by have hle_ := KC.le hK; have hA := KC.agree hK; have hM := hM.trans hle_; have hT := tab_keep hT hK.st.ext; have hrw2 := hrw2.mono hle_; exact FnG.mono (add_c (r := ⟨ls, r.var⟩) (s := consoleS) hA hrw2 (by simp only [sortS_len, List.length_append, List.length_cons, List.length_nil]; omega)) fun _ _ _ _ h => h)) <|
              .cons rfl (ob_imgE 110 rfl rfl rfl fun y110 => ob_callE rfl (.cons rfl <| .nil) Tryd.call29 (fun w m hK => by have hle_ := KC.le hK; have hA := KC.agree hK; have hM := hM.trans hle_; have hT := tab_keep hT hK.1.st.ext; have hr0_ := hK.2; exact calm_c (r := ⟨sortS (ls ++ [consoleS]), r.var⟩) hA hr0_)) <|
              .cons rfl (ob_loadLS' (j := 0) rfl rfl Tryd.isAgg25 Tryd.sizeOf25 rfl rfl) <|
              .cons rfl (ob_callE rfl (.cons rfl <| .nil) Tryd.call29 (fun w m hK => by have hle_ := KC.le hK; have hA := KC.agree hK; have hM := hM.trans hle_; have hT := tab_keep hT hK.st.ext; have hrw2 := hrw2.mono hle_; exact calm_c (r := ⟨ls, r.var⟩) hA hrw2)) <|
              .cons rfl (ob_beql rfl rfl Tryd.underlying4) <|
              .cons rfl (ob_and rfl rfl rfl) <|
              .cons rfl (ob_assign rfl) <|
              .nil) ?_
          intro a14 w14 m14 hst14 hle14 hk14
          have hfr14 := hk14.fr (T' := [(9, _), (10, _), (0, _), (1, _), (2, _), (5, _), (6, _), (8, _), (7, _), (12, _), (11, _), (4, _)]) (.old rfl rfl <| .old rfl rfl <| .old rfl rfl <| .old rfl rfl <| .old rfl rfl <| .old rfl rfl <| .old rfl rfl <| .old rfl rfl <| .old rfl rfl <| .old rfl rfl <| .old rfl rfl <| .new rfl <| .nil)
          replace h_r := h_r.mono hle14
          replace hs_r := hs_r.mono hle14
          replace hcut := hcut.mono hle14
          replace hrw2 := hrw2.mono hle14
          replace hmo := hmo.mono hle14
          replace hbk := hbk.mono hle14
          replace hle := hle.mono hle14
          have hlh14 := hlh13.trans hle14
          replace hM := hM.trans hle14
          clear hst13 hfr13 hk14
          refine hK30 _ _ ?_; try clear hK30 K30
          refine wp_ret ?_
          repeat (with_reducible first | refine then_ret ?_ | refine block_ret ?_)
          exact fn_ret hst14 hfr14 rfl (.tmp rfl <| .nil) (by refine congrArg Value.bool ?_; rw [hhs, hcc]; by_cases hm : s ∈ ls; (simp [hm]); (rw [List.erase_of_not_mem hm]; simp [hm]))

end Go.Proofs.YtembdjghbphcdaaDoor
