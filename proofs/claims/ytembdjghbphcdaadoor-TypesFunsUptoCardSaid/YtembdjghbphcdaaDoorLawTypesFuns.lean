/-
  'brocadelaw04': the walk of the law. Conditions: those of each theorem.
-/
import Derived.Test.YtembdjghbphcdaaDoorShown1
import Derived.Test.YtembdjghbphcdaaDoorTyapp
namespace Go.Proofs.YtembdjghbphcdaaDoor
set_option linter.all false
set_option maxRecDepth 4000
open Go.RowKit
open Go.Lib (itoa decDigits)
theorem cnt_bulk (t : Ty) : cntT t ≤ bulkT t := by
  induction t using Ty.rec_ with
  | h t ih =>
    have hk := args_all t ih (fun l => cntTs l ≤ bulkTs l) (by simp [cntTs, bulkTs]) (fun x l hx hl => by simp only [cntTs, bulkTs]; omega)
    rw [cntT_eq, bulkT_eq]; omega

set_option maxHeartbeats 400000 in
theorem withR_c {w : World} {m : Mem} {o_l : Option Addr} {c_l : Nat} {l : List Int} {n : Int} (hA : Agree w m) (h_l : Ints m o_l l.length c_l l) (hbig : l.length ≤ 1073741824) : FnV Tryd.prog 22 #[.slice o_l l.length c_l, .int .i64 n] w m (fun _ m v => (MP.ints (withI l n)).p m v) := by
  have hb_l := h_l.big; have hc_l := h_l.cap
  refine fn_enter (vs := [_, _]) Tryd.func22 rfl rfl rfl fun a0 hfr0 => ?_
  have hst0 := st_enter hA (loc_nil [] _ w m)
  have hM : MLe m m := MLe.refl m
  refine seq_any fun K1 hK1 => ?_
  refine region_plain (fun h => by cases h) hst0 hfr0 (by kernel_rfl) (by kernel_rfl) (.cons rfl (ob_assign rfl) <|
      .nil) ?_
  intro a1 w1 m1 hst1 hle1 hk1
  have hfr1 := hk1.fr (T' := [(0, _), (1, _), (4, _)]) (.old rfl rfl <| .old rfl rfl <| .new rfl <| .nil)
  replace h_l := h_l.mono hle1
  replace hM := hM.trans hle1
  clear hst0 hfr0 hk1
  refine hK1 _ _ ?_; try clear hK1 K1
  refine seq_any fun K2 hK2 => ?_
  refine seq_any fun K3 hK3 => ?_
  refine region_plain (fun h => by cases h) hst1 hfr1 (by kernel_rfl) (by kernel_rfl) (.cons rfl (ob_assign rfl) <|
      .nil) ?_
  intro a2 w2 m2 hst2 hle2 hk2
  have hfr2 := hk2.fr (T' := [(0, _), (1, _), (4, _), (5, _)]) (.old rfl rfl <| .old rfl rfl <| .old rfl rfl <| .new rfl <| .nil)
  replace h_l := h_l.mono hle2
  replace hM := hM.trans hle2
  clear hst1 hfr1 hk2
  refine hK3 _ _ ?_; try clear hK3 K3
  refine wp_block ?_
  refine loop_any (T := [(0, _), (1, _), (4, _)]) (fun (y : Nat) => ([(5, .int .i64 (y : Int))] : List (Nat × Value))) (fun _ => _) (fun (y : Nat) m => (y ≤ l.length) ∧ ((n ∈ l) = (n ∈ l.drop y))) (fun y => l.length - y) (0) ⟨hst2, MLe.refl _, hfr2.sub (.cons rfl <| .cons rfl <| .cons rfl <| .cons rfl <| .nil), ⟨Nat.zero_le _, rfl⟩⟩ fun y a3 w3 m3 hh3 => ?_
  have hst3 := hh3.st; have hle3 := hh3.le; have hfr3 := hh3.fr; have hrel := hh3.rel; clear hh3
  replace h_l := h_l.mono hle3
  clear hst2 hfr2
  replace hM := hM.trans hle3
  obtain ⟨hyn, hrem⟩ := hrel
  have hlh3 := hle3
  refine seq_any fun K5 hK5 => ?_
  refine seq_any fun K6 hK6 => ?_
  refine region_plain (fun h => by cases h) hst3 hfr3 (by kernel_rfl) (by kernel_rfl) (.cons rfl (ob_move rfl) <|
      .cons rfl (ob_move rfl) <|
      .cons rfl (ob_len rfl Tryd.underlying35) <|
      .cons rfl (ob_lss rfl rfl) <|
      .nil) ?_
  intro a4 w4 m4 hst4 hle4 hk4
  have hfr4 := hk4.fr (T' := [(5, _), (0, _), (1, _), (4, _), (9, _)]) (.old rfl rfl <| .old rfl rfl <| .old rfl rfl <| .old rfl rfl <| .new rfl <| .nil)
  replace h_l := h_l.mono hle4
  have hlh4 := hlh3.trans hle4
  replace hM := hM.trans hle4
  clear hst3 hfr3 hk4
  refine hK6 _ _ ?_; try clear hK6 K6
  refine cond_any hfr4 rfl rfl (fun hb9 => ?_) (fun hb9 => ?_)
  · try simp only [Bool.not_eq_true', Bool.not_eq_false', decide_eq_true_eq, decide_eq_false_iff_not, Bool.and_eq_true, Bool.or_eq_true, Bool.and_eq_false_iff, Bool.or_eq_false_iff, Bool.not_not, u8_eq] at hb9
    refine wp_skip ?_
    refine hK5 _ _ ?_; try clear hK5 K5
    refine seq_any fun K7 hK7 => ?_
    refine wp_block ?_
    refine seq_any fun K8 hK8 => ?_
    obtain ⟨p9, vs9, x9, ho9, hd9, hm_x9, ht9, hcv9, hl9, hv9⟩ := h_l.nth (k := y) (by omega)
    cases ho9
    subst hv9
    try rw [hd9] at hrem
    try simp only [List.mem_cons] at hrem
    refine region_plain (fun h => by cases h) hst4 hfr4 (by kernel_rfl) (by kernel_rfl) (.cons rfl (ob_move rfl) <|
        .cons rfl (ob_move rfl) <|
        .cons rfl (ob_indexAddr (k := y) rfl rfl Tryd.underlying35 Tryd.sizeOf3 rfl (by omega)) <|
        .cons rfl (ob_load1' rfl hcv9 Tryd.isAgg3 rfl) <|
        .cons rfl (ob_move rfl) <|
        .cons rfl (ob_eql rfl rfl) <|
        .nil) ?_
    intro a5 w5 m5 hst5 hle5 hk5
    have hfr5 := hk5.fr (T' := [(5, _), (0, _), (1, _), (4, _), (17, _)]) (.old rfl rfl <| .old rfl rfl <| .old rfl rfl <| .old rfl rfl <| .new rfl <| .nil)
    replace h_l := h_l.mono hle5
    replace hcv9 := hcv9.mono hle5
    have hlh5 := hlh4.trans hle5
    replace hM := hM.trans hle5
    clear hst4 hfr4 hk5
    refine hK8 _ _ ?_; try clear hK8 K8
    refine cond_any hfr5 rfl rfl (fun hb17 => ?_) (fun hb17 => ?_)
    · try simp only [Bool.not_eq_true', Bool.not_eq_false', decide_eq_true_eq, decide_eq_false_iff_not, Bool.and_eq_true, Bool.or_eq_true, Bool.and_eq_false_iff, Bool.or_eq_false_iff, Bool.not_not, u8_eq] at hb17
      have hin : n ∈ l := by rw [hrem]; exact .inl hb17.symm
      refine seq_any fun K10 hK10 => ?_
      refine region_plain (fun h => by cases h) hst5 hfr5 (by kernel_rfl) (by kernel_rfl) (.cons rfl (ob_move rfl) <|
          .cons rfl (ob_assign rfl) <|
          .nil) ?_
      intro a6 w6 m6 hst6 hle6 hk6
      have hfr6 := hk6.fr (T' := [(5, _), (0, _), (1, _), (4, _)]) (.old rfl rfl <| .old rfl rfl <| .old rfl rfl <| .new rfl <| .nil)
      replace h_l := h_l.mono hle6
      replace hcv9 := hcv9.mono hle6
      have hlh6 := hlh5.trans hle6
      replace hM := hM.trans hle6
      clear hst5 hfr5 hk6
      refine hK10 _ _ ?_; try clear hK10 K10
      refine wp_ret ?_
      repeat (with_reducible first | refine then_ret ?_ | refine block_ret ?_)
      exact fn_ret hst6 hfr6 rfl (.tmp rfl <| .nil) (⟨(some p9, c_l), by rw [withI_in hin]; rfl, by rw [withI_in hin]; exact h_l⟩)
    · try simp only [Bool.not_eq_true', Bool.not_eq_false', decide_eq_true_eq, decide_eq_false_iff_not, Bool.and_eq_true, Bool.or_eq_true, Bool.and_eq_false_iff, Bool.or_eq_false_iff, Bool.not_not, u8_eq] at hb17
      refine wp_skip ?_
      refine hK7 _ _ ?_; try clear hK7 K7
      refine region_plain (fun h => by cases h) hst5 hfr5 (by kernel_rfl) (by kernel_rfl) (.cons rfl (ob_move rfl) <|
          .cons rfl (ob_add rfl rfl ⟨by omega, by omega⟩) <|
          .cons rfl (ob_assign rfl) <|
          .nil) ?_
      intro a6 w6 m6 hst6 hle6 hk6
      have hfr6 := hk6.fr (T' := [(0, _), (1, _), (4, _), (5, _)]) (.old rfl rfl <| .old rfl rfl <| .old rfl rfl <| .new rfl <| .nil)
      replace h_l := h_l.mono hle6
      replace hcv9 := hcv9.mono hle6
      have hlh6 := hlh5.trans hle6
      replace hM := hM.trans hle6
      clear hst5 hfr5 hk6
      exact ⟨y + 1, m6, by show l.length - (y + 1) < l.length - y; omega, ⟨hst6, hlh6, hfr6.sub (.cons rfl <| .cons rfl <| .cons rfl <| .cons rfl <| .nil), ⟨by show y + 1 ≤ l.length; omega, by rw [hrem]; simp only [eq_iff_iff]; constructor; (intro h; rcases h with h | h; (exact absurd h.symm hb17); exact h); exact .inr⟩⟩⟩
  · try simp only [Bool.not_eq_true', Bool.not_eq_false', decide_eq_true_eq, decide_eq_false_iff_not, Bool.and_eq_true, Bool.or_eq_true, Bool.and_eq_false_iff, Bool.or_eq_false_iff, Bool.not_not, u8_eq] at hb9
    have hge : y = l.length := by omega
    rw [List.drop_of_length_le (by omega)] at hrem
    have hout : ¬ n ∈ l := by rw [hrem]; simp
    refine wp_exit ?_
    refine hK2 _ _ ?_; try clear hK2 K2
    refine seq_any fun K12 hK12 => ?_
    obtain ⟨cs_13, hrw_13, hrd_13, hcl_13⟩ := h_l.reads
    replace hst4 := hst4.more (r := .free) trivial List.nodup_nil (by simp [Res.blocks])
    refine region_any (tch := [(2, 0, (fun v => .row (nz v) _ _ _ _)), (5, 0, (fun v => .row (nz v) _ _ _ _))]) (fun h => by cases h) hst4 hfr4 (by kernel_rfl) (by kernel_rfl) (by kernel_rfl) (.cons rfl (ob_buildSlice0 Tryd.underlying35 Tryd.sizeOf3) <|
        .cons rfl (ob_move rfl) <|
        .consT rfl rfl (fun _ => rfl) rfl (ob_imgT 19 rfl rfl rfl fun y19 => ob_appendZ (size := 1) (bytes := 8) rfl rfl (fun _ => .inr ⟨rfl, rfl, rfl, rfl⟩) Tryd.underlying35 Tryd.type3 rfl rfl rfl rfl (fun w m hK => hrw_13.mono (KC.le hK)) hcl_13 (by decide) hrd_13.one (by simp only [maxLen]; omega) (by omega)) <|
        .cons rfl (ob_move rfl) <|
        .cons rfl (ob_buildSlice (.cons rfl <| .nil) Tryd.underlying35 Tryd.sizeOf3 Tryd.zeroValue3 rfl rfl rfl rfl) <|
        .consT rfl rfl (fun _ => rfl) rfl (ob_imgT 21 rfl rfl rfl fun y21 => ob_imgT 23 rfl rfl rfl fun y23 => ob_appendZ (size := 1) (bytes := 8) rfl rfl (fun _ => .inl rfl) Tryd.underlying35 Tryd.type3 rfl rfl rfl rfl (fun w m hK => .inr ⟨_, rfl, hK.2⟩) rfl (by decide) rfl (by simp only [maxLen]; omega) (by omega)) <|
        .consA 24 rfl rfl <|
        .nil) ?_
    intro a5 w5 m5 hst5 hle5 hk5
    have hfr5 := hk5.fr (T' := [(5, _), (0, _), (1, _)]) (.old rfl rfl <| .old rfl rfl <| .old rfl rfl <| .nil)
    obtain ⟨⟨oz13, cz13⟩, e15, hrz13, hcz13⟩ := hk5.ex 21 rfl
    replace e15 : envOf a5 21 = .slice oz13 (l).length cz13 := by rw [e15]; refine congrArg (fun q => Value.slice _ q _) ?_; first | omega | (simp only [List.length_append, List.length_cons, List.length_nil, List.nil_append]; try omega)
    replace hfr5 := hfr5.cons e15
    obtain ⟨⟨oz14, cz14⟩, e16, hrz14, hcz14⟩ := hk5.ex 24 rfl
    replace e16 : envOf a5 24 = .slice oz14 ((l ++ [n])).length cz14 := by rw [e16]; refine congrArg (fun q => Value.slice _ q _) ?_; first | omega | (simp only [List.length_append, List.length_cons, List.length_nil, List.nil_append]; try omega)
    replace hfr5 := hfr5.cons e16
    replace hfr5 := hfr5.cons (hk5.same 4 rfl e16)
    replace hst5 := hst5.fin (L' := [_]) (.cons e15 <| .cons e16 <| .nil)
    replace h_l := h_l.mono hle5
    replace hrw_13 := hrw_13.mono hle5
    replace hrd_13 := hrd_13.mono hle5
    have hlh5 := hlh4.trans hle5
    replace hM := hM.trans hle5
    clear hst4 hfr4 hk5
    have en14 : 0 + (l).length + ([n]).length = ((l ++ [n])).length := by first | omega | (simp only [List.length_append, List.length_cons, List.length_nil, List.nil_append]; try omega)
    have hsz14 : Ints m5 oz14 ((l ++ [n])).length cz14 (l ++ [n]) := Reads.sl ((Reads.nil.app hrd_13).app (Reads.single (vs := [_]) rfl rfl)) hrz14 (by decide) rfl (by rw [← en14]; exact hcz14) (by first | omega | (simp only [List.length_append, List.length_cons, List.length_nil, List.nil_append]; omega))
    refine hK12 _ _ ?_; try clear hK12 K12
    refine wp_ret ?_
    repeat (with_reducible first | refine then_ret ?_ | refine block_ret ?_)
    exact fn_ret hst5 hfr5 rfl (.tmp rfl <| .nil) (⟨(oz14, cz14), by rw [withI_out hout]; rfl, by rw [withI_out hout]; exact hsz14⟩)

set_option maxHeartbeats 400000 in
theorem sameints_c {w : World} {m : Mem} {o_l : Option Addr} {c_l : Nat} {l : List Int} {o_k : Option Addr} {c_k : Nat} {k : List Int} (hA : Agree w m) (h_l : Ints m o_l l.length c_l l) (h_k : Ints m o_k k.length c_k k) : FnV Tryd.prog 23 #[.slice o_l l.length c_l, .slice o_k k.length c_k] w m (fun _ _ v => v = .bool (decide (l = k))) := by
  have hb_l := h_l.big; have hc_l := h_l.cap
  have hb_k := h_k.big; have hc_k := h_k.cap
  refine fn_enter (vs := [_, _]) Tryd.func23 rfl rfl rfl fun a0 hfr0 => ?_
  have hst0 := st_enter hA (loc_nil [] _ w m)
  have hM : MLe m m := MLe.refl m
  have hae := all2_eq l k
  refine seq_any fun K1 hK1 => ?_
  refine region_plain (fun h => by cases h) hst0 hfr0 (by kernel_rfl) (by kernel_rfl) (.cons rfl (ob_assign rfl) <|
      .nil) ?_
  intro a1 w1 m1 hst1 hle1 hk1
  have hfr1 := hk1.fr (T' := [(0, _), (1, _), (4, _)]) (.old rfl rfl <| .old rfl rfl <| .new rfl <| .nil)
  replace h_l := h_l.mono hle1
  replace h_k := h_k.mono hle1
  replace hM := hM.trans hle1
  clear hst0 hfr0 hk1
  refine hK1 _ _ ?_; try clear hK1 K1
  refine seq_any fun K2 hK2 => ?_
  refine seq_any fun K3 hK3 => ?_
  refine region_plain (fun h => by cases h) hst1 hfr1 (by kernel_rfl) (by kernel_rfl) (.cons rfl (ob_move rfl) <|
      .cons rfl (ob_len rfl Tryd.underlying35) <|
      .cons rfl (ob_move rfl) <|
      .cons rfl (ob_len rfl Tryd.underlying35) <|
      .cons rfl (ob_neq rfl rfl) <|
      .nil) ?_
  intro a2 w2 m2 hst2 hle2 hk2
  have hfr2 := hk2.fr (T' := [(0, _), (1, _), (4, _), (10, _)]) (.old rfl rfl <| .old rfl rfl <| .old rfl rfl <| .new rfl <| .nil)
  replace h_l := h_l.mono hle2
  replace h_k := h_k.mono hle2
  replace hM := hM.trans hle2
  clear hst1 hfr1 hk2
  refine hK3 _ _ ?_; try clear hK3 K3
  refine cond_any hfr2 rfl rfl (fun hb10 => ?_) (fun hb10 => ?_)
  · try simp only [Bool.not_eq_true', Bool.not_eq_false', decide_eq_true_eq, decide_eq_false_iff_not, Bool.and_eq_true, Bool.or_eq_true, Bool.and_eq_false_iff, Bool.or_eq_false_iff, Bool.not_not, u8_eq] at hb10
    have hr : decide (l = k) = false := by rw [← hae]; exact all2_len (by omega)
    refine seq_any fun K4 hK4 => ?_
    refine region_plain (fun h => by cases h) hst2 hfr2 (by kernel_rfl) (by kernel_rfl) (.cons rfl (ob_assign rfl) <|
        .nil) ?_
    intro a3 w3 m3 hst3 hle3 hk3
    have hfr3 := hk3.fr (T' := [(0, _), (1, _), (4, _)]) (.old rfl rfl <| .old rfl rfl <| .new rfl <| .nil)
    replace h_l := h_l.mono hle3
    replace h_k := h_k.mono hle3
    replace hM := hM.trans hle3
    clear hst2 hfr2 hk3
    refine hK4 _ _ ?_; try clear hK4 K4
    refine wp_ret ?_
    repeat (with_reducible first | refine then_ret ?_ | refine block_ret ?_)
    exact fn_ret hst3 hfr3 rfl (.tmp rfl <| .nil) (by rw [hr]; rfl)
  · try simp only [Bool.not_eq_true', Bool.not_eq_false', decide_eq_true_eq, decide_eq_false_iff_not, Bool.and_eq_true, Bool.or_eq_true, Bool.and_eq_false_iff, Bool.or_eq_false_iff, Bool.not_not, u8_eq] at hb10
    have hln : l.length = k.length := by omega
    refine wp_skip ?_
    refine hK2 _ _ ?_; try clear hK2 K2
    refine seq_any fun K6 hK6 => ?_
    refine seq_any fun K7 hK7 => ?_
    refine region_plain (fun h => by cases h) hst2 hfr2 (by kernel_rfl) (by kernel_rfl) (.cons rfl (ob_assign rfl) <|
        .nil) ?_
    intro a3 w3 m3 hst3 hle3 hk3
    have hfr3 := hk3.fr (T' := [(0, _), (1, _), (4, _), (5, _)]) (.old rfl rfl <| .old rfl rfl <| .old rfl rfl <| .new rfl <| .nil)
    replace h_l := h_l.mono hle3
    replace h_k := h_k.mono hle3
    replace hM := hM.trans hle3
    clear hst2 hfr2 hk3
    refine hK7 _ _ ?_; try clear hK7 K7
    refine wp_block ?_
    refine loop_any (T := [(0, _), (1, _), (4, _)]) (fun (y : Nat) => ([(5, .int .i64 (y : Int))] : List (Nat × Value))) (fun _ => _) (fun (y : Nat) m => (y ≤ l.length) ∧ (all2 (fun a b => decide (a = b)) l k = all2 (fun a b => decide (a = b)) (l.drop y) (k.drop y))) (fun y => l.length - y) (0) ⟨hst3, MLe.refl _, hfr3.sub (.cons rfl <| .cons rfl <| .cons rfl <| .cons rfl <| .nil), ⟨Nat.zero_le _, rfl⟩⟩ fun y a4 w4 m4 hh4 => ?_
    have hst4 := hh4.st; have hle4 := hh4.le; have hfr4 := hh4.fr; have hrel := hh4.rel; clear hh4
    replace h_l := h_l.mono hle4
    replace h_k := h_k.mono hle4
    clear hst3 hfr3
    replace hM := hM.trans hle4
    obtain ⟨hyn, hrem⟩ := hrel
    have hlh4 := hle4
    refine seq_any fun K9 hK9 => ?_
    refine seq_any fun K10 hK10 => ?_
    refine region_plain (fun h => by cases h) hst4 hfr4 (by kernel_rfl) (by kernel_rfl) (.cons rfl (ob_move rfl) <|
        .cons rfl (ob_move rfl) <|
        .cons rfl (ob_len rfl Tryd.underlying35) <|
        .cons rfl (ob_lss rfl rfl) <|
        .nil) ?_
    intro a5 w5 m5 hst5 hle5 hk5
    have hfr5 := hk5.fr (T' := [(5, _), (0, _), (1, _), (4, _), (14, _)]) (.old rfl rfl <| .old rfl rfl <| .old rfl rfl <| .old rfl rfl <| .new rfl <| .nil)
    replace h_l := h_l.mono hle5
    replace h_k := h_k.mono hle5
    have hlh5 := hlh4.trans hle5
    replace hM := hM.trans hle5
    clear hst4 hfr4 hk5
    refine hK10 _ _ ?_; try clear hK10 K10
    refine cond_any hfr5 rfl rfl (fun hb14 => ?_) (fun hb14 => ?_)
    · try simp only [Bool.not_eq_true', Bool.not_eq_false', decide_eq_true_eq, decide_eq_false_iff_not, Bool.and_eq_true, Bool.or_eq_true, Bool.and_eq_false_iff, Bool.or_eq_false_iff, Bool.not_not, u8_eq] at hb14
      refine wp_skip ?_
      refine hK9 _ _ ?_; try clear hK9 K9
      refine seq_any fun K11 hK11 => ?_
      refine wp_block ?_
      refine seq_any fun K12 hK12 => ?_
      obtain ⟨p13, vs13, x13, ho13, hd13, hm_x13, ht13, hcv13, hl13, hv13⟩ := h_l.nth (k := y) (by omega)
      cases ho13
      subst hv13
      try rw [hd13] at hrem
      try simp only [all2] at hrem
      obtain ⟨p14, vs14, x14, ho14, hd14, hm_x14, ht14, hcv14, hl14, hv14⟩ := h_k.nth (k := y) (by omega)
      cases ho14
      subst hv14
      try rw [hd14] at hrem
      try simp only [all2] at hrem
      refine region_plain (fun _ => mixed) hst5 hfr5 (by kernel_rfl) (by kernel_rfl) (.cons rfl (ob_move rfl) <|
          .cons rfl (ob_move rfl) <|
          .cons rfl (ob_indexAddr (k := y) rfl rfl Tryd.underlying35 Tryd.sizeOf3 rfl (by omega)) <|
          .cons rfl (ob_load1' rfl hcv13 Tryd.isAgg3 rfl) <|
          .cons rfl (ob_move rfl) <|
          .cons rfl (ob_move rfl) <|
          .cons rfl (ob_indexAddr (k := y) rfl rfl Tryd.underlying35 Tryd.sizeOf3 rfl (by omega)) <|
          .cons rfl (ob_load1' rfl hcv14 Tryd.isAgg3 rfl) <|
          .cons rfl (ob_neq rfl rfl) <|
          .nil) ?_
      intro a6 w6 m6 hst6 hle6 hk6
      have hfr6 := hk6.fr (T' := [(5, _), (0, _), (1, _), (4, _), (25, _)]) (.old rfl rfl <| .old rfl rfl <| .old rfl rfl <| .old rfl rfl <| .new rfl <| .nil)
      replace h_l := h_l.mono hle6
      replace h_k := h_k.mono hle6
      replace hcv13 := hcv13.mono hle6
      replace hcv14 := hcv14.mono hle6
      have hlh6 := hlh5.trans hle6
      replace hM := hM.trans hle6
      clear hst5 hfr5 hk6
      refine hK12 _ _ ?_; try clear hK12 K12
      refine cond_any hfr6 rfl rfl (fun hb25 => ?_) (fun hb25 => ?_)
      · try simp only [Bool.not_eq_true', Bool.not_eq_false', decide_eq_true_eq, decide_eq_false_iff_not, Bool.and_eq_true, Bool.or_eq_true, Bool.and_eq_false_iff, Bool.or_eq_false_iff, Bool.not_not, u8_eq] at hb25
        refine seq_any fun K15 hK15 => ?_
        refine region_plain (fun h => by cases h) hst6 hfr6 (by kernel_rfl) (by kernel_rfl) (.cons rfl (ob_assign rfl) <|
            .nil) ?_
        intro a7 w7 m7 hst7 hle7 hk7
        have hfr7 := hk7.fr (T' := [(5, _), (0, _), (1, _), (4, _)]) (.old rfl rfl <| .old rfl rfl <| .old rfl rfl <| .new rfl <| .nil)
        replace h_l := h_l.mono hle7
        replace h_k := h_k.mono hle7
        replace hcv13 := hcv13.mono hle7
        replace hcv14 := hcv14.mono hle7
        have hlh7 := hlh6.trans hle7
        replace hM := hM.trans hle7
        clear hst6 hfr6 hk7
        refine hK15 _ _ ?_; try clear hK15 K15
        refine wp_ret ?_
        repeat (with_reducible first | refine then_ret ?_ | refine block_ret ?_)
        exact fn_ret hst7 hfr7 rfl (.tmp rfl <| .nil) (by refine congrArg Value.bool ?_; rw [← hae, hrem]; try simp_all)
      · try simp only [Bool.not_eq_true', Bool.not_eq_false', decide_eq_true_eq, decide_eq_false_iff_not, Bool.and_eq_true, Bool.or_eq_true, Bool.and_eq_false_iff, Bool.or_eq_false_iff, Bool.not_not, u8_eq] at hb25
        refine wp_skip ?_
        refine hK11 _ _ ?_; try clear hK11 K11
        refine region_plain (fun h => by cases h) hst6 hfr6 (by kernel_rfl) (by kernel_rfl) (.cons rfl (ob_move rfl) <|
            .cons rfl (ob_add rfl rfl ⟨by omega, by omega⟩) <|
            .cons rfl (ob_assign rfl) <|
            .nil) ?_
        intro a7 w7 m7 hst7 hle7 hk7
        have hfr7 := hk7.fr (T' := [(0, _), (1, _), (4, _), (5, _)]) (.old rfl rfl <| .old rfl rfl <| .old rfl rfl <| .new rfl <| .nil)
        replace h_l := h_l.mono hle7
        replace h_k := h_k.mono hle7
        replace hcv13 := hcv13.mono hle7
        replace hcv14 := hcv14.mono hle7
        have hlh7 := hlh6.trans hle7
        replace hM := hM.trans hle7
        clear hst6 hfr6 hk7
        exact ⟨y + 1, m7, by show l.length - (y + 1) < l.length - y; omega, ⟨hst7, hlh7, hfr7.sub (.cons rfl <| .cons rfl <| .cons rfl <| .cons rfl <| .nil), ⟨by show y + 1 ≤ l.length; omega, by simp_all⟩⟩⟩
    · try simp only [Bool.not_eq_true', Bool.not_eq_false', decide_eq_true_eq, decide_eq_false_iff_not, Bool.and_eq_true, Bool.or_eq_true, Bool.and_eq_false_iff, Bool.or_eq_false_iff, Bool.not_not, u8_eq] at hb14
      have hge : y = l.length := by omega
      rw [List.drop_of_length_le (by omega), List.drop_of_length_le (by omega)] at hrem
      simp only [all2] at hrem
      refine wp_exit ?_
      refine hK6 _ _ ?_; try clear hK6 K6
      refine seq_any fun K17 hK17 => ?_
      refine region_plain (fun h => by cases h) hst5 hfr5 (by kernel_rfl) (by kernel_rfl) (.cons rfl (ob_assign rfl) <|
          .nil) ?_
      intro a6 w6 m6 hst6 hle6 hk6
      have hfr6 := hk6.fr (T' := [(5, _), (0, _), (1, _), (4, _)]) (.old rfl rfl <| .old rfl rfl <| .old rfl rfl <| .new rfl <| .nil)
      replace h_l := h_l.mono hle6
      replace h_k := h_k.mono hle6
      have hlh6 := hlh5.trans hle6
      replace hM := hM.trans hle6
      clear hst5 hfr5 hk6
      refine hK17 _ _ ?_; try clear hK17 K17
      refine wp_ret ?_
      repeat (with_reducible first | refine then_ret ?_ | refine block_ret ?_)
      exact fn_ret hst6 hfr6 rfl (.tmp rfl <| .nil) (by refine congrArg Value.bool ?_; rw [← hae, hrem]; try simp_all)

theorem foldW_mem : ∀ (k l : List Int) (x : Int), x ∈ l ∨ x ∈ k → x ∈ k.foldl withI l
  | [], l, x, h => by simpa using h
  | y :: k, l, x, h => by
    rw [List.foldl_cons]
    refine foldW_mem k _ x ?_
    have hw : y ∈ withI l y ∧ ∀ z ∈ l, z ∈ withI l y := by
      by_cases hy : y ∈ l
      · rw [withI_in hy]; exact ⟨hy, fun _ h => h⟩
      · rw [withI_out hy]; exact ⟨by simp, fun z hz => List.mem_append_left _ hz⟩
    rcases h with h | h
    · exact .inl (hw.2 x h)
    · rcases List.mem_cons.1 h with rfl | h
      · exact .inl hw.1
      · exact .inr h
theorem foldW_with (s l : List Int) (x : Int) : (withI l x).foldl withI s = withI (l.foldl withI s) x := by
  by_cases h : x ∈ l
  · rw [withI_in h, withI_in (foldW_mem l s x (.inr h))]
  · rw [withI_out h, List.foldl_append]; rfl
theorem foldW_fold (s : List Int) : ∀ (k l : List Int), (k.foldl withI l).foldl withI s = k.foldl withI (l.foldl withI s)
  | [], _ => rfl
  | y :: k, l => by rw [List.foldl_cons, foldW_fold s k, foldW_with]; rfl
def combW (s r : List Int × List Int) : List Int × List Int := (r.1.foldl withI s.1, r.2.foldl withI s.2)
theorem combW_assoc (s r q : List Int × List Int) : combW s (combW r q) = combW (combW s r) q := by
  unfold combW; rw [foldW_fold, foldW_fold]
theorem walk_comb (t : Ty) : ∀ s, walkT t s = combW s (walkT t ([], [])) := by
  induction t using Ty.rec_ with
  | h t ih =>
    have key : ∀ (l : List Ty), (∀ u ∈ l, u ∈ t.args) → ∀ (i : Nat) s, walkTs t.kind t.rv i l s = combW s (walkTs t.kind t.rv i l ([], [])) := by
      intro l
      induction l with
      | nil => intro _ i s; rw [walkTs, walkTs]; rfl
      | cons x l ihl =>
        intro hl i s
        rw [walkTs_cons, walkTs_cons, ihl (fun u hu => hl u (.tail _ hu)), ihl (fun u hu => hl u (.tail _ hu)) (i + 1) (if i = 0 ∧ t.kind = 5 ∧ 0 < t.rv then _ else _), combW_assoc]
        congr 1
        rw [ih x (hl x (.head _)) s]
        split
        · unfold combW; rw [foldW_with]
        · rfl
    intro s
    rw [walkT_eq, walkT_eq t ([], []), key t.args (fun u hu => hu) 0 (if t.kind = 7 then (withI s.1 t.var, s.2) else s), key t.args (fun u hu => hu) 0 (if t.kind = 7 then _ else _), combW_assoc]
    congr 1
    split
    · unfold combW; rfl
    · rfl
theorem walk_fun (a b : Ty) (ls : List Str) (rv : Int) : walkT (funT a ls rv b) ([], []) = combW (if 0 < rv then ((walkT a ([], [])).1, withI (walkT a ([], [])).2 rv) else walkT a ([], [])) (walkT b ([], [])) := by
  rw [← walk_comb]; simp [funT, walkT, walkTs]
theorem deep_fun (a b : Ty) (ls : List Str) (rv : Int) : deepT (funT a ls rv b) = max (deepT a) (deepT b) + 1 := by simp [funT, deepT, deepTs]
theorem right_fun {a b : Ty} {ls : List Str} {rv : Int} (ha : rightT a = true) (hb : rightT b = true) (hr : rowOk ls rv = true) : rightT (funT a ls rv b) = true := by simp [funT, rightT, rightTs, rightTB, arity, ha, hb, hr]
theorem cnt_fun (a b : Ty) (ls : List Str) (rv : Int) : cntT (funT a ls rv b) = cntT a + cntT b + 1 := by simp [funT, cntT, cntTs]

set_option maxHeartbeats 400000 in
theorem typesFuns_c {w : World} {m : Mem} {a : Ty} {vs_a : List Value} {b : Ty} {vs_b : List Value} {r : Rw} {vs_r : List Value} (hA : Agree w m) (h_a : TyR m a vs_a) (h_b : TyR m b vs_b) (h_r : RwR m r vs_r) (hT : Tab w) (hb_a : bulkT a ≤ 2097152) (hb_b : bulkT b ≤ 2097152) : FnV Tryd.prog 5 #[.agg vs_a.toArray, .agg vs_b.toArray, .agg vs_r.toArray] w m (fun _ _ v => v = .bool true) := by
  obtain ⟨o_a, c_a, oL_a, cL_a, rfl, hk_a, hs_a, hi_a, hj_a, hr_a⟩ := h_a.open_
  have hbg_a := hk_a.big; have hcp_a := hk_a.cap; have hbs_a := hs_a.big; have hcs_a := hs_a.cap
  have hrw_a : RwR _ ⟨a.labels, a.rv⟩ _ := ⟨_, _, rfl, hs_a, hr_a⟩
  obtain ⟨o_b, c_b, oL_b, cL_b, rfl, hk_b, hs_b, hi_b, hj_b, hr_b⟩ := h_b.open_
  have hbg_b := hk_b.big; have hcp_b := hk_b.cap; have hbs_b := hs_b.big; have hcs_b := hs_b.cap
  have hrw_b : RwR _ ⟨b.labels, b.rv⟩ _ := ⟨_, _, rfl, hs_b, hr_b⟩
  obtain ⟨o_r, c_r, rfl, hs_r, hr_r⟩ := h_r.open_
  have hbs_r := hs_r.big; have hcs_r := hs_r.cap
  refine fn_enter (vs := [_, _, _]) Tryd.func5 rfl rfl rfl fun a0 hfr0 => ?_
  have hst0 := st_enter hA (loc_nil [] _ w m)
  have hM : MLe m m := MLe.refl m
  have hca := cnt_bulk a
  have hcb := cnt_bulk b
  have emin : (if (100 : Int) < (r.labels.length : Int) then (100 : Int) else (r.labels.length : Int)) = ((min r.labels.length 100 : Nat) : Int) := by split <;> omega
  have hwa := walk_room a ([], [])
  have hwb := walk_room b ([], [])
  simp only [room, List.length_nil] at hwa hwb
  refine seq_any fun K1 hK1 => ?_
  replace hst0 := hst0.more (r := .free) trivial List.nodup_nil (by simp [Res.blocks])
  refine region_any (tch := [(2, 0, (fun v => .blk v _))]) (fun h => by cases h) hst0 hfr0 (by kernel_rfl) (by kernel_rfl) (by kernel_rfl) (.cons rfl (ob_box rfl rfl) <|
      .cons rfl (ob_box rfl rfl) <|
      .consT rfl rfl (fun _ => rfl) rfl (ob_boxL rfl rfl) <|
      .cons rfl (ob_assign rfl) <|
      .nil) ?_
  intro a1 w1 m1 hst1 hle1 hk1
  have hfr1 := hk1.fr (T' := [(0, _), (1, _), (2, _), (6, _)]) (.old rfl rfl <| .old rfl rfl <| .old rfl rfl <| .new rfl <| .nil)
  obtain ⟨g2, e2, hc3⟩ := hk1.ex 3 rfl
  replace hfr1 := hfr1.cons e2
  obtain ⟨g3, e3, hc4⟩ := hk1.ex 4 rfl
  replace hfr1 := hfr1.cons e3
  obtain ⟨g4, e4, _⟩ := hk1.ex 5 rfl
  replace hfr1 := hfr1.cons e4
  replace hst1 := hst1.fin (L' := [_]) (.cons e4 <| .nil)
  replace h_a := h_a.mono hle1
  replace hk_a := hk_a.mono hle1
  replace hs_a := hs_a.mono hle1
  replace hrw_a := hrw_a.mono hle1
  replace h_b := h_b.mono hle1
  replace hk_b := hk_b.mono hle1
  replace hs_b := hs_b.mono hle1
  replace hrw_b := hrw_b.mono hle1
  replace h_r := h_r.mono hle1
  replace hs_r := hs_r.mono hle1
  replace hM := hM.trans hle1
  clear hst0 hfr0 hk1
  refine hK1 _ _ ?_; try clear hK1 K1
  refine seq_any fun K5 hK5 => ?_
  refine region_plain (fun h => by cases h) hst1 hfr1 (by kernel_rfl) (by kernel_rfl) (.cons rfl (ob_callE rfl (.nil) Tryd.call11 (fun w m hK => by have hle_ := KC.le hK; have hA := KC.agree hK; have hM := hM.trans hle_; have hT := tab_keep hT hK.st.ext; have h_a := h_a.mono hle_; have hk_a := hk_a.mono hle_; have hs_a := hs_a.mono hle_; have hrw_a := hrw_a.mono hle_; have h_b := h_b.mono hle_; have hk_b := hk_b.mono hle_; have hs_b := hs_b.mono hle_; have hrw_b := hrw_b.mono hle_; have h_r := h_r.mono hle_; have hs_r := hs_r.mono hle_; have hc3 := hc3.mono hle_; have hc4 := hc4.mono hle_; exact shown_c hA (by first | assumption | omega | simp_all))) <|
      .cons rfl (ob_assign rfl) <|
      .nil) ?_
  intro a2 w2 m2 hst2 hle2 hk2
  have hfr2 := hk2.fr (T' := [(0, _), (1, _), (2, _), (6, _), (3, _), (4, _), (5, _), (7, _)]) (.old rfl rfl <| .old rfl rfl <| .old rfl rfl <| .old rfl rfl <| .old rfl rfl <| .old rfl rfl <| .old rfl rfl <| .new rfl <| .nil)
  replace h_a := h_a.mono hle2
  replace hk_a := hk_a.mono hle2
  replace hs_a := hs_a.mono hle2
  replace hrw_a := hrw_a.mono hle2
  replace h_b := h_b.mono hle2
  replace hk_b := hk_b.mono hle2
  replace hs_b := hs_b.mono hle2
  replace hrw_b := hrw_b.mono hle2
  replace h_r := h_r.mono hle2
  replace hs_r := hs_r.mono hle2
  replace hc3 := hc3.mono hle2
  replace hc4 := hc4.mono hle2
  replace hM := hM.trans hle2
  clear hst1 hfr1 hk2
  refine hK5 _ _ ?_; try clear hK5 K5
  refine seq_any fun K6 hK6 => ?_
  refine region_any (tch := [(8, 0, (fun _ => .blk _ _))]) (fun h => by cases h) hst2 hfr2 (by kernel_rfl) (by kernel_rfl) (by kernel_rfl) (.cons rfl (ob_fieldAddr rfl Tryd.underlying25 rfl Tryd.sizeOf23 rfl) <|
      .cons rfl (ob_loadL (j := 0) rfl rfl Tryd.isAgg23 rfl) <|
      .cons rfl (ob_fieldAddr rfl Tryd.underlying25 rfl Tryd.sizeOf23 rfl) <|
      .cons rfl (ob_loadL (j := 0) rfl rfl Tryd.isAgg23 rfl) <|
      .cons rfl (ob_len rfl Tryd.underlying23) <|
      .cons rfl (ob_min2 rfl rfl) <|
      .cons rfl (ob_slice rfl .none (.some rfl emin) Tryd.underlying23 Tryd.sizeOf9 (by omega) (by omega)) <|
      .cons rfl (ob_fieldAddr rfl Tryd.underlying25 rfl Tryd.sizeOf23 rfl) <|
      .consT rfl rfl (fun _ => rfl) rfl (ob_store rfl rfl rfl Tryd.sizeOf23 rfl rfl rfl) <|
      .nil) ?_
  intro a3 w3 m3 hst3 hle3 hk3
  have hfr3 := hk3.fr (T' := [(0, _), (1, _), (2, _), (6, _), (3, _), (4, _), (5, _), (7, _)]) (.old rfl rfl <| .old rfl rfl <| .old rfl rfl <| .old rfl rfl <| .old rfl rfl <| .old rfl rfl <| .old rfl rfl <| .old rfl rfl <| .nil)
  replace hst3 := hst3.fin (L' := [_]) (.cons rfl <| .nil)
  replace h_a := h_a.mono hle3
  replace hk_a := hk_a.mono hle3
  replace hs_a := hs_a.mono hle3
  replace hrw_a := hrw_a.mono hle3
  replace h_b := h_b.mono hle3
  replace hk_b := hk_b.mono hle3
  replace hs_b := hs_b.mono hle3
  replace hrw_b := hrw_b.mono hle3
  replace h_r := h_r.mono hle3
  replace hs_r := hs_r.mono hle3
  replace hc3 := hc3.mono hle3
  replace hc4 := hc4.mono hle3
  replace hM := hM.trans hle3
  clear hst2 hfr2 hk3
  have hcut : Strs _ _ _ _ _ := hs_r.cut (l := 0) (k := min r.labels.length 100) (Nat.zero_le _) (Nat.min_le_left _ _)
  have hlk : min r.labels.length 100 - 0 = ((r.labels.take (min r.labels.length 100)).drop 0).length := by simp
  generalize (r.labels.take (min r.labels.length 100)).drop 0 = ls at hlk hcut
  rw [hlk] at hcut hst3
  generalize (if c_r = 0 then o_r else o_r.map (·.add (0 * 1))) = oq at hcut hst3
  generalize c_r - 0 = cq at hcut hst3
  have hrw2 : RwR _ ⟨ls, r.var⟩ _ := ⟨_, _, rfl, hcut, hr_r⟩
  have e1_ := deep_fun a b ls r.var
  have e3_ := cnt_fun a b ls r.var
  have e2_ := walk_fun a b ls r.var
  refine hK6 _ _ ?_; try clear hK6 K6
  refine seq_any fun K7 hK7 => ?_
  refine seq_any fun K8 hK8 => ?_
  refine region_plain (fun h => by cases h) hst3 hfr3 (by kernel_rfl) (by kernel_rfl) (.cons rfl (ob_loadS' rfl hc3 Tryd.isAgg27 Tryd.sizeOf27 rfl rfl) <|
      .cons rfl (ob_callE rfl (.cons rfl <| .nil) Tryd.call12 (fun w m hK => by have hle_ := KC.le hK; have hA := KC.agree hK; have hM := hM.trans hle_; have hT := tab_keep hT hK.st.ext; have h_a := h_a.mono hle_; exact count_c a hA h_a (by omega))) <|
      .cons rfl (ob_gtr rfl rfl) <|
      .cons rfl (ob_move rfl) <|
      .cons rfl (ob_loadS' rfl hc4 Tryd.isAgg27 Tryd.sizeOf27 rfl rfl) <|
      .cons rfl (ob_callE rfl (.cons rfl <| .nil) Tryd.call12 (fun w m hK => by have hle_ := KC.le hK; have hA := KC.agree hK; have hM := hM.trans hle_; have hT := tab_keep hT hK.st.ext; have h_b := h_b.mono hle_; exact count_c b hA h_b (by omega))) <|
      .cons rfl (ob_gtr rfl rfl) <|
      .cons rfl (ob_or rfl rfl rfl) <|
      .cons rfl (ob_move rfl) <|
      .cons rfl (ob_loadS' rfl hc3 Tryd.isAgg27 Tryd.sizeOf27 rfl rfl) <|
      .cons rfl (ob_callE rfl (.cons rfl <| .nil) Tryd.call18 (fun w m hK => by have hle_ := KC.le hK; have hA := KC.agree hK; have hM := hM.trans hle_; have hT := tab_keep hT hK.st.ext; have h_a := h_a.mono hle_; exact depth0_c (t := a) hA h_a)) <|
      .cons rfl (ob_gtr rfl rfl) <|
      .cons rfl (ob_or rfl rfl rfl) <|
      .cons rfl (ob_move rfl) <|
      .cons rfl (ob_loadS' rfl hc4 Tryd.isAgg27 Tryd.sizeOf27 rfl rfl) <|
      .cons rfl (ob_callE rfl (.cons rfl <| .nil) Tryd.call18 (fun w m hK => by have hle_ := KC.le hK; have hA := KC.agree hK; have hM := hM.trans hle_; have hT := tab_keep hT hK.st.ext; have h_b := h_b.mono hle_; exact depth0_c (t := b) hA h_b)) <|
      .cons rfl (ob_gtr rfl rfl) <|
      .cons rfl (ob_or rfl rfl rfl) <|
      .cons rfl (ob_move rfl) <|
      .cons rfl (ob_loadS' rfl hc3 Tryd.isAgg27 Tryd.sizeOf27 rfl rfl) <|
      .cons rfl (ob_callE rfl (.cons rfl <| .nil) Tryd.call13 (fun w m hK => by have hle_ := KC.le hK; have hA := KC.agree hK; have hM := hM.trans hle_; have hT := tab_keep hT hK.st.ext; have h_a := h_a.mono hle_; exact right0_c (t := a) hA h_a)) <|
      .cons rfl (ob_not rfl) <|
      .cons rfl (ob_or rfl rfl rfl) <|
      .cons rfl (ob_move rfl) <|
      .cons rfl (ob_loadS' rfl hc4 Tryd.isAgg27 Tryd.sizeOf27 rfl rfl) <|
      .cons rfl (ob_callE rfl (.cons rfl <| .nil) Tryd.call13 (fun w m hK => by have hle_ := KC.le hK; have hA := KC.agree hK; have hM := hM.trans hle_; have hT := tab_keep hT hK.st.ext; have h_b := h_b.mono hle_; exact right0_c (t := b) hA h_b)) <|
      .cons rfl (ob_not rfl) <|
      .cons rfl (ob_or rfl rfl rfl) <|
      .cons rfl (ob_move rfl) <|
      .cons rfl (ob_loadLS' (j := 0) rfl rfl Tryd.isAgg25 Tryd.sizeOf25 rfl rfl) <|
      .cons rfl (ob_callE rfl (.cons rfl <| .nil) Tryd.call19 (fun w m hK => by have hle_ := KC.le hK; have hA := KC.agree hK; have hM := hM.trans hle_; have hT := tab_keep hT hK.st.ext; have hrw2 := hrw2.mono hle_; exact rightrow_c (r := ⟨ls, r.var⟩) hA hrw2)) <|
      .cons rfl (ob_not rfl) <|
      .cons rfl (ob_or rfl rfl rfl) <|
      .nil) ?_
  intro a4 w4 m4 hst4 hle4 hk4
  have hfr4 := hk4.fr (T' := [(0, _), (1, _), (2, _), (6, _), (3, _), (4, _), (5, _), (7, _), (58, _)]) (.old rfl rfl <| .old rfl rfl <| .old rfl rfl <| .old rfl rfl <| .old rfl rfl <| .old rfl rfl <| .old rfl rfl <| .old rfl rfl <| .new rfl <| .nil)
  replace h_a := h_a.mono hle4
  replace hk_a := hk_a.mono hle4
  replace hs_a := hs_a.mono hle4
  replace hrw_a := hrw_a.mono hle4
  replace h_b := h_b.mono hle4
  replace hk_b := hk_b.mono hle4
  replace hs_b := hs_b.mono hle4
  replace hrw_b := hrw_b.mono hle4
  replace h_r := h_r.mono hle4
  replace hs_r := hs_r.mono hle4
  replace hc3 := hc3.mono hle4
  replace hc4 := hc4.mono hle4
  replace hcut := hcut.mono hle4
  replace hrw2 := hrw2.mono hle4
  replace hM := hM.trans hle4
  clear hst3 hfr3 hk4
  refine hK8 _ _ ?_; try clear hK8 K8
  refine cond_any hfr4 rfl rfl (fun hb58 => ?_) (fun hb58 => ?_)
  · try simp only [Bool.not_eq_true', Bool.not_eq_false', decide_eq_true_eq, decide_eq_false_iff_not, Bool.and_eq_true, Bool.or_eq_true, Bool.and_eq_false_iff, Bool.or_eq_false_iff, Bool.not_not, u8_eq] at hb58
    refine seq_any fun K9 hK9 => ?_
    refine region_plain (fun h => by cases h) hst4 hfr4 (by kernel_rfl) (by kernel_rfl) (.cons rfl (ob_move rfl) <|
        .cons rfl (ob_assign rfl) <|
        .nil) ?_
    intro a5 w5 m5 hst5 hle5 hk5
    have hfr5 := hk5.fr (T' := [(0, _), (1, _), (2, _), (3, _), (4, _), (5, _), (7, _), (6, _)]) (.old rfl rfl <| .old rfl rfl <| .old rfl rfl <| .old rfl rfl <| .old rfl rfl <| .old rfl rfl <| .old rfl rfl <| .new rfl <| .nil)
    replace h_a := h_a.mono hle5
    replace hk_a := hk_a.mono hle5
    replace hs_a := hs_a.mono hle5
    replace hrw_a := hrw_a.mono hle5
    replace h_b := h_b.mono hle5
    replace hk_b := hk_b.mono hle5
    replace hs_b := hs_b.mono hle5
    replace hrw_b := hrw_b.mono hle5
    replace h_r := h_r.mono hle5
    replace hs_r := hs_r.mono hle5
    replace hc3 := hc3.mono hle5
    replace hc4 := hc4.mono hle5
    replace hcut := hcut.mono hle5
    replace hrw2 := hrw2.mono hle5
    replace hM := hM.trans hle5
    clear hst4 hfr4 hk5
    refine hK9 _ _ ?_; try clear hK9 K9
    refine wp_ret ?_
    repeat (with_reducible first | refine then_ret ?_ | refine block_ret ?_)
    exact fn_ret hst5 hfr5 rfl (.tmp rfl <| .nil) (rfl)
  · try simp only [Bool.not_eq_true', Bool.not_eq_false', decide_eq_true_eq, decide_eq_false_iff_not, Bool.and_eq_true, Bool.or_eq_true, Bool.and_eq_false_iff, Bool.or_eq_false_iff, Bool.not_not, u8_eq] at hb58
    have hg1 : deepT a ≤ 150 := by omega
    have hg2 : deepT b ≤ 150 := by omega
    have hg3 : rightT a = true ∧ rightT b = true ∧ rowOk ls r.var = true := by simp_all
    have hg4 := right_fun (a := a) (b := b) hg3.1 hg3.2.1 hg3.2.2
    refine wp_skip ?_
    refine hK7 _ _ ?_; try clear hK7 K7
    refine seq_any fun K11 hK11 => ?_
    replace hst4 := hst4.more (r := .free) trivial List.nodup_nil (by simp [Res.blocks])
    refine region_any (tch := [(4, 1, (fun v => .blk v _)), (5, 1, (fun v => .blkx v _ _))]) (fun h => by cases h) hst4 hfr4 (by kernel_rfl) (by kernel_rfl) (by kernel_rfl) (.cons rfl (ob_loadS' rfl hc3 Tryd.isAgg27 Tryd.sizeOf27 rfl rfl) <|
        .cons rfl (ob_loadLS' (j := 0) rfl rfl Tryd.isAgg25 Tryd.sizeOf25 rfl rfl) <|
        .cons rfl (ob_loadS' rfl hc4 Tryd.isAgg27 Tryd.sizeOf27 rfl rfl) <|
        .cons rfl (ob_call (φ := MP.ty (funT a ls r.var b)) rfl (.cons rfl <| .cons rfl <| .cons rfl <| .nil) Tryd.call20 (fun w m hK => by have hle_ := KC.le hK; have hA := KC.agree hK; have hM := hM.trans hle_; have hT := tab_keep hT hK.st.ext; have h_a := h_a.mono hle_; have h_b := h_b.mono hle_; have hrw2 := hrw2.mono hle_; exact FnG.mono (fun_c (a := a) (r := ⟨ls, r.var⟩) (b := b) hA h_a hrw2 h_b) fun _ _ _ _ h => h)) <|
        .consT rfl rfl (fun _ => rfl) rfl (ob_allocL Tryd.zeroValue27 rfl) <|
        .consT rfl rfl (fun _ => rfl) rfl (ob_imgT 8 rfl rfl rfl fun y8 => ob_imgTX 63 rfl rfl rfl fun y63 => ob_storeF rfl rfl rfl rfl rfl Tryd.sizeOf27 rfl rfl rfl) <|
        .nil) ?_
    intro a5 w5 m5 hst5 hle5 hk5
    have hfr5 := hk5.fr (T' := [(0, _), (1, _), (2, _), (6, _), (3, _), (4, _), (5, _), (7, _)]) (.old rfl rfl <| .old rfl rfl <| .old rfl rfl <| .old rfl rfl <| .old rfl rfl <| .old rfl rfl <| .old rfl rfl <| .old rfl rfl <| .nil)
    obtain ⟨g12, e12, _⟩ := hk5.ex 8 rfl
    replace hfr5 := hfr5.cons e12
    replace hst5 := hst5.fin (L' := [_, _]) (.cons e12 <| .cons e12 <| .nil)
    obtain ⟨⟨⟨oa, ca⟩, ol, cl⟩, hcv, hst5⟩ := hst5.unx (k := 1) rfl (fun _ => rfl)
    replace h_a := h_a.mono hle5
    replace hk_a := hk_a.mono hle5
    replace hs_a := hs_a.mono hle5
    replace hrw_a := hrw_a.mono hle5
    replace h_b := h_b.mono hle5
    replace hk_b := hk_b.mono hle5
    replace hs_b := hs_b.mono hle5
    replace hrw_b := hrw_b.mono hle5
    replace h_r := h_r.mono hle5
    replace hs_r := hs_r.mono hle5
    replace hc3 := hc3.mono hle5
    replace hc4 := hc4.mono hle5
    replace hcut := hcut.mono hle5
    replace hrw2 := hrw2.mono hle5
    replace hM := hM.trans hle5
    clear hst4 hfr4 hk5
    refine hK11 _ _ ?_; try clear hK11 K11
    refine seq_any fun K14 hK14 => ?_
    refine region_any (tch := []) (fun h => by cases h) hst5 hfr5 (by kernel_rfl) (by kernel_rfl) (by kernel_rfl) (.cons rfl (ob_loadLS' (j := 1) rfl rfl Tryd.isAgg27 Tryd.sizeOf27 rfl rfl) <|
        .cons rfl (ob_call (φ := MP.two (walkT (funT a ls r.var b) ([], [])).1 (walkT (funT a ls r.var b) ([], [])).2) rfl (.cons rfl <| .nil) Tryd.call21 (fun w m hK => by have hle_ := KC.le hK; have hA := KC.agree hK; have hM := hM.trans hle_; have hT := tab_keep hT hK.st.ext; have hcv := hcv.mono hle_; exact FnG.mono (vars_c (t := funT a ls r.var b) hA hcv (by omega)) fun _ _ _ _ h => h)) <|
        .cons rfl (ob_imgV 66 rfl rfl rfl fun y66 => ob_move rfl) <|
        .cons rfl (ob_imgV 64 rfl rfl rfl fun y64 => ob_extract rfl rfl) <|
        .cons rfl (ob_imgV 64 rfl rfl rfl fun y64 => ob_extract rfl rfl) <|
        .consA 67 rfl rfl <|
        .consA 68 rfl rfl <|
        .nil) ?_
    intro a6 w6 m6 hst6 hle6 hk6
    have hfr6 := hk6.fr (T' := [(0, _), (1, _), (2, _), (6, _), (3, _), (4, _), (5, _), (7, _), (8, _)]) (.old rfl rfl <| .old rfl rfl <| .old rfl rfl <| .old rfl rfl <| .old rfl rfl <| .old rfl rfl <| .old rfl rfl <| .old rfl rfl <| .old rfl rfl <| .nil)
    obtain ⟨⟨⟨o1, c1⟩, q1⟩, e15, hI1, _⟩ := hk6.ex 67 rfl
    replace hfr6 := hfr6.cons e15
    obtain ⟨⟨q2, o2, c2⟩, e16, _, hI2⟩ := hk6.ex 68 rfl
    replace hfr6 := hfr6.cons e16
    replace hfr6 := hfr6.cons (hk6.same 9 rfl e15)
    replace hfr6 := hfr6.cons (hk6.same 10 rfl e16)
    replace h_a := h_a.mono hle6
    replace hk_a := hk_a.mono hle6
    replace hs_a := hs_a.mono hle6
    replace hrw_a := hrw_a.mono hle6
    replace h_b := h_b.mono hle6
    replace hk_b := hk_b.mono hle6
    replace hs_b := hs_b.mono hle6
    replace hrw_b := hrw_b.mono hle6
    replace h_r := h_r.mono hle6
    replace hs_r := hs_r.mono hle6
    replace hc3 := hc3.mono hle6
    replace hc4 := hc4.mono hle6
    replace hcut := hcut.mono hle6
    replace hrw2 := hrw2.mono hle6
    replace hcv := hcv.mono hle6
    replace hM := hM.trans hle6
    clear hst5 hfr5 hk6
    refine hK14 _ _ ?_; try clear hK14 K14
    refine seq_any fun K17 hK17 => ?_
    refine region_any (tch := []) (fun h => by cases h) hst6 hfr6 (by kernel_rfl) (by kernel_rfl) (by kernel_rfl) (.cons rfl (ob_loadS' rfl hc3 Tryd.isAgg27 Tryd.sizeOf27 rfl rfl) <|
        .cons rfl (ob_call (φ := MP.two (walkT a ([], [])).1 (walkT a ([], [])).2) rfl (.cons rfl <| .nil) Tryd.call21 (fun w m hK => by have hle_ := KC.le hK; have hA := KC.agree hK; have hM := hM.trans hle_; have hT := tab_keep hT hK.st.ext; have h_a := h_a.mono hle_; exact FnG.mono (vars_c (t := a) hA h_a (by omega)) fun _ _ _ _ h => h)) <|
        .cons rfl (ob_imgV 71 rfl rfl rfl fun y71 => ob_move rfl) <|
        .cons rfl (ob_imgV 69 rfl rfl rfl fun y69 => ob_extract rfl rfl) <|
        .cons rfl (ob_imgV 69 rfl rfl rfl fun y69 => ob_extract rfl rfl) <|
        .consA 72 rfl rfl <|
        .consA 73 rfl rfl <|
        .nil) ?_
    intro a7 w7 m7 hst7 hle7 hk7
    have hfr7 := hk7.fr (T' := [(0, _), (1, _), (2, _), (6, _), (3, _), (4, _), (5, _), (7, _), (8, _), (9, _), (10, _)]) (.old rfl rfl <| .old rfl rfl <| .old rfl rfl <| .old rfl rfl <| .old rfl rfl <| .old rfl rfl <| .old rfl rfl <| .old rfl rfl <| .old rfl rfl <| .old rfl rfl <| .old rfl rfl <| .nil)
    obtain ⟨⟨⟨o3, c3⟩, q3⟩, e18, hI3, _⟩ := hk7.ex 72 rfl
    replace hfr7 := hfr7.cons e18
    obtain ⟨⟨q4, o4, c4⟩, e19, _, hI4⟩ := hk7.ex 73 rfl
    replace hfr7 := hfr7.cons e19
    replace hfr7 := hfr7.cons (hk7.same 11 rfl e18)
    replace hfr7 := hfr7.cons (hk7.same 12 rfl e19)
    replace h_a := h_a.mono hle7
    replace hk_a := hk_a.mono hle7
    replace hs_a := hs_a.mono hle7
    replace hrw_a := hrw_a.mono hle7
    replace h_b := h_b.mono hle7
    replace hk_b := hk_b.mono hle7
    replace hs_b := hs_b.mono hle7
    replace hrw_b := hrw_b.mono hle7
    replace h_r := h_r.mono hle7
    replace hs_r := hs_r.mono hle7
    replace hc3 := hc3.mono hle7
    replace hc4 := hc4.mono hle7
    replace hcut := hcut.mono hle7
    replace hrw2 := hrw2.mono hle7
    replace hcv := hcv.mono hle7
    replace hI1 := hI1.mono hle7
    replace hI2 := hI2.mono hle7
    replace hM := hM.trans hle7
    clear hst6 hfr6 hk7
    refine hK17 _ _ ?_; try clear hK17 K17
    refine seq_any fun K20 hK20 => ?_
    refine region_any (tch := []) (fun h => by cases h) hst7 hfr7 (by kernel_rfl) (by kernel_rfl) (by kernel_rfl) (.cons rfl (ob_loadS' rfl hc4 Tryd.isAgg27 Tryd.sizeOf27 rfl rfl) <|
        .cons rfl (ob_call (φ := MP.two (walkT b ([], [])).1 (walkT b ([], [])).2) rfl (.cons rfl <| .nil) Tryd.call21 (fun w m hK => by have hle_ := KC.le hK; have hA := KC.agree hK; have hM := hM.trans hle_; have hT := tab_keep hT hK.st.ext; have h_b := h_b.mono hle_; exact FnG.mono (vars_c (t := b) hA h_b (by omega)) fun _ _ _ _ h => h)) <|
        .cons rfl (ob_imgV 76 rfl rfl rfl fun y76 => ob_move rfl) <|
        .cons rfl (ob_imgV 74 rfl rfl rfl fun y74 => ob_extract rfl rfl) <|
        .cons rfl (ob_imgV 74 rfl rfl rfl fun y74 => ob_extract rfl rfl) <|
        .consA 77 rfl rfl <|
        .consA 78 rfl rfl <|
        .nil) ?_
    intro a8 w8 m8 hst8 hle8 hk8
    have hfr8 := hk8.fr (T' := [(0, _), (1, _), (2, _), (6, _), (3, _), (4, _), (5, _), (7, _), (8, _), (9, _), (10, _), (11, _), (12, _)]) (.old rfl rfl <| .old rfl rfl <| .old rfl rfl <| .old rfl rfl <| .old rfl rfl <| .old rfl rfl <| .old rfl rfl <| .old rfl rfl <| .old rfl rfl <| .old rfl rfl <| .old rfl rfl <| .old rfl rfl <| .old rfl rfl <| .nil)
    obtain ⟨⟨⟨o5, c5⟩, q5⟩, e21, hI5, _⟩ := hk8.ex 77 rfl
    replace hfr8 := hfr8.cons e21
    obtain ⟨⟨q6, o6, c6⟩, e22, _, hI6⟩ := hk8.ex 78 rfl
    replace hfr8 := hfr8.cons e22
    replace hfr8 := hfr8.cons (hk8.same 13 rfl e21)
    replace hfr8 := hfr8.cons (hk8.same 14 rfl e22)
    replace h_a := h_a.mono hle8
    replace hk_a := hk_a.mono hle8
    replace hs_a := hs_a.mono hle8
    replace hrw_a := hrw_a.mono hle8
    replace h_b := h_b.mono hle8
    replace hk_b := hk_b.mono hle8
    replace hs_b := hs_b.mono hle8
    replace hrw_b := hrw_b.mono hle8
    replace h_r := h_r.mono hle8
    replace hs_r := hs_r.mono hle8
    replace hc3 := hc3.mono hle8
    replace hc4 := hc4.mono hle8
    replace hcut := hcut.mono hle8
    replace hrw2 := hrw2.mono hle8
    replace hcv := hcv.mono hle8
    replace hI1 := hI1.mono hle8
    replace hI2 := hI2.mono hle8
    replace hI3 := hI3.mono hle8
    replace hI4 := hI4.mono hle8
    replace hM := hM.trans hle8
    clear hst7 hfr7 hk8
    refine hK20 _ _ ?_; try clear hK20 K20
    refine seq_any fun K23 hK23 => ?_
    refine seq_any fun K24 hK24 => ?_
    refine region_plain (fun _ => mixed) hst8 hfr8 (by kernel_rfl) (by kernel_rfl) (.cons rfl (ob_loadLS' (j := 1) rfl rfl Tryd.isAgg27 Tryd.sizeOf27 rfl rfl) <|
        .cons rfl (ob_callE rfl (.cons rfl <| .nil) Tryd.call13 (fun w m hK => by have hle_ := KC.le hK; have hA := KC.agree hK; have hM := hM.trans hle_; have hT := tab_keep hT hK.st.ext; have hcv := hcv.mono hle_; exact right0_c (t := funT a ls r.var b) hA hcv)) <|
        .cons rfl (ob_not rfl) <|
        .cons rfl (ob_move rfl) <|
        .cons rfl (ob_loadLS' (j := 1) rfl rfl Tryd.isAgg27 Tryd.sizeOf27 rfl rfl) <|
        .cons rfl (ob_callE rfl (.cons rfl <| .nil) Tryd.call18 (fun w m hK => by have hle_ := KC.le hK; have hA := KC.agree hK; have hM := hM.trans hle_; have hT := tab_keep hT hK.st.ext; have hcv := hcv.mono hle_; exact depth0_c (t := funT a ls r.var b) hA hcv)) <|
        .cons rfl (ob_loadS' rfl hc3 Tryd.isAgg27 Tryd.sizeOf27 rfl rfl) <|
        .cons rfl (ob_callE rfl (.cons rfl <| .nil) Tryd.call18 (fun w m hK => by have hle_ := KC.le hK; have hA := KC.agree hK; have hM := hM.trans hle_; have hT := tab_keep hT hK.st.ext; have h_a := h_a.mono hle_; exact depth0_c (t := a) hA h_a)) <|
        .cons rfl (ob_loadS' rfl hc4 Tryd.isAgg27 Tryd.sizeOf27 rfl rfl) <|
        .cons rfl (ob_callE rfl (.cons rfl <| .nil) Tryd.call18 (fun w m hK => by have hle_ := KC.le hK; have hA := KC.agree hK; have hM := hM.trans hle_; have hT := tab_keep hT hK.st.ext; have h_b := h_b.mono hle_; exact depth0_c (t := b) hA h_b)) <|
        .cons rfl (ob_max2 rfl rfl) <|
        .cons rfl (ob_add rfl rfl ⟨by omega, by omega⟩) <|
        .cons rfl (ob_neq rfl rfl) <|
        .cons rfl (ob_or rfl rfl rfl) <|
        .nil) ?_
    intro a9 w9 m9 hst9 hle9 hk9
    have hfr9 := hk9.fr (T' := [(0, _), (1, _), (2, _), (6, _), (3, _), (4, _), (5, _), (7, _), (8, _), (9, _), (10, _), (11, _), (12, _), (13, _), (14, _), (92, _)]) (.old rfl rfl <| .old rfl rfl <| .old rfl rfl <| .old rfl rfl <| .old rfl rfl <| .old rfl rfl <| .old rfl rfl <| .old rfl rfl <| .old rfl rfl <| .old rfl rfl <| .old rfl rfl <| .old rfl rfl <| .old rfl rfl <| .old rfl rfl <| .old rfl rfl <| .new rfl <| .nil)
    replace h_a := h_a.mono hle9
    replace hk_a := hk_a.mono hle9
    replace hs_a := hs_a.mono hle9
    replace hrw_a := hrw_a.mono hle9
    replace h_b := h_b.mono hle9
    replace hk_b := hk_b.mono hle9
    replace hs_b := hs_b.mono hle9
    replace hrw_b := hrw_b.mono hle9
    replace h_r := h_r.mono hle9
    replace hs_r := hs_r.mono hle9
    replace hc3 := hc3.mono hle9
    replace hc4 := hc4.mono hle9
    replace hcut := hcut.mono hle9
    replace hrw2 := hrw2.mono hle9
    replace hcv := hcv.mono hle9
    replace hI1 := hI1.mono hle9
    replace hI2 := hI2.mono hle9
    replace hI3 := hI3.mono hle9
    replace hI4 := hI4.mono hle9
    replace hI5 := hI5.mono hle9
    replace hI6 := hI6.mono hle9
    replace hM := hM.trans hle9
    clear hst8 hfr8 hk9
    refine hK24 _ _ ?_; try clear hK24 K24
    refine cond_any hfr9 rfl rfl (fun hb92 => ?_) (fun hb92 => ?_)
    · exfalso; rw [hg4] at hb92; have q1 : decide (deepT (funT a ls r.var b) ≤ 200) = true := decide_eq_true (by omega); rw [q1] at hb92; simp at hb92; omega
    · try simp only [Bool.not_eq_true', Bool.not_eq_false', decide_eq_true_eq, decide_eq_false_iff_not, Bool.and_eq_true, Bool.or_eq_true, Bool.and_eq_false_iff, Bool.or_eq_false_iff, Bool.not_not, u8_eq] at hb92
      refine wp_skip ?_
      refine hK23 _ _ ?_; try clear hK23 K23
      refine seq_any fun K25 hK25 => ?_
      refine seq_any fun K26 hK26 => ?_
      refine region_plain (fun h => by cases h) hst9 hfr9 (by kernel_rfl) (by kernel_rfl) (.cons rfl (ob_fieldAddr rfl Tryd.underlying25 rfl Tryd.sizeOf3 rfl) <|
          .cons rfl (ob_loadL (j := 0) rfl rfl Tryd.isAgg3 rfl) <|
          .cons rfl (ob_gtr rfl rfl) <|
          .nil) ?_
      intro a10 w10 m10 hst10 hle10 hk10
      have hfr10 := hk10.fr (T' := [(0, _), (1, _), (2, _), (6, _), (3, _), (4, _), (5, _), (7, _), (8, _), (9, _), (10, _), (11, _), (12, _), (13, _), (14, _), (95, _)]) (.old rfl rfl <| .old rfl rfl <| .old rfl rfl <| .old rfl rfl <| .old rfl rfl <| .old rfl rfl <| .old rfl rfl <| .old rfl rfl <| .old rfl rfl <| .old rfl rfl <| .old rfl rfl <| .old rfl rfl <| .old rfl rfl <| .old rfl rfl <| .old rfl rfl <| .new rfl <| .nil)
      replace h_a := h_a.mono hle10
      replace hk_a := hk_a.mono hle10
      replace hs_a := hs_a.mono hle10
      replace hrw_a := hrw_a.mono hle10
      replace h_b := h_b.mono hle10
      replace hk_b := hk_b.mono hle10
      replace hs_b := hs_b.mono hle10
      replace hrw_b := hrw_b.mono hle10
      replace h_r := h_r.mono hle10
      replace hs_r := hs_r.mono hle10
      replace hc3 := hc3.mono hle10
      replace hc4 := hc4.mono hle10
      replace hcut := hcut.mono hle10
      replace hrw2 := hrw2.mono hle10
      replace hcv := hcv.mono hle10
      replace hI1 := hI1.mono hle10
      replace hI2 := hI2.mono hle10
      replace hI3 := hI3.mono hle10
      replace hI4 := hI4.mono hle10
      replace hI5 := hI5.mono hle10
      replace hI6 := hI6.mono hle10
      replace hM := hM.trans hle10
      clear hst9 hfr9 hk10
      refine hK26 _ _ ?_; try clear hK26 K26
      refine cond_any hfr10 rfl rfl (fun hb95 => ?_) (fun hb95 => ?_)
      · try simp only [Bool.not_eq_true', Bool.not_eq_false', decide_eq_true_eq, decide_eq_false_iff_not, Bool.and_eq_true, Bool.or_eq_true, Bool.and_eq_false_iff, Bool.or_eq_false_iff, Bool.not_not, u8_eq] at hb95
        rw [if_pos (by omega)] at e2_
        refine region_any (tch := []) (fun h => by cases h) hst10 hfr10 (by kernel_rfl) (by kernel_rfl) (by kernel_rfl) (.cons rfl (ob_move rfl) <|
            .cons rfl (ob_fieldAddr rfl Tryd.underlying25 rfl Tryd.sizeOf3 rfl) <|
            .cons rfl (ob_loadL (j := 0) rfl rfl Tryd.isAgg3 rfl) <|
            .cons rfl (ob_call (φ := MP.ints (withI (walkT a ([], [])).2 r.var)) rfl (.cons rfl <| .cons rfl <| .nil) Tryd.call22 (fun w m hK => by have hle_ := KC.le hK; have hA := KC.agree hK; have hM := hM.trans hle_; have hT := tab_keep hT hK.st.ext; have hI4 := hI4.mono hle_; exact FnG.mono (withR_c (l := (walkT a ([], [])).2) (n := r.var) hA hI4 (by omega)) fun _ _ _ _ h => h)) <|
            .consA 99 rfl rfl <|
            .nil) ?_
        intro a11 w11 m11 hst11 hle11 hk11
        have hfr11 := hk11.fr (T' := [(0, _), (1, _), (2, _), (6, _), (3, _), (4, _), (5, _), (7, _), (8, _), (9, _), (10, _), (11, _), (13, _), (14, _)]) (.old rfl rfl <| .old rfl rfl <| .old rfl rfl <| .old rfl rfl <| .old rfl rfl <| .old rfl rfl <| .old rfl rfl <| .old rfl rfl <| .old rfl rfl <| .old rfl rfl <| .old rfl rfl <| .old rfl rfl <| .old rfl rfl <| .old rfl rfl <| .nil)
        obtain ⟨⟨o7, c7⟩, e27, hI7⟩ := hk11.ex 99 rfl
        replace hfr11 := hfr11.cons e27
        replace hfr11 := hfr11.cons (hk11.same 12 rfl e27)
        replace h_a := h_a.mono hle11
        replace hk_a := hk_a.mono hle11
        replace hs_a := hs_a.mono hle11
        replace hrw_a := hrw_a.mono hle11
        replace h_b := h_b.mono hle11
        replace hk_b := hk_b.mono hle11
        replace hs_b := hs_b.mono hle11
        replace hrw_b := hrw_b.mono hle11
        replace h_r := h_r.mono hle11
        replace hs_r := hs_r.mono hle11
        replace hc3 := hc3.mono hle11
        replace hc4 := hc4.mono hle11
        replace hcut := hcut.mono hle11
        replace hrw2 := hrw2.mono hle11
        replace hcv := hcv.mono hle11
        replace hI1 := hI1.mono hle11
        replace hI2 := hI2.mono hle11
        replace hI3 := hI3.mono hle11
        replace hI4 := hI4.mono hle11
        replace hI5 := hI5.mono hle11
        replace hI6 := hI6.mono hle11
        replace hM := hM.trans hle11
        clear hst10 hfr10 hk11
        dsimp only [MP.ints, MP.mem] at hI7
        have hvl : (withI (walkT a ([], [])).2 r.var).length ≤ 1000000000 := by have := withI_len (walkT a ([], [])).2 r.var; omega
        refine hK25 _ _ ?_; try clear hK25 K25
        refine seq_any fun K28 hK28 => ?_
        refine seq_any fun K29 hK29 => ?_
        refine region_plain (fun h => by cases h) hst11 hfr11 (by kernel_rfl) (by kernel_rfl) (.cons rfl (ob_assign rfl) <|
            .nil) ?_
        intro a12 w12 m12 hst12 hle12 hk12
        have hfr12 := hk12.fr (T' := [(0, _), (1, _), (2, _), (6, _), (3, _), (4, _), (5, _), (7, _), (8, _), (9, _), (10, _), (11, _), (13, _), (14, _), (12, _), (15, _)]) (.old rfl rfl <| .old rfl rfl <| .old rfl rfl <| .old rfl rfl <| .old rfl rfl <| .old rfl rfl <| .old rfl rfl <| .old rfl rfl <| .old rfl rfl <| .old rfl rfl <| .old rfl rfl <| .old rfl rfl <| .old rfl rfl <| .old rfl rfl <| .old rfl rfl <| .new rfl <| .nil)
        replace h_a := h_a.mono hle12
        replace hk_a := hk_a.mono hle12
        replace hs_a := hs_a.mono hle12
        replace hrw_a := hrw_a.mono hle12
        replace h_b := h_b.mono hle12
        replace hk_b := hk_b.mono hle12
        replace hs_b := hs_b.mono hle12
        replace hrw_b := hrw_b.mono hle12
        replace h_r := h_r.mono hle12
        replace hs_r := hs_r.mono hle12
        replace hc3 := hc3.mono hle12
        replace hc4 := hc4.mono hle12
        replace hcut := hcut.mono hle12
        replace hrw2 := hrw2.mono hle12
        replace hcv := hcv.mono hle12
        replace hI1 := hI1.mono hle12
        replace hI2 := hI2.mono hle12
        replace hI3 := hI3.mono hle12
        replace hI4 := hI4.mono hle12
        replace hI5 := hI5.mono hle12
        replace hI6 := hI6.mono hle12
        replace hI7 := hI7.mono hle12
        replace hM := hM.trans hle12
        clear hst11 hfr11 hk12
        refine hK29 _ _ ?_; try clear hK29 K29
        refine wp_block ?_
        refine loop_any (T := [(0, _), (1, _), (2, _), (6, _), (3, _), (4, _), (5, _), (7, _), (8, _), (9, _), (10, _), (13, _), (14, _), (12, _)]) (fun (y : Nat × Value × List Int) => ([(11, y.2.1), (15, .int .i64 (y.1 : Int))] : List (Nat × Value))) (fun _ => _) (fun (y : Nat × Value × List Int) m => (fun (y : Nat) (uv : Value) (uu : List Int) => (y ≤ (walkT b ([], [])).1.length) ∧ ((MP.ints uu).p m uv) ∧ ((walkT b ([], [])).1.foldl withI ((walkT a ([], [])).1) = ((walkT b ([], [])).1.drop y).foldl withI uu) ∧ (uu.length ≤ ((walkT a ([], [])).1).length + y)) y.1 y.2.1 y.2.2) (fun y => (walkT b ([], [])).1.length - y.1) ((0, .slice o3 ((walkT a ([], [])).1).length c3, (walkT a ([], [])).1)) ⟨hst12, MLe.refl _, hfr12.sub (.cons rfl <| .cons rfl <| .cons rfl <| .cons rfl <| .cons rfl <| .cons rfl <| .cons rfl <| .cons rfl <| .cons rfl <| .cons rfl <| .cons rfl <| .cons rfl <| .cons rfl <| .cons rfl <| .cons rfl <| .cons rfl <| .nil), ⟨Nat.zero_le _, ⟨(o3, c3), rfl, hI3⟩, rfl, Nat.le_refl _⟩⟩ fun y a13 w13 m13 hh13 => ?_
        have hst13 := hh13.st; have hle13 := hh13.le; have hfr13 := hh13.fr; have hrel := hh13.rel; clear hh13
        replace h_a := h_a.mono hle13
        replace hk_a := hk_a.mono hle13
        replace hs_a := hs_a.mono hle13
        replace hrw_a := hrw_a.mono hle13
        replace h_b := h_b.mono hle13
        replace hk_b := hk_b.mono hle13
        replace hs_b := hs_b.mono hle13
        replace hrw_b := hrw_b.mono hle13
        replace h_r := h_r.mono hle13
        replace hs_r := hs_r.mono hle13
        replace hc3 := hc3.mono hle13
        replace hc4 := hc4.mono hle13
        replace hcut := hcut.mono hle13
        replace hrw2 := hrw2.mono hle13
        replace hcv := hcv.mono hle13
        replace hI1 := hI1.mono hle13
        replace hI2 := hI2.mono hle13
        replace hI3 := hI3.mono hle13
        replace hI4 := hI4.mono hle13
        replace hI5 := hI5.mono hle13
        replace hI6 := hI6.mono hle13
        replace hI7 := hI7.mono hle13
        clear hst12 hfr12
        replace hM := hM.trans hle13
        obtain ⟨y, uv, uu⟩ := y
        dsimp only at hrel hfr13 hst13
        obtain ⟨hyn, hJu, hfo, hul⟩ := hrel
        obtain ⟨⟨uo, uc⟩, rfl, hIu⟩ := hJu
        dsimp only [MP.ints, MP.mem] at hIu
        have hlh13 := hle13
        refine seq_any fun K31 hK31 => ?_
        refine seq_any fun K32 hK32 => ?_
        refine region_plain (fun h => by cases h) hst13 hfr13 (by kernel_rfl) (by kernel_rfl) (.cons rfl (ob_move rfl) <|
            .cons rfl (ob_move rfl) <|
            .cons rfl (ob_len rfl Tryd.underlying35) <|
            .cons rfl (ob_lss rfl rfl) <|
            .nil) ?_
        intro a14 w14 m14 hst14 hle14 hk14
        have hfr14 := hk14.fr (T' := [(11, _), (15, _), (0, _), (1, _), (2, _), (6, _), (3, _), (4, _), (5, _), (7, _), (8, _), (9, _), (10, _), (13, _), (14, _), (12, _), (103, _)]) (.old rfl rfl <| .old rfl rfl <| .old rfl rfl <| .old rfl rfl <| .old rfl rfl <| .old rfl rfl <| .old rfl rfl <| .old rfl rfl <| .old rfl rfl <| .old rfl rfl <| .old rfl rfl <| .old rfl rfl <| .old rfl rfl <| .old rfl rfl <| .old rfl rfl <| .old rfl rfl <| .new rfl <| .nil)
        replace h_a := h_a.mono hle14
        replace hk_a := hk_a.mono hle14
        replace hs_a := hs_a.mono hle14
        replace hrw_a := hrw_a.mono hle14
        replace h_b := h_b.mono hle14
        replace hk_b := hk_b.mono hle14
        replace hs_b := hs_b.mono hle14
        replace hrw_b := hrw_b.mono hle14
        replace h_r := h_r.mono hle14
        replace hs_r := hs_r.mono hle14
        replace hc3 := hc3.mono hle14
        replace hc4 := hc4.mono hle14
        replace hcut := hcut.mono hle14
        replace hrw2 := hrw2.mono hle14
        replace hcv := hcv.mono hle14
        replace hI1 := hI1.mono hle14
        replace hI2 := hI2.mono hle14
        replace hI3 := hI3.mono hle14
        replace hI4 := hI4.mono hle14
        replace hI5 := hI5.mono hle14
        replace hI6 := hI6.mono hle14
        replace hI7 := hI7.mono hle14
        replace hIu := hIu.mono hle14
        have hlh14 := hlh13.trans hle14
        replace hM := hM.trans hle14
        clear hst13 hfr13 hk14
        refine hK32 _ _ ?_; try clear hK32 K32
        refine cond_any hfr14 rfl rfl (fun hb103 => ?_) (fun hb103 => ?_)
        · try simp only [Bool.not_eq_true', Bool.not_eq_false', decide_eq_true_eq, decide_eq_false_iff_not, Bool.and_eq_true, Bool.or_eq_true, Bool.and_eq_false_iff, Bool.or_eq_false_iff, Bool.not_not, u8_eq] at hb103
          refine wp_skip ?_
          refine hK31 _ _ ?_; try clear hK31 K31
          refine seq_any fun K33 hK33 => ?_
          refine wp_block ?_
          obtain ⟨p34, vs34, x34, ho34, hd34, hm_x34, ht34, hcv34, hl34, hv34⟩ := hI5.nth (k := y) (by omega)
          cases ho34
          subst hv34
          refine region_any (tch := []) (fun h => by cases h) hst14 hfr14 (by kernel_rfl) (by kernel_rfl) (by kernel_rfl) (.cons rfl (ob_move rfl) <|
              .cons rfl (ob_move rfl) <|
              .cons rfl (ob_move rfl) <|
              .cons rfl (ob_indexAddr (k := y) rfl rfl Tryd.underlying35 Tryd.sizeOf3 rfl (by omega)) <|
              .cons rfl (ob_load1' rfl hcv34 Tryd.isAgg3 rfl) <|
              .cons rfl (ob_call (φ := MP.ints (withI uu x34)) rfl (.cons rfl <| .cons rfl <| .nil) Tryd.call22 (fun w m hK => by have hle_ := KC.le hK; have hA := KC.agree hK; have hM := hM.trans hle_; have hT := tab_keep hT hK.st.ext; have hIu := hIu.mono hle_; exact FnG.mono (withR_c (l := uu) (n := x34) hA hIu (by omega)) fun _ _ _ _ h => h)) <|
              .consA 111 rfl rfl <|
              .nil) ?_
          intro a15 w15 m15 hst15 hle15 hk15
          have hfr15 := hk15.fr (T' := [(15, _), (0, _), (1, _), (2, _), (6, _), (3, _), (4, _), (5, _), (7, _), (8, _), (9, _), (10, _), (13, _), (14, _), (12, _)]) (.old rfl rfl <| .old rfl rfl <| .old rfl rfl <| .old rfl rfl <| .old rfl rfl <| .old rfl rfl <| .old rfl rfl <| .old rfl rfl <| .old rfl rfl <| .old rfl rfl <| .old rfl rfl <| .old rfl rfl <| .old rfl rfl <| .old rfl rfl <| .old rfl rfl <| .nil)
          obtain ⟨⟨o8, c8⟩, e35, hI8⟩ := hk15.ex 111 rfl
          replace hfr15 := hfr15.cons e35
          replace hfr15 := hfr15.cons (hk15.same 11 rfl e35)
          replace h_a := h_a.mono hle15
          replace hk_a := hk_a.mono hle15
          replace hs_a := hs_a.mono hle15
          replace hrw_a := hrw_a.mono hle15
          replace h_b := h_b.mono hle15
          replace hk_b := hk_b.mono hle15
          replace hs_b := hs_b.mono hle15
          replace hrw_b := hrw_b.mono hle15
          replace h_r := h_r.mono hle15
          replace hs_r := hs_r.mono hle15
          replace hc3 := hc3.mono hle15
          replace hc4 := hc4.mono hle15
          replace hcut := hcut.mono hle15
          replace hrw2 := hrw2.mono hle15
          replace hcv := hcv.mono hle15
          replace hI1 := hI1.mono hle15
          replace hI2 := hI2.mono hle15
          replace hI3 := hI3.mono hle15
          replace hI4 := hI4.mono hle15
          replace hI5 := hI5.mono hle15
          replace hI6 := hI6.mono hle15
          replace hI7 := hI7.mono hle15
          replace hIu := hIu.mono hle15
          replace hcv34 := hcv34.mono hle15
          have hlh15 := hlh14.trans hle15
          replace hM := hM.trans hle15
          clear hst14 hfr14 hk15
          refine hK33 _ _ ?_; try clear hK33 K33
          refine region_plain (fun h => by cases h) hst15 hfr15 (by kernel_rfl) (by kernel_rfl) (.cons rfl (ob_move rfl) <|
              .cons rfl (ob_add rfl rfl ⟨by omega, by omega⟩) <|
              .cons rfl (ob_assign rfl) <|
              .nil) ?_
          intro a16 w16 m16 hst16 hle16 hk16
          have hfr16 := hk16.fr (T' := [(0, _), (1, _), (2, _), (6, _), (3, _), (4, _), (5, _), (7, _), (8, _), (9, _), (10, _), (13, _), (14, _), (12, _), (11, _), (15, _)]) (.old rfl rfl <| .old rfl rfl <| .old rfl rfl <| .old rfl rfl <| .old rfl rfl <| .old rfl rfl <| .old rfl rfl <| .old rfl rfl <| .old rfl rfl <| .old rfl rfl <| .old rfl rfl <| .old rfl rfl <| .old rfl rfl <| .old rfl rfl <| .old rfl rfl <| .new rfl <| .nil)
          replace h_a := h_a.mono hle16
          replace hk_a := hk_a.mono hle16
          replace hs_a := hs_a.mono hle16
          replace hrw_a := hrw_a.mono hle16
          replace h_b := h_b.mono hle16
          replace hk_b := hk_b.mono hle16
          replace hs_b := hs_b.mono hle16
          replace hrw_b := hrw_b.mono hle16
          replace h_r := h_r.mono hle16
          replace hs_r := hs_r.mono hle16
          replace hc3 := hc3.mono hle16
          replace hc4 := hc4.mono hle16
          replace hcut := hcut.mono hle16
          replace hrw2 := hrw2.mono hle16
          replace hcv := hcv.mono hle16
          replace hI1 := hI1.mono hle16
          replace hI2 := hI2.mono hle16
          replace hI3 := hI3.mono hle16
          replace hI4 := hI4.mono hle16
          replace hI5 := hI5.mono hle16
          replace hI6 := hI6.mono hle16
          replace hI7 := hI7.mono hle16
          replace hIu := hIu.mono hle16
          replace hcv34 := hcv34.mono hle16
          replace hI8 := hI8.mono hle16
          have hlh16 := hlh15.trans hle16
          replace hM := hM.trans hle16
          clear hst15 hfr15 hk16
          exact ⟨(y + 1, _, withI uu x34), m16, by show (walkT b ([], [])).1.length - (y + 1) < (walkT b ([], [])).1.length - y; omega, ⟨hst16, hlh16, hfr16.sub (.cons rfl <| .cons rfl <| .cons rfl <| .cons rfl <| .cons rfl <| .cons rfl <| .cons rfl <| .cons rfl <| .cons rfl <| .cons rfl <| .cons rfl <| .cons rfl <| .cons rfl <| .cons rfl <| .cons rfl <| .cons rfl <| .nil), ⟨by show y + 1 ≤ (walkT b ([], [])).1.length; omega, ⟨(o8, c8), rfl, hI8⟩, by rw [hfo, hd34]; rfl, by have := withI_len uu x34; show (withI uu x34).length ≤ _ + (y + 1); omega⟩⟩⟩
        · try simp only [Bool.not_eq_true', Bool.not_eq_false', decide_eq_true_eq, decide_eq_false_iff_not, Bool.and_eq_true, Bool.or_eq_true, Bool.and_eq_false_iff, Bool.or_eq_false_iff, Bool.not_not, u8_eq] at hb103
          have hge : y = (walkT b ([], [])).1.length := by omega
          rw [List.drop_of_length_le (by omega), List.foldl_nil] at hfo
          have FU := hfo; have hFU := hIu
          refine wp_exit ?_
          refine hK28 _ _ ?_; try clear hK28 K28
          refine seq_any fun K36 hK36 => ?_
          refine seq_any fun K37 hK37 => ?_
          refine region_plain (fun h => by cases h) hst14 hfr14 (by kernel_rfl) (by kernel_rfl) (.cons rfl (ob_assign rfl) <|
              .nil) ?_
          intro a15 w15 m15 hst15 hle15 hk15
          have hfr15 := hk15.fr (T' := [(11, _), (15, _), (0, _), (1, _), (2, _), (6, _), (3, _), (4, _), (5, _), (7, _), (8, _), (9, _), (10, _), (13, _), (14, _), (12, _), (16, _)]) (.old rfl rfl <| .old rfl rfl <| .old rfl rfl <| .old rfl rfl <| .old rfl rfl <| .old rfl rfl <| .old rfl rfl <| .old rfl rfl <| .old rfl rfl <| .old rfl rfl <| .old rfl rfl <| .old rfl rfl <| .old rfl rfl <| .old rfl rfl <| .old rfl rfl <| .old rfl rfl <| .new rfl <| .nil)
          replace h_a := h_a.mono hle15
          replace hk_a := hk_a.mono hle15
          replace hs_a := hs_a.mono hle15
          replace hrw_a := hrw_a.mono hle15
          replace h_b := h_b.mono hle15
          replace hk_b := hk_b.mono hle15
          replace hs_b := hs_b.mono hle15
          replace hrw_b := hrw_b.mono hle15
          replace h_r := h_r.mono hle15
          replace hs_r := hs_r.mono hle15
          replace hc3 := hc3.mono hle15
          replace hc4 := hc4.mono hle15
          replace hcut := hcut.mono hle15
          replace hrw2 := hrw2.mono hle15
          replace hcv := hcv.mono hle15
          replace hI1 := hI1.mono hle15
          replace hI2 := hI2.mono hle15
          replace hI3 := hI3.mono hle15
          replace hI4 := hI4.mono hle15
          replace hI5 := hI5.mono hle15
          replace hI6 := hI6.mono hle15
          replace hI7 := hI7.mono hle15
          replace hIu := hIu.mono hle15
          replace hFU := hFU.mono hle15
          have hlh15 := hlh14.trans hle15
          replace hM := hM.trans hle15
          clear hst14 hfr14 hk15
          refine hK37 _ _ ?_; try clear hK37 K37
          refine wp_block ?_
          have hlq38 := hlh15
          refine loop_any (T := [(11, _), (15, _), (0, _), (1, _), (2, _), (6, _), (3, _), (4, _), (5, _), (7, _), (8, _), (9, _), (10, _), (13, _), (14, _)]) (fun (y : Nat × Value × List Int) => ([(12, y.2.1), (16, .int .i64 (y.1 : Int))] : List (Nat × Value))) (fun _ => _) (fun (y : Nat × Value × List Int) m => (fun (y : Nat) (uv : Value) (uu : List Int) => (y ≤ (walkT b ([], [])).2.length) ∧ ((MP.ints uu).p m uv) ∧ ((walkT b ([], [])).2.foldl withI (withI (walkT a ([], [])).2 r.var) = ((walkT b ([], [])).2.drop y).foldl withI uu) ∧ (uu.length ≤ (withI (walkT a ([], [])).2 r.var).length + y)) y.1 y.2.1 y.2.2) (fun y => (walkT b ([], [])).2.length - y.1) ((0, .slice o7 (withI (walkT a ([], [])).2 r.var).length c7, withI (walkT a ([], [])).2 r.var)) ⟨hst15, MLe.refl _, hfr15.sub (.cons rfl <| .cons rfl <| .cons rfl <| .cons rfl <| .cons rfl <| .cons rfl <| .cons rfl <| .cons rfl <| .cons rfl <| .cons rfl <| .cons rfl <| .cons rfl <| .cons rfl <| .cons rfl <| .cons rfl <| .cons rfl <| .cons rfl <| .nil), ⟨Nat.zero_le _, ⟨(o7, c7), rfl, hI7⟩, rfl, Nat.le_refl _⟩⟩ fun y a16 w16 m16 hh16 => ?_
          have hst16 := hh16.st; have hle16 := hh16.le; have hfr16 := hh16.fr; have hrel := hh16.rel; clear hh16
          replace h_a := h_a.mono hle16
          replace hk_a := hk_a.mono hle16
          replace hs_a := hs_a.mono hle16
          replace hrw_a := hrw_a.mono hle16
          replace h_b := h_b.mono hle16
          replace hk_b := hk_b.mono hle16
          replace hs_b := hs_b.mono hle16
          replace hrw_b := hrw_b.mono hle16
          replace h_r := h_r.mono hle16
          replace hs_r := hs_r.mono hle16
          replace hc3 := hc3.mono hle16
          replace hc4 := hc4.mono hle16
          replace hcut := hcut.mono hle16
          replace hrw2 := hrw2.mono hle16
          replace hcv := hcv.mono hle16
          replace hI1 := hI1.mono hle16
          replace hI2 := hI2.mono hle16
          replace hI3 := hI3.mono hle16
          replace hI4 := hI4.mono hle16
          replace hI5 := hI5.mono hle16
          replace hI6 := hI6.mono hle16
          replace hI7 := hI7.mono hle16
          replace hIu := hIu.mono hle16
          replace hFU := hFU.mono hle16
          clear hst15 hfr15
          replace hM := hM.trans hle16
          obtain ⟨y, uv, uu⟩ := y
          dsimp only at hrel hfr16 hst16
          obtain ⟨hyn, hJu, hfo, hul⟩ := hrel
          obtain ⟨⟨uo, uc⟩, rfl, hIu⟩ := hJu
          dsimp only [MP.ints, MP.mem] at hIu
          replace hlq38 := hlq38.trans hle16
          have hlh16 := hle16
          refine seq_any fun K39 hK39 => ?_
          refine seq_any fun K40 hK40 => ?_
          refine region_plain (fun h => by cases h) hst16 hfr16 (by kernel_rfl) (by kernel_rfl) (.cons rfl (ob_move rfl) <|
              .cons rfl (ob_move rfl) <|
              .cons rfl (ob_len rfl Tryd.underlying35) <|
              .cons rfl (ob_lss rfl rfl) <|
              .nil) ?_
          intro a17 w17 m17 hst17 hle17 hk17
          have hfr17 := hk17.fr (T' := [(12, _), (16, _), (11, _), (15, _), (0, _), (1, _), (2, _), (6, _), (3, _), (4, _), (5, _), (7, _), (8, _), (9, _), (10, _), (13, _), (14, _), (115, _)]) (.old rfl rfl <| .old rfl rfl <| .old rfl rfl <| .old rfl rfl <| .old rfl rfl <| .old rfl rfl <| .old rfl rfl <| .old rfl rfl <| .old rfl rfl <| .old rfl rfl <| .old rfl rfl <| .old rfl rfl <| .old rfl rfl <| .old rfl rfl <| .old rfl rfl <| .old rfl rfl <| .old rfl rfl <| .new rfl <| .nil)
          replace h_a := h_a.mono hle17
          replace hk_a := hk_a.mono hle17
          replace hs_a := hs_a.mono hle17
          replace hrw_a := hrw_a.mono hle17
          replace h_b := h_b.mono hle17
          replace hk_b := hk_b.mono hle17
          replace hs_b := hs_b.mono hle17
          replace hrw_b := hrw_b.mono hle17
          replace h_r := h_r.mono hle17
          replace hs_r := hs_r.mono hle17
          replace hc3 := hc3.mono hle17
          replace hc4 := hc4.mono hle17
          replace hcut := hcut.mono hle17
          replace hrw2 := hrw2.mono hle17
          replace hcv := hcv.mono hle17
          replace hI1 := hI1.mono hle17
          replace hI2 := hI2.mono hle17
          replace hI3 := hI3.mono hle17
          replace hI4 := hI4.mono hle17
          replace hI5 := hI5.mono hle17
          replace hI6 := hI6.mono hle17
          replace hI7 := hI7.mono hle17
          replace hIu := hIu.mono hle17
          replace hFU := hFU.mono hle17
          have hlh17 := hlh16.trans hle17
          replace hlq38 := hlq38.trans hle17
          replace hM := hM.trans hle17
          clear hst16 hfr16 hk17
          refine hK40 _ _ ?_; try clear hK40 K40
          refine cond_any hfr17 rfl rfl (fun hb115 => ?_) (fun hb115 => ?_)
          · try simp only [Bool.not_eq_true', Bool.not_eq_false', decide_eq_true_eq, decide_eq_false_iff_not, Bool.and_eq_true, Bool.or_eq_true, Bool.and_eq_false_iff, Bool.or_eq_false_iff, Bool.not_not, u8_eq] at hb115
            refine wp_skip ?_
            refine hK39 _ _ ?_; try clear hK39 K39
            refine seq_any fun K41 hK41 => ?_
            refine wp_block ?_
            obtain ⟨p42, vs42, x42, ho42, hd42, hm_x42, ht42, hcv42, hl42, hv42⟩ := hI6.nth (k := y) (by omega)
            cases ho42
            subst hv42
            refine region_any (tch := []) (fun h => by cases h) hst17 hfr17 (by kernel_rfl) (by kernel_rfl) (by kernel_rfl) (.cons rfl (ob_move rfl) <|
                .cons rfl (ob_move rfl) <|
                .cons rfl (ob_move rfl) <|
                .cons rfl (ob_indexAddr (k := y) rfl rfl Tryd.underlying35 Tryd.sizeOf3 rfl (by omega)) <|
                .cons rfl (ob_load1' rfl hcv42 Tryd.isAgg3 rfl) <|
                .cons rfl (ob_call (φ := MP.ints (withI uu x42)) rfl (.cons rfl <| .cons rfl <| .nil) Tryd.call22 (fun w m hK => by have hle_ := KC.le hK; have hA := KC.agree hK; have hM := hM.trans hle_; have hT := tab_keep hT hK.st.ext; have hIu := hIu.mono hle_; exact FnG.mono (withR_c (l := uu) (n := x42) hA hIu (by omega)) fun _ _ _ _ h => h)) <|
                .consA 123 rfl rfl <|
                .nil) ?_
            intro a18 w18 m18 hst18 hle18 hk18
            have hfr18 := hk18.fr (T' := [(16, _), (11, _), (15, _), (0, _), (1, _), (2, _), (6, _), (3, _), (4, _), (5, _), (7, _), (8, _), (9, _), (10, _), (13, _), (14, _)]) (.old rfl rfl <| .old rfl rfl <| .old rfl rfl <| .old rfl rfl <| .old rfl rfl <| .old rfl rfl <| .old rfl rfl <| .old rfl rfl <| .old rfl rfl <| .old rfl rfl <| .old rfl rfl <| .old rfl rfl <| .old rfl rfl <| .old rfl rfl <| .old rfl rfl <| .old rfl rfl <| .nil)
            obtain ⟨⟨o8, c8⟩, e43, hI8⟩ := hk18.ex 123 rfl
            replace hfr18 := hfr18.cons e43
            replace hfr18 := hfr18.cons (hk18.same 12 rfl e43)
            replace h_a := h_a.mono hle18
            replace hk_a := hk_a.mono hle18
            replace hs_a := hs_a.mono hle18
            replace hrw_a := hrw_a.mono hle18
            replace h_b := h_b.mono hle18
            replace hk_b := hk_b.mono hle18
            replace hs_b := hs_b.mono hle18
            replace hrw_b := hrw_b.mono hle18
            replace h_r := h_r.mono hle18
            replace hs_r := hs_r.mono hle18
            replace hc3 := hc3.mono hle18
            replace hc4 := hc4.mono hle18
            replace hcut := hcut.mono hle18
            replace hrw2 := hrw2.mono hle18
            replace hcv := hcv.mono hle18
            replace hI1 := hI1.mono hle18
            replace hI2 := hI2.mono hle18
            replace hI3 := hI3.mono hle18
            replace hI4 := hI4.mono hle18
            replace hI5 := hI5.mono hle18
            replace hI6 := hI6.mono hle18
            replace hI7 := hI7.mono hle18
            replace hIu := hIu.mono hle18
            replace hFU := hFU.mono hle18
            replace hcv42 := hcv42.mono hle18
            have hlh18 := hlh17.trans hle18
            replace hlq38 := hlq38.trans hle18
            replace hM := hM.trans hle18
            clear hst17 hfr17 hk18
            refine hK41 _ _ ?_; try clear hK41 K41
            refine region_plain (fun h => by cases h) hst18 hfr18 (by kernel_rfl) (by kernel_rfl) (.cons rfl (ob_move rfl) <|
                .cons rfl (ob_add rfl rfl ⟨by omega, by omega⟩) <|
                .cons rfl (ob_assign rfl) <|
                .nil) ?_
            intro a19 w19 m19 hst19 hle19 hk19
            have hfr19 := hk19.fr (T' := [(11, _), (15, _), (0, _), (1, _), (2, _), (6, _), (3, _), (4, _), (5, _), (7, _), (8, _), (9, _), (10, _), (13, _), (14, _), (12, _), (16, _)]) (.old rfl rfl <| .old rfl rfl <| .old rfl rfl <| .old rfl rfl <| .old rfl rfl <| .old rfl rfl <| .old rfl rfl <| .old rfl rfl <| .old rfl rfl <| .old rfl rfl <| .old rfl rfl <| .old rfl rfl <| .old rfl rfl <| .old rfl rfl <| .old rfl rfl <| .old rfl rfl <| .new rfl <| .nil)
            replace h_a := h_a.mono hle19
            replace hk_a := hk_a.mono hle19
            replace hs_a := hs_a.mono hle19
            replace hrw_a := hrw_a.mono hle19
            replace h_b := h_b.mono hle19
            replace hk_b := hk_b.mono hle19
            replace hs_b := hs_b.mono hle19
            replace hrw_b := hrw_b.mono hle19
            replace h_r := h_r.mono hle19
            replace hs_r := hs_r.mono hle19
            replace hc3 := hc3.mono hle19
            replace hc4 := hc4.mono hle19
            replace hcut := hcut.mono hle19
            replace hrw2 := hrw2.mono hle19
            replace hcv := hcv.mono hle19
            replace hI1 := hI1.mono hle19
            replace hI2 := hI2.mono hle19
            replace hI3 := hI3.mono hle19
            replace hI4 := hI4.mono hle19
            replace hI5 := hI5.mono hle19
            replace hI6 := hI6.mono hle19
            replace hI7 := hI7.mono hle19
            replace hIu := hIu.mono hle19
            replace hFU := hFU.mono hle19
            replace hcv42 := hcv42.mono hle19
            replace hI8 := hI8.mono hle19
            have hlh19 := hlh18.trans hle19
            replace hlq38 := hlq38.trans hle19
            replace hM := hM.trans hle19
            clear hst18 hfr18 hk19
            exact ⟨(y + 1, _, withI uu x42), m19, by show (walkT b ([], [])).2.length - (y + 1) < (walkT b ([], [])).2.length - y; omega, ⟨hst19, hlh19, hfr19.sub (.cons rfl <| .cons rfl <| .cons rfl <| .cons rfl <| .cons rfl <| .cons rfl <| .cons rfl <| .cons rfl <| .cons rfl <| .cons rfl <| .cons rfl <| .cons rfl <| .cons rfl <| .cons rfl <| .cons rfl <| .cons rfl <| .cons rfl <| .nil), ⟨by show y + 1 ≤ (walkT b ([], [])).2.length; omega, ⟨(o8, c8), rfl, hI8⟩, by rw [hfo, hd42]; rfl, by have := withI_len uu x42; show (withI uu x42).length ≤ _ + (y + 1); omega⟩⟩⟩
          · try simp only [Bool.not_eq_true', Bool.not_eq_false', decide_eq_true_eq, decide_eq_false_iff_not, Bool.and_eq_true, Bool.or_eq_true, Bool.and_eq_false_iff, Bool.or_eq_false_iff, Bool.not_not, u8_eq] at hb115
            have hge : y = (walkT b ([], [])).2.length := by omega
            rw [List.drop_of_length_le (by omega), List.foldl_nil] at hfo
            have FV := hfo; have hFV := hIu
            refine wp_exit ?_
            refine hK36 _ _ ?_; try clear hK36 K36
            refine seq_any fun K44 hK44 => ?_
            refine region_plain (fun h => by cases h) hst17 hfr17 (by kernel_rfl) (by kernel_rfl) (.cons rfl (ob_move rfl) <|
                .cons rfl (ob_move rfl) <|
                .cons rfl (ob_move rfl) <|
                .cons rfl (ob_move rfl) <|
                .cons rfl (ob_callE rfl (.cons rfl <| .cons rfl <| .nil) Tryd.call23 (fun w m hK => by have hle_ := KC.le hK; have hA := KC.agree hK; have hM := hM.trans hle_; have hT := tab_keep hT hK.st.ext; have hI1 := hI1.mono hle_; have hFU := hFU.mono hle_; exact sameints_c hA hI1 hFU)) <|
                .cons rfl (ob_and rfl rfl rfl) <|
                .cons rfl (ob_move rfl) <|
                .cons rfl (ob_move rfl) <|
                .cons rfl (ob_move rfl) <|
                .cons rfl (ob_callE rfl (.cons rfl <| .cons rfl <| .nil) Tryd.call23 (fun w m hK => by have hle_ := KC.le hK; have hA := KC.agree hK; have hM := hM.trans hle_; have hT := tab_keep hT hK.st.ext; have hI2 := hI2.mono hle_; have hFV := hFV.mono hle_; exact sameints_c hA hI2 hFV)) <|
                .cons rfl (ob_and rfl rfl rfl) <|
                .cons rfl (ob_assign rfl) <|
                .nil) ?_
            intro a18 w18 m18 hst18 hle18 hk18
            have hfr18 := hk18.fr (T' := [(12, _), (16, _), (11, _), (15, _), (0, _), (1, _), (2, _), (3, _), (4, _), (5, _), (7, _), (8, _), (9, _), (10, _), (13, _), (14, _), (6, _)]) (.old rfl rfl <| .old rfl rfl <| .old rfl rfl <| .old rfl rfl <| .old rfl rfl <| .old rfl rfl <| .old rfl rfl <| .old rfl rfl <| .old rfl rfl <| .old rfl rfl <| .old rfl rfl <| .old rfl rfl <| .old rfl rfl <| .old rfl rfl <| .old rfl rfl <| .old rfl rfl <| .new rfl <| .nil)
            replace h_a := h_a.mono hle18
            replace hk_a := hk_a.mono hle18
            replace hs_a := hs_a.mono hle18
            replace hrw_a := hrw_a.mono hle18
            replace h_b := h_b.mono hle18
            replace hk_b := hk_b.mono hle18
            replace hs_b := hs_b.mono hle18
            replace hrw_b := hrw_b.mono hle18
            replace h_r := h_r.mono hle18
            replace hs_r := hs_r.mono hle18
            replace hc3 := hc3.mono hle18
            replace hc4 := hc4.mono hle18
            replace hcut := hcut.mono hle18
            replace hrw2 := hrw2.mono hle18
            replace hcv := hcv.mono hle18
            replace hI1 := hI1.mono hle18
            replace hI2 := hI2.mono hle18
            replace hI3 := hI3.mono hle18
            replace hI4 := hI4.mono hle18
            replace hI5 := hI5.mono hle18
            replace hI6 := hI6.mono hle18
            replace hI7 := hI7.mono hle18
            replace hIu := hIu.mono hle18
            replace hFU := hFU.mono hle18
            replace hFV := hFV.mono hle18
            have hlh18 := hlh17.trans hle18
            replace hlq38 := hlq38.trans hle18
            replace hM := hM.trans hle18
            clear hst17 hfr17 hk18
            refine hK44 _ _ ?_; try clear hK44 K44
            refine wp_ret ?_
            repeat (with_reducible first | refine then_ret ?_ | refine block_ret ?_)
            exact fn_ret hst18 hfr18 rfl (.tmp rfl <| .nil) (by refine congrArg Value.bool ?_; simp only [Bool.true_and, Bool.and_eq_true, decide_eq_true_eq]; exact ⟨by rw [e2_]; exact FU, by rw [e2_]; exact FV⟩)
      · try simp only [Bool.not_eq_true', Bool.not_eq_false', decide_eq_true_eq, decide_eq_false_iff_not, Bool.and_eq_true, Bool.or_eq_true, Bool.and_eq_false_iff, Bool.or_eq_false_iff, Bool.not_not, u8_eq] at hb95
        rw [if_neg (by omega)] at e2_
        have hvl : ((walkT a ([], [])).2).length ≤ 1000000000 := by omega
        refine wp_skip ?_
        refine hK25 _ _ ?_; try clear hK25 K25
        refine seq_any fun K46 hK46 => ?_
        refine seq_any fun K47 hK47 => ?_
        refine region_plain (fun h => by cases h) hst10 hfr10 (by kernel_rfl) (by kernel_rfl) (.cons rfl (ob_assign rfl) <|
            .nil) ?_
        intro a11 w11 m11 hst11 hle11 hk11
        have hfr11 := hk11.fr (T' := [(0, _), (1, _), (2, _), (6, _), (3, _), (4, _), (5, _), (7, _), (8, _), (9, _), (10, _), (11, _), (12, _), (13, _), (14, _), (15, _)]) (.old rfl rfl <| .old rfl rfl <| .old rfl rfl <| .old rfl rfl <| .old rfl rfl <| .old rfl rfl <| .old rfl rfl <| .old rfl rfl <| .old rfl rfl <| .old rfl rfl <| .old rfl rfl <| .old rfl rfl <| .old rfl rfl <| .old rfl rfl <| .old rfl rfl <| .new rfl <| .nil)
        replace h_a := h_a.mono hle11
        replace hk_a := hk_a.mono hle11
        replace hs_a := hs_a.mono hle11
        replace hrw_a := hrw_a.mono hle11
        replace h_b := h_b.mono hle11
        replace hk_b := hk_b.mono hle11
        replace hs_b := hs_b.mono hle11
        replace hrw_b := hrw_b.mono hle11
        replace h_r := h_r.mono hle11
        replace hs_r := hs_r.mono hle11
        replace hc3 := hc3.mono hle11
        replace hc4 := hc4.mono hle11
        replace hcut := hcut.mono hle11
        replace hrw2 := hrw2.mono hle11
        replace hcv := hcv.mono hle11
        replace hI1 := hI1.mono hle11
        replace hI2 := hI2.mono hle11
        replace hI3 := hI3.mono hle11
        replace hI4 := hI4.mono hle11
        replace hI5 := hI5.mono hle11
        replace hI6 := hI6.mono hle11
        replace hM := hM.trans hle11
        clear hst10 hfr10 hk11
        refine hK47 _ _ ?_; try clear hK47 K47
        refine wp_block ?_
        refine loop_any (T := [(0, _), (1, _), (2, _), (6, _), (3, _), (4, _), (5, _), (7, _), (8, _), (9, _), (10, _), (12, _), (13, _), (14, _)]) (fun (y : Nat × Value × List Int) => ([(11, y.2.1), (15, .int .i64 (y.1 : Int))] : List (Nat × Value))) (fun _ => _) (fun (y : Nat × Value × List Int) m => (fun (y : Nat) (uv : Value) (uu : List Int) => (y ≤ (walkT b ([], [])).1.length) ∧ ((MP.ints uu).p m uv) ∧ ((walkT b ([], [])).1.foldl withI ((walkT a ([], [])).1) = ((walkT b ([], [])).1.drop y).foldl withI uu) ∧ (uu.length ≤ ((walkT a ([], [])).1).length + y)) y.1 y.2.1 y.2.2) (fun y => (walkT b ([], [])).1.length - y.1) ((0, .slice o3 ((walkT a ([], [])).1).length c3, (walkT a ([], [])).1)) ⟨hst11, MLe.refl _, hfr11.sub (.cons rfl <| .cons rfl <| .cons rfl <| .cons rfl <| .cons rfl <| .cons rfl <| .cons rfl <| .cons rfl <| .cons rfl <| .cons rfl <| .cons rfl <| .cons rfl <| .cons rfl <| .cons rfl <| .cons rfl <| .cons rfl <| .nil), ⟨Nat.zero_le _, ⟨(o3, c3), rfl, hI3⟩, rfl, Nat.le_refl _⟩⟩ fun y a12 w12 m12 hh12 => ?_
        have hst12 := hh12.st; have hle12 := hh12.le; have hfr12 := hh12.fr; have hrel := hh12.rel; clear hh12
        replace h_a := h_a.mono hle12
        replace hk_a := hk_a.mono hle12
        replace hs_a := hs_a.mono hle12
        replace hrw_a := hrw_a.mono hle12
        replace h_b := h_b.mono hle12
        replace hk_b := hk_b.mono hle12
        replace hs_b := hs_b.mono hle12
        replace hrw_b := hrw_b.mono hle12
        replace h_r := h_r.mono hle12
        replace hs_r := hs_r.mono hle12
        replace hc3 := hc3.mono hle12
        replace hc4 := hc4.mono hle12
        replace hcut := hcut.mono hle12
        replace hrw2 := hrw2.mono hle12
        replace hcv := hcv.mono hle12
        replace hI1 := hI1.mono hle12
        replace hI2 := hI2.mono hle12
        replace hI3 := hI3.mono hle12
        replace hI4 := hI4.mono hle12
        replace hI5 := hI5.mono hle12
        replace hI6 := hI6.mono hle12
        clear hst11 hfr11
        replace hM := hM.trans hle12
        obtain ⟨y, uv, uu⟩ := y
        dsimp only at hrel hfr12 hst12
        obtain ⟨hyn, hJu, hfo, hul⟩ := hrel
        obtain ⟨⟨uo, uc⟩, rfl, hIu⟩ := hJu
        dsimp only [MP.ints, MP.mem] at hIu
        have hlh12 := hle12
        refine seq_any fun K49 hK49 => ?_
        refine seq_any fun K50 hK50 => ?_
        refine region_plain (fun h => by cases h) hst12 hfr12 (by kernel_rfl) (by kernel_rfl) (.cons rfl (ob_move rfl) <|
            .cons rfl (ob_move rfl) <|
            .cons rfl (ob_len rfl Tryd.underlying35) <|
            .cons rfl (ob_lss rfl rfl) <|
            .nil) ?_
        intro a13 w13 m13 hst13 hle13 hk13
        have hfr13 := hk13.fr (T' := [(11, _), (15, _), (0, _), (1, _), (2, _), (6, _), (3, _), (4, _), (5, _), (7, _), (8, _), (9, _), (10, _), (12, _), (13, _), (14, _), (103, _)]) (.old rfl rfl <| .old rfl rfl <| .old rfl rfl <| .old rfl rfl <| .old rfl rfl <| .old rfl rfl <| .old rfl rfl <| .old rfl rfl <| .old rfl rfl <| .old rfl rfl <| .old rfl rfl <| .old rfl rfl <| .old rfl rfl <| .old rfl rfl <| .old rfl rfl <| .old rfl rfl <| .new rfl <| .nil)
        replace h_a := h_a.mono hle13
        replace hk_a := hk_a.mono hle13
        replace hs_a := hs_a.mono hle13
        replace hrw_a := hrw_a.mono hle13
        replace h_b := h_b.mono hle13
        replace hk_b := hk_b.mono hle13
        replace hs_b := hs_b.mono hle13
        replace hrw_b := hrw_b.mono hle13
        replace h_r := h_r.mono hle13
        replace hs_r := hs_r.mono hle13
        replace hc3 := hc3.mono hle13
        replace hc4 := hc4.mono hle13
        replace hcut := hcut.mono hle13
        replace hrw2 := hrw2.mono hle13
        replace hcv := hcv.mono hle13
        replace hI1 := hI1.mono hle13
        replace hI2 := hI2.mono hle13
        replace hI3 := hI3.mono hle13
        replace hI4 := hI4.mono hle13
        replace hI5 := hI5.mono hle13
        replace hI6 := hI6.mono hle13
        replace hIu := hIu.mono hle13
        have hlh13 := hlh12.trans hle13
        replace hM := hM.trans hle13
        clear hst12 hfr12 hk13
        refine hK50 _ _ ?_; try clear hK50 K50
        refine cond_any hfr13 rfl rfl (fun hb103 => ?_) (fun hb103 => ?_)
        · try simp only [Bool.not_eq_true', Bool.not_eq_false', decide_eq_true_eq, decide_eq_false_iff_not, Bool.and_eq_true, Bool.or_eq_true, Bool.and_eq_false_iff, Bool.or_eq_false_iff, Bool.not_not, u8_eq] at hb103
          refine wp_skip ?_
          refine hK49 _ _ ?_; try clear hK49 K49
          refine seq_any fun K51 hK51 => ?_
          refine wp_block ?_
          obtain ⟨p52, vs52, x52, ho52, hd52, hm_x52, ht52, hcv52, hl52, hv52⟩ := hI5.nth (k := y) (by omega)
          cases ho52
          subst hv52
          refine region_any (tch := []) (fun h => by cases h) hst13 hfr13 (by kernel_rfl) (by kernel_rfl) (by kernel_rfl) (.cons rfl (ob_move rfl) <|
              .cons rfl (ob_move rfl) <|
              .cons rfl (ob_move rfl) <|
              .cons rfl (ob_indexAddr (k := y) rfl rfl Tryd.underlying35 Tryd.sizeOf3 rfl (by omega)) <|
              .cons rfl (ob_load1' rfl hcv52 Tryd.isAgg3 rfl) <|
              .cons rfl (ob_call (φ := MP.ints (withI uu x52)) rfl (.cons rfl <| .cons rfl <| .nil) Tryd.call22 (fun w m hK => by have hle_ := KC.le hK; have hA := KC.agree hK; have hM := hM.trans hle_; have hT := tab_keep hT hK.st.ext; have hIu := hIu.mono hle_; exact FnG.mono (withR_c (l := uu) (n := x52) hA hIu (by omega)) fun _ _ _ _ h => h)) <|
              .consA 111 rfl rfl <|
              .nil) ?_
          intro a14 w14 m14 hst14 hle14 hk14
          have hfr14 := hk14.fr (T' := [(15, _), (0, _), (1, _), (2, _), (6, _), (3, _), (4, _), (5, _), (7, _), (8, _), (9, _), (10, _), (12, _), (13, _), (14, _)]) (.old rfl rfl <| .old rfl rfl <| .old rfl rfl <| .old rfl rfl <| .old rfl rfl <| .old rfl rfl <| .old rfl rfl <| .old rfl rfl <| .old rfl rfl <| .old rfl rfl <| .old rfl rfl <| .old rfl rfl <| .old rfl rfl <| .old rfl rfl <| .old rfl rfl <| .nil)
          obtain ⟨⟨o8, c8⟩, e53, hI8⟩ := hk14.ex 111 rfl
          replace hfr14 := hfr14.cons e53
          replace hfr14 := hfr14.cons (hk14.same 11 rfl e53)
          replace h_a := h_a.mono hle14
          replace hk_a := hk_a.mono hle14
          replace hs_a := hs_a.mono hle14
          replace hrw_a := hrw_a.mono hle14
          replace h_b := h_b.mono hle14
          replace hk_b := hk_b.mono hle14
          replace hs_b := hs_b.mono hle14
          replace hrw_b := hrw_b.mono hle14
          replace h_r := h_r.mono hle14
          replace hs_r := hs_r.mono hle14
          replace hc3 := hc3.mono hle14
          replace hc4 := hc4.mono hle14
          replace hcut := hcut.mono hle14
          replace hrw2 := hrw2.mono hle14
          replace hcv := hcv.mono hle14
          replace hI1 := hI1.mono hle14
          replace hI2 := hI2.mono hle14
          replace hI3 := hI3.mono hle14
          replace hI4 := hI4.mono hle14
          replace hI5 := hI5.mono hle14
          replace hI6 := hI6.mono hle14
          replace hIu := hIu.mono hle14
          replace hcv52 := hcv52.mono hle14
          have hlh14 := hlh13.trans hle14
          replace hM := hM.trans hle14
          clear hst13 hfr13 hk14
          refine hK51 _ _ ?_; try clear hK51 K51
          refine region_plain (fun h => by cases h) hst14 hfr14 (by kernel_rfl) (by kernel_rfl) (.cons rfl (ob_move rfl) <|
              .cons rfl (ob_add rfl rfl ⟨by omega, by omega⟩) <|
              .cons rfl (ob_assign rfl) <|
              .nil) ?_
          intro a15 w15 m15 hst15 hle15 hk15
          have hfr15 := hk15.fr (T' := [(0, _), (1, _), (2, _), (6, _), (3, _), (4, _), (5, _), (7, _), (8, _), (9, _), (10, _), (12, _), (13, _), (14, _), (11, _), (15, _)]) (.old rfl rfl <| .old rfl rfl <| .old rfl rfl <| .old rfl rfl <| .old rfl rfl <| .old rfl rfl <| .old rfl rfl <| .old rfl rfl <| .old rfl rfl <| .old rfl rfl <| .old rfl rfl <| .old rfl rfl <| .old rfl rfl <| .old rfl rfl <| .old rfl rfl <| .new rfl <| .nil)
          replace h_a := h_a.mono hle15
          replace hk_a := hk_a.mono hle15
          replace hs_a := hs_a.mono hle15
          replace hrw_a := hrw_a.mono hle15
          replace h_b := h_b.mono hle15
          replace hk_b := hk_b.mono hle15
          replace hs_b := hs_b.mono hle15
          replace hrw_b := hrw_b.mono hle15
          replace h_r := h_r.mono hle15
          replace hs_r := hs_r.mono hle15
          replace hc3 := hc3.mono hle15
          replace hc4 := hc4.mono hle15
          replace hcut := hcut.mono hle15
          replace hrw2 := hrw2.mono hle15
          replace hcv := hcv.mono hle15
          replace hI1 := hI1.mono hle15
          replace hI2 := hI2.mono hle15
          replace hI3 := hI3.mono hle15
          replace hI4 := hI4.mono hle15
          replace hI5 := hI5.mono hle15
          replace hI6 := hI6.mono hle15
          replace hIu := hIu.mono hle15
          replace hcv52 := hcv52.mono hle15
          replace hI8 := hI8.mono hle15
          have hlh15 := hlh14.trans hle15
          replace hM := hM.trans hle15
          clear hst14 hfr14 hk15
          exact ⟨(y + 1, _, withI uu x52), m15, by show (walkT b ([], [])).1.length - (y + 1) < (walkT b ([], [])).1.length - y; omega, ⟨hst15, hlh15, hfr15.sub (.cons rfl <| .cons rfl <| .cons rfl <| .cons rfl <| .cons rfl <| .cons rfl <| .cons rfl <| .cons rfl <| .cons rfl <| .cons rfl <| .cons rfl <| .cons rfl <| .cons rfl <| .cons rfl <| .cons rfl <| .cons rfl <| .nil), ⟨by show y + 1 ≤ (walkT b ([], [])).1.length; omega, ⟨(o8, c8), rfl, hI8⟩, by rw [hfo, hd52]; rfl, by have := withI_len uu x52; show (withI uu x52).length ≤ _ + (y + 1); omega⟩⟩⟩
        · try simp only [Bool.not_eq_true', Bool.not_eq_false', decide_eq_true_eq, decide_eq_false_iff_not, Bool.and_eq_true, Bool.or_eq_true, Bool.and_eq_false_iff, Bool.or_eq_false_iff, Bool.not_not, u8_eq] at hb103
          have hge : y = (walkT b ([], [])).1.length := by omega
          rw [List.drop_of_length_le (by omega), List.foldl_nil] at hfo
          have FU := hfo; have hFU := hIu
          refine wp_exit ?_
          refine hK46 _ _ ?_; try clear hK46 K46
          refine seq_any fun K54 hK54 => ?_
          refine seq_any fun K55 hK55 => ?_
          refine region_plain (fun h => by cases h) hst13 hfr13 (by kernel_rfl) (by kernel_rfl) (.cons rfl (ob_assign rfl) <|
              .nil) ?_
          intro a14 w14 m14 hst14 hle14 hk14
          have hfr14 := hk14.fr (T' := [(11, _), (15, _), (0, _), (1, _), (2, _), (6, _), (3, _), (4, _), (5, _), (7, _), (8, _), (9, _), (10, _), (12, _), (13, _), (14, _), (16, _)]) (.old rfl rfl <| .old rfl rfl <| .old rfl rfl <| .old rfl rfl <| .old rfl rfl <| .old rfl rfl <| .old rfl rfl <| .old rfl rfl <| .old rfl rfl <| .old rfl rfl <| .old rfl rfl <| .old rfl rfl <| .old rfl rfl <| .old rfl rfl <| .old rfl rfl <| .old rfl rfl <| .new rfl <| .nil)
          replace h_a := h_a.mono hle14
          replace hk_a := hk_a.mono hle14
          replace hs_a := hs_a.mono hle14
          replace hrw_a := hrw_a.mono hle14
          replace h_b := h_b.mono hle14
          replace hk_b := hk_b.mono hle14
          replace hs_b := hs_b.mono hle14
          replace hrw_b := hrw_b.mono hle14
          replace h_r := h_r.mono hle14
          replace hs_r := hs_r.mono hle14
          replace hc3 := hc3.mono hle14
          replace hc4 := hc4.mono hle14
          replace hcut := hcut.mono hle14
          replace hrw2 := hrw2.mono hle14
          replace hcv := hcv.mono hle14
          replace hI1 := hI1.mono hle14
          replace hI2 := hI2.mono hle14
          replace hI3 := hI3.mono hle14
          replace hI4 := hI4.mono hle14
          replace hI5 := hI5.mono hle14
          replace hI6 := hI6.mono hle14
          replace hIu := hIu.mono hle14
          replace hFU := hFU.mono hle14
          have hlh14 := hlh13.trans hle14
          replace hM := hM.trans hle14
          clear hst13 hfr13 hk14
          refine hK55 _ _ ?_; try clear hK55 K55
          refine wp_block ?_
          have hlq56 := hlh14
          refine loop_any (T := [(11, _), (15, _), (0, _), (1, _), (2, _), (6, _), (3, _), (4, _), (5, _), (7, _), (8, _), (9, _), (10, _), (13, _), (14, _)]) (fun (y : Nat × Value × List Int) => ([(12, y.2.1), (16, .int .i64 (y.1 : Int))] : List (Nat × Value))) (fun _ => _) (fun (y : Nat × Value × List Int) m => (fun (y : Nat) (uv : Value) (uu : List Int) => (y ≤ (walkT b ([], [])).2.length) ∧ ((MP.ints uu).p m uv) ∧ ((walkT b ([], [])).2.foldl withI ((walkT a ([], [])).2) = ((walkT b ([], [])).2.drop y).foldl withI uu) ∧ (uu.length ≤ ((walkT a ([], [])).2).length + y)) y.1 y.2.1 y.2.2) (fun y => (walkT b ([], [])).2.length - y.1) ((0, .slice o4 ((walkT a ([], [])).2).length c4, (walkT a ([], [])).2)) ⟨hst14, MLe.refl _, hfr14.sub (.cons rfl <| .cons rfl <| .cons rfl <| .cons rfl <| .cons rfl <| .cons rfl <| .cons rfl <| .cons rfl <| .cons rfl <| .cons rfl <| .cons rfl <| .cons rfl <| .cons rfl <| .cons rfl <| .cons rfl <| .cons rfl <| .cons rfl <| .nil), ⟨Nat.zero_le _, ⟨(o4, c4), rfl, hI4⟩, rfl, Nat.le_refl _⟩⟩ fun y a15 w15 m15 hh15 => ?_
          have hst15 := hh15.st; have hle15 := hh15.le; have hfr15 := hh15.fr; have hrel := hh15.rel; clear hh15
          replace h_a := h_a.mono hle15
          replace hk_a := hk_a.mono hle15
          replace hs_a := hs_a.mono hle15
          replace hrw_a := hrw_a.mono hle15
          replace h_b := h_b.mono hle15
          replace hk_b := hk_b.mono hle15
          replace hs_b := hs_b.mono hle15
          replace hrw_b := hrw_b.mono hle15
          replace h_r := h_r.mono hle15
          replace hs_r := hs_r.mono hle15
          replace hc3 := hc3.mono hle15
          replace hc4 := hc4.mono hle15
          replace hcut := hcut.mono hle15
          replace hrw2 := hrw2.mono hle15
          replace hcv := hcv.mono hle15
          replace hI1 := hI1.mono hle15
          replace hI2 := hI2.mono hle15
          replace hI3 := hI3.mono hle15
          replace hI4 := hI4.mono hle15
          replace hI5 := hI5.mono hle15
          replace hI6 := hI6.mono hle15
          replace hIu := hIu.mono hle15
          replace hFU := hFU.mono hle15
          clear hst14 hfr14
          replace hM := hM.trans hle15
          obtain ⟨y, uv, uu⟩ := y
          dsimp only at hrel hfr15 hst15
          obtain ⟨hyn, hJu, hfo, hul⟩ := hrel
          obtain ⟨⟨uo, uc⟩, rfl, hIu⟩ := hJu
          dsimp only [MP.ints, MP.mem] at hIu
          replace hlq56 := hlq56.trans hle15
          have hlh15 := hle15
          refine seq_any fun K57 hK57 => ?_
          refine seq_any fun K58 hK58 => ?_
          refine region_plain (fun h => by cases h) hst15 hfr15 (by kernel_rfl) (by kernel_rfl) (.cons rfl (ob_move rfl) <|
              .cons rfl (ob_move rfl) <|
              .cons rfl (ob_len rfl Tryd.underlying35) <|
              .cons rfl (ob_lss rfl rfl) <|
              .nil) ?_
          intro a16 w16 m16 hst16 hle16 hk16
          have hfr16 := hk16.fr (T' := [(12, _), (16, _), (11, _), (15, _), (0, _), (1, _), (2, _), (6, _), (3, _), (4, _), (5, _), (7, _), (8, _), (9, _), (10, _), (13, _), (14, _), (115, _)]) (.old rfl rfl <| .old rfl rfl <| .old rfl rfl <| .old rfl rfl <| .old rfl rfl <| .old rfl rfl <| .old rfl rfl <| .old rfl rfl <| .old rfl rfl <| .old rfl rfl <| .old rfl rfl <| .old rfl rfl <| .old rfl rfl <| .old rfl rfl <| .old rfl rfl <| .old rfl rfl <| .old rfl rfl <| .new rfl <| .nil)
          replace h_a := h_a.mono hle16
          replace hk_a := hk_a.mono hle16
          replace hs_a := hs_a.mono hle16
          replace hrw_a := hrw_a.mono hle16
          replace h_b := h_b.mono hle16
          replace hk_b := hk_b.mono hle16
          replace hs_b := hs_b.mono hle16
          replace hrw_b := hrw_b.mono hle16
          replace h_r := h_r.mono hle16
          replace hs_r := hs_r.mono hle16
          replace hc3 := hc3.mono hle16
          replace hc4 := hc4.mono hle16
          replace hcut := hcut.mono hle16
          replace hrw2 := hrw2.mono hle16
          replace hcv := hcv.mono hle16
          replace hI1 := hI1.mono hle16
          replace hI2 := hI2.mono hle16
          replace hI3 := hI3.mono hle16
          replace hI4 := hI4.mono hle16
          replace hI5 := hI5.mono hle16
          replace hI6 := hI6.mono hle16
          replace hIu := hIu.mono hle16
          replace hFU := hFU.mono hle16
          have hlh16 := hlh15.trans hle16
          replace hlq56 := hlq56.trans hle16
          replace hM := hM.trans hle16
          clear hst15 hfr15 hk16
          refine hK58 _ _ ?_; try clear hK58 K58
          refine cond_any hfr16 rfl rfl (fun hb115 => ?_) (fun hb115 => ?_)
          · try simp only [Bool.not_eq_true', Bool.not_eq_false', decide_eq_true_eq, decide_eq_false_iff_not, Bool.and_eq_true, Bool.or_eq_true, Bool.and_eq_false_iff, Bool.or_eq_false_iff, Bool.not_not, u8_eq] at hb115
            refine wp_skip ?_
            refine hK57 _ _ ?_; try clear hK57 K57
            refine seq_any fun K59 hK59 => ?_
            refine wp_block ?_
            obtain ⟨p60, vs60, x60, ho60, hd60, hm_x60, ht60, hcv60, hl60, hv60⟩ := hI6.nth (k := y) (by omega)
            cases ho60
            subst hv60
            refine region_any (tch := []) (fun h => by cases h) hst16 hfr16 (by kernel_rfl) (by kernel_rfl) (by kernel_rfl) (.cons rfl (ob_move rfl) <|
                .cons rfl (ob_move rfl) <|
                .cons rfl (ob_move rfl) <|
                .cons rfl (ob_indexAddr (k := y) rfl rfl Tryd.underlying35 Tryd.sizeOf3 rfl (by omega)) <|
                .cons rfl (ob_load1' rfl hcv60 Tryd.isAgg3 rfl) <|
                .cons rfl (ob_call (φ := MP.ints (withI uu x60)) rfl (.cons rfl <| .cons rfl <| .nil) Tryd.call22 (fun w m hK => by have hle_ := KC.le hK; have hA := KC.agree hK; have hM := hM.trans hle_; have hT := tab_keep hT hK.st.ext; have hIu := hIu.mono hle_; exact FnG.mono (withR_c (l := uu) (n := x60) hA hIu (by omega)) fun _ _ _ _ h => h)) <|
                .consA 123 rfl rfl <|
                .nil) ?_
            intro a17 w17 m17 hst17 hle17 hk17
            have hfr17 := hk17.fr (T' := [(16, _), (11, _), (15, _), (0, _), (1, _), (2, _), (6, _), (3, _), (4, _), (5, _), (7, _), (8, _), (9, _), (10, _), (13, _), (14, _)]) (.old rfl rfl <| .old rfl rfl <| .old rfl rfl <| .old rfl rfl <| .old rfl rfl <| .old rfl rfl <| .old rfl rfl <| .old rfl rfl <| .old rfl rfl <| .old rfl rfl <| .old rfl rfl <| .old rfl rfl <| .old rfl rfl <| .old rfl rfl <| .old rfl rfl <| .old rfl rfl <| .nil)
            obtain ⟨⟨o8, c8⟩, e61, hI8⟩ := hk17.ex 123 rfl
            replace hfr17 := hfr17.cons e61
            replace hfr17 := hfr17.cons (hk17.same 12 rfl e61)
            replace h_a := h_a.mono hle17
            replace hk_a := hk_a.mono hle17
            replace hs_a := hs_a.mono hle17
            replace hrw_a := hrw_a.mono hle17
            replace h_b := h_b.mono hle17
            replace hk_b := hk_b.mono hle17
            replace hs_b := hs_b.mono hle17
            replace hrw_b := hrw_b.mono hle17
            replace h_r := h_r.mono hle17
            replace hs_r := hs_r.mono hle17
            replace hc3 := hc3.mono hle17
            replace hc4 := hc4.mono hle17
            replace hcut := hcut.mono hle17
            replace hrw2 := hrw2.mono hle17
            replace hcv := hcv.mono hle17
            replace hI1 := hI1.mono hle17
            replace hI2 := hI2.mono hle17
            replace hI3 := hI3.mono hle17
            replace hI4 := hI4.mono hle17
            replace hI5 := hI5.mono hle17
            replace hI6 := hI6.mono hle17
            replace hIu := hIu.mono hle17
            replace hFU := hFU.mono hle17
            replace hcv60 := hcv60.mono hle17
            have hlh17 := hlh16.trans hle17
            replace hlq56 := hlq56.trans hle17
            replace hM := hM.trans hle17
            clear hst16 hfr16 hk17
            refine hK59 _ _ ?_; try clear hK59 K59
            refine region_plain (fun h => by cases h) hst17 hfr17 (by kernel_rfl) (by kernel_rfl) (.cons rfl (ob_move rfl) <|
                .cons rfl (ob_add rfl rfl ⟨by omega, by omega⟩) <|
                .cons rfl (ob_assign rfl) <|
                .nil) ?_
            intro a18 w18 m18 hst18 hle18 hk18
            have hfr18 := hk18.fr (T' := [(11, _), (15, _), (0, _), (1, _), (2, _), (6, _), (3, _), (4, _), (5, _), (7, _), (8, _), (9, _), (10, _), (13, _), (14, _), (12, _), (16, _)]) (.old rfl rfl <| .old rfl rfl <| .old rfl rfl <| .old rfl rfl <| .old rfl rfl <| .old rfl rfl <| .old rfl rfl <| .old rfl rfl <| .old rfl rfl <| .old rfl rfl <| .old rfl rfl <| .old rfl rfl <| .old rfl rfl <| .old rfl rfl <| .old rfl rfl <| .old rfl rfl <| .new rfl <| .nil)
            replace h_a := h_a.mono hle18
            replace hk_a := hk_a.mono hle18
            replace hs_a := hs_a.mono hle18
            replace hrw_a := hrw_a.mono hle18
            replace h_b := h_b.mono hle18
            replace hk_b := hk_b.mono hle18
            replace hs_b := hs_b.mono hle18
            replace hrw_b := hrw_b.mono hle18
            replace h_r := h_r.mono hle18
            replace hs_r := hs_r.mono hle18
            replace hc3 := hc3.mono hle18
            replace hc4 := hc4.mono hle18
            replace hcut := hcut.mono hle18
            replace hrw2 := hrw2.mono hle18
            replace hcv := hcv.mono hle18
            replace hI1 := hI1.mono hle18
            replace hI2 := hI2.mono hle18
            replace hI3 := hI3.mono hle18
            replace hI4 := hI4.mono hle18
            replace hI5 := hI5.mono hle18
            replace hI6 := hI6.mono hle18
            replace hIu := hIu.mono hle18
            replace hFU := hFU.mono hle18
            replace hcv60 := hcv60.mono hle18
            replace hI8 := hI8.mono hle18
            have hlh18 := hlh17.trans hle18
            replace hlq56 := hlq56.trans hle18
            replace hM := hM.trans hle18
            clear hst17 hfr17 hk18
            exact ⟨(y + 1, _, withI uu x60), m18, by show (walkT b ([], [])).2.length - (y + 1) < (walkT b ([], [])).2.length - y; omega, ⟨hst18, hlh18, hfr18.sub (.cons rfl <| .cons rfl <| .cons rfl <| .cons rfl <| .cons rfl <| .cons rfl <| .cons rfl <| .cons rfl <| .cons rfl <| .cons rfl <| .cons rfl <| .cons rfl <| .cons rfl <| .cons rfl <| .cons rfl <| .cons rfl <| .cons rfl <| .nil), ⟨by show y + 1 ≤ (walkT b ([], [])).2.length; omega, ⟨(o8, c8), rfl, hI8⟩, by rw [hfo, hd60]; rfl, by have := withI_len uu x60; show (withI uu x60).length ≤ _ + (y + 1); omega⟩⟩⟩
          · try simp only [Bool.not_eq_true', Bool.not_eq_false', decide_eq_true_eq, decide_eq_false_iff_not, Bool.and_eq_true, Bool.or_eq_true, Bool.and_eq_false_iff, Bool.or_eq_false_iff, Bool.not_not, u8_eq] at hb115
            have hge : y = (walkT b ([], [])).2.length := by omega
            rw [List.drop_of_length_le (by omega), List.foldl_nil] at hfo
            have FV := hfo; have hFV := hIu
            refine wp_exit ?_
            refine hK54 _ _ ?_; try clear hK54 K54
            refine seq_any fun K62 hK62 => ?_
            refine region_plain (fun h => by cases h) hst16 hfr16 (by kernel_rfl) (by kernel_rfl) (.cons rfl (ob_move rfl) <|
                .cons rfl (ob_move rfl) <|
                .cons rfl (ob_move rfl) <|
                .cons rfl (ob_move rfl) <|
                .cons rfl (ob_callE rfl (.cons rfl <| .cons rfl <| .nil) Tryd.call23 (fun w m hK => by have hle_ := KC.le hK; have hA := KC.agree hK; have hM := hM.trans hle_; have hT := tab_keep hT hK.st.ext; have hI1 := hI1.mono hle_; have hFU := hFU.mono hle_; exact sameints_c hA hI1 hFU)) <|
                .cons rfl (ob_and rfl rfl rfl) <|
                .cons rfl (ob_move rfl) <|
                .cons rfl (ob_move rfl) <|
                .cons rfl (ob_move rfl) <|
                .cons rfl (ob_callE rfl (.cons rfl <| .cons rfl <| .nil) Tryd.call23 (fun w m hK => by have hle_ := KC.le hK; have hA := KC.agree hK; have hM := hM.trans hle_; have hT := tab_keep hT hK.st.ext; have hI2 := hI2.mono hle_; have hFV := hFV.mono hle_; exact sameints_c hA hI2 hFV)) <|
                .cons rfl (ob_and rfl rfl rfl) <|
                .cons rfl (ob_assign rfl) <|
                .nil) ?_
            intro a17 w17 m17 hst17 hle17 hk17
            have hfr17 := hk17.fr (T' := [(12, _), (16, _), (11, _), (15, _), (0, _), (1, _), (2, _), (3, _), (4, _), (5, _), (7, _), (8, _), (9, _), (10, _), (13, _), (14, _), (6, _)]) (.old rfl rfl <| .old rfl rfl <| .old rfl rfl <| .old rfl rfl <| .old rfl rfl <| .old rfl rfl <| .old rfl rfl <| .old rfl rfl <| .old rfl rfl <| .old rfl rfl <| .old rfl rfl <| .old rfl rfl <| .old rfl rfl <| .old rfl rfl <| .old rfl rfl <| .old rfl rfl <| .new rfl <| .nil)
            replace h_a := h_a.mono hle17
            replace hk_a := hk_a.mono hle17
            replace hs_a := hs_a.mono hle17
            replace hrw_a := hrw_a.mono hle17
            replace h_b := h_b.mono hle17
            replace hk_b := hk_b.mono hle17
            replace hs_b := hs_b.mono hle17
            replace hrw_b := hrw_b.mono hle17
            replace h_r := h_r.mono hle17
            replace hs_r := hs_r.mono hle17
            replace hc3 := hc3.mono hle17
            replace hc4 := hc4.mono hle17
            replace hcut := hcut.mono hle17
            replace hrw2 := hrw2.mono hle17
            replace hcv := hcv.mono hle17
            replace hI1 := hI1.mono hle17
            replace hI2 := hI2.mono hle17
            replace hI3 := hI3.mono hle17
            replace hI4 := hI4.mono hle17
            replace hI5 := hI5.mono hle17
            replace hI6 := hI6.mono hle17
            replace hIu := hIu.mono hle17
            replace hFU := hFU.mono hle17
            replace hFV := hFV.mono hle17
            have hlh17 := hlh16.trans hle17
            replace hlq56 := hlq56.trans hle17
            replace hM := hM.trans hle17
            clear hst16 hfr16 hk17
            refine hK62 _ _ ?_; try clear hK62 K62
            refine wp_ret ?_
            repeat (with_reducible first | refine then_ret ?_ | refine block_ret ?_)
            exact fn_ret hst17 hfr17 rfl (.tmp rfl <| .nil) (by refine congrArg Value.bool ?_; simp only [Bool.true_and, Bool.and_eq_true, decide_eq_true_eq]; exact ⟨by rw [e2_]; exact FU, by rw [e2_]; exact FV⟩)

end Go.Proofs.YtembdjghbphcdaaDoor
