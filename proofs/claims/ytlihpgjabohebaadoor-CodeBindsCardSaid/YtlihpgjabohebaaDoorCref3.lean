/-
  Code: what is free, how many pieces, as the document's answer says it, walked. Conditions: those of each theorem.
-/
import Derived.Test.YtlihpgjabohebaaDoorCref2
namespace Go.Proofs.YtlihpgjabohebaaDoor
set_option linter.all false
set_option maxRecDepth 4000
open Go.RowKit
set_option maxHeartbeats 400000 in
theorem in15_c {w : World} {m : Mem} {o_l : Option Addr} {c_l : Nat} {l : List Str} {s : Str} (hA : Agree w m) (h_l : Strs m o_l l.length c_l l) : FnV Tryd.prog 61 #[.slice o_l l.length c_l, S s] w m (fun _ _ v => v = .bool (decide (s ∈ l))) := by
  have hb_l := h_l.big; have hc_l := h_l.cap
  refine fn_enter (vs := [_, _]) Tryd.func61 rfl rfl rfl fun a0 hfr0 => ?_
  have hst0 := st_enter hA (loc_nil [] _ w m)
  have hM : MLe m m := MLe.refl m
  refine seq_any fun _ hK1 => ?_
  refine rp0 hst0 hfr0 (.cons rfl (ob_assign rfl) <| .nil) ?_
  intro a1 w1 m1 hst1 hle1 hk1
  have hfr1 := hk1.fr (T' := [(0, _), (1, _)]) (.old rfl rfl <| .old rfl rfl <| .nil)
  replace h_l := h_l.mono hle1
  clear hst0 hfr0 hk1
  refine hK1 _ _ ?_; clear hK1
  refine seq_any fun _ hK2 => ?_
  refine seq_any fun _ hK3 => ?_
  refine rp0 hst1 hfr1 (.cons rfl (ob_assign rfl) <| .nil) ?_
  intro a2 w2 m2 hst2 hle2 hk2
  have hfr2 := hk2.fr (T' := [(0, _), (1, _), (5, _)]) (.old rfl rfl <| .old rfl rfl <| .new rfl <| .nil)
  replace h_l := h_l.mono hle2
  clear hst1 hfr1 hk2
  refine hK3 _ _ ?_; clear hK3
  refine wp_block ?_
  refine loop_any (T := [(0, _), (1, _)]) (fun (y : Nat) => ([(5, .int .i64 (y : Int))] : List (Nat × Value))) (fun _ => _) (fun (y : Nat) m => (y ≤ l.length) ∧ ((s ∈ l) = (s ∈ l.drop y))) (fun y => l.length - y) (0) ⟨hst2, MLe.refl _, hfr2.sub (.cons rfl <| .cons rfl <| .cons rfl <| .nil), ⟨Nat.zero_le _, rfl⟩⟩ fun y a3 w3 m3 hh3 => ?_
  have hst3 := hh3.st; have hle3 := hh3.le; have hfr3 := hh3.fr; have hrel := hh3.rel; clear hh3
  replace h_l := h_l.mono hle3
  clear hst2 hfr2
  obtain ⟨hyn, hrem⟩ := hrel
  have hlh3 := hle3
  refine seq_any fun _ hK5 => ?_
  refine seq_any fun _ hK6 => ?_
  refine rp0 hst3 hfr3 (.cons rfl (ob_move rfl) <| .cons rfl (ob_move rfl) <| .cons rfl (ob_len rfl Tryd.underlying29) <| .cons rfl (ob_lss rfl rfl) <| .nil) ?_
  intro a4 w4 m4 hst4 hle4 hk4
  have hfr4 := hk4.fr (T' := [(5, _), (0, _), (1, _), (9, _)]) (.old rfl rfl <| .old rfl rfl <| .old rfl rfl <| .new rfl <| .nil)
  replace h_l := h_l.mono hle4
  have hlh4 := hlh3.trans hle4
  clear hst3 hfr3 hk4
  refine hK6 _ _ ?_; clear hK6
  refine cond_any hfr4 rfl rfl (fun hb9 => ?_) (fun hb9 => ?_)
  · try simp only [nq1, nq2, nq3, nq4, nq5, nq6, nq7, nq8, nq9, u8_eq] at hb9
    refine wp_skip ?_
    refine hK5 _ _ ?_; clear hK5
    refine seq_any fun _ hK7 => ?_
    refine wp_block ?_
    refine seq_any fun _ hK8 => ?_
    obtain ⟨p9, vs9, x9, ho9, hd9, hm_x9, ht9, hcv9, hl9, hv9⟩ := h_l.nth (k := y) (by omega)
    cases ho9
    subst hv9
    try rw [hd9] at hrem
    try simp only [List.mem_cons] at hrem
    refine rp0 hst4 hfr4 (.cons rfl (ob_move rfl) <| .cons rfl (ob_move rfl) <| .cons rfl (ob_indexAddr (k := y) rfl rfl Tryd.underlying29 Tryd.sizeOf9 rfl (by omega)) <| .cons rfl (ob_load1' rfl hcv9 Tryd.isAgg9 rfl) <| .cons rfl (ob_move rfl) <| .cons rfl (ob_seql rfl rfl) <| .nil) ?_
    intro a5 w5 m5 hst5 hle5 hk5
    have hfr5 := hk5.fr (T' := [(5, _), (0, _), (1, _), (17, _)]) (.old rfl rfl <| .old rfl rfl <| .old rfl rfl <| .new rfl <| .nil)
    have hlh5 := hlh4.trans hle5
    clear hst4 hfr4 hk5
    refine hK8 _ _ ?_; clear hK8
    refine cond_any hfr5 rfl rfl (fun hb17 => ?_) (fun hb17 => ?_)
    · try simp only [nq1, nq2, nq3, nq4, nq5, nq6, nq7, nq8, nq9, u8_eq] at hb17
      have hr : decide (s ∈ l) = true := decide_eq_true (by rw [hrem]; exact .inl hb17.symm)
      refine seq_any fun _ hK10 => ?_
      refine rp0 hst5 hfr5 (.cons rfl (ob_assign rfl) <| .nil) ?_
      intro a6 w6 m6 hst6 hle6 hk6
      have hfr6 := hk6.fr (T' := [(5, _), (4, _)]) (.old rfl rfl <| .new rfl <| .nil)
      have hlh6 := hlh5.trans hle6
      clear hst5 hfr5 hk6
      refine hK10 _ _ ?_; clear hK10
      refine wp_ret ?_
      repeat (with_reducible first | refine then_ret ?_ | refine block_ret ?_)
      exact fn_ret hst6 hfr6 rfl (.tmp rfl <| .nil) (by rw [hr]; rfl)
    · try simp only [nq1, nq2, nq3, nq4, nq5, nq6, nq7, nq8, nq9, u8_eq] at hb17
      refine wp_skip ?_
      refine hK7 _ _ ?_; clear hK7
      refine rp0 hst5 hfr5 (.cons rfl (ob_move rfl) <| .cons rfl (ob_add rfl rfl ⟨by omega, by omega⟩) <| .cons rfl (ob_assign rfl) <| .nil) ?_
      intro a6 w6 m6 hst6 hle6 hk6
      have hfr6 := hk6.fr (T' := [(0, _), (1, _), (5, _)]) (.old rfl rfl <| .old rfl rfl <| .new rfl <| .nil)
      have hlh6 := hlh5.trans hle6
      clear hst5 hfr5 hk6
      exact ⟨y + 1, m6, by show l.length - (y + 1) < l.length - y; omega, ⟨hst6, hlh6, hfr6.sub (.cons rfl <| .cons rfl <| .cons rfl <| .nil), ⟨by show y + 1 ≤ l.length; omega, by rw [hrem]; simp only [eq_iff_iff]; exact ⟨fun h => h.resolve_left (Ne.symm hb17), .inr⟩⟩⟩⟩
  · try simp only [nq1, nq2, nq3, nq4, nq5, nq6, nq7, nq8, nq9, u8_eq] at hb9
    have hge : y = l.length := by omega
    rw [List.drop_of_length_le (by omega)] at hrem
    refine wp_exit ?_
    refine hK2 _ _ ?_; clear hK2
    refine seq_any fun _ hK12 => ?_
    refine rp0 hst4 hfr4 (.cons rfl (ob_assign rfl) <| .nil) ?_
    intro a5 w5 m5 hst5 hle5 hk5
    have hfr5 := hk5.fr (T' := [(5, _), (4, _)]) (.old rfl rfl <| .new rfl <| .nil)
    have hlh5 := hlh4.trans hle5
    clear hst4 hfr4 hk5
    refine hK12 _ _ ?_; clear hK12
    refine wp_ret ?_
    repeat (with_reducible first | refine then_ret ?_ | refine block_ret ?_)
    exact fn_ret hst5 hfr5 rfl (.tmp rfl <| .nil) (by rw [decide_eq_false (by rw [hrem]; simp)]; rfl)

set_option maxHeartbeats 400000 in
theorem texts_c {w : World} {m : Mem} {o_pl : Option Addr} {c_pl : Nat} {pl : List Str} {o_ql : Option Addr} {c_ql : Nat} {ql : List Str} (hA : Agree w m) (h_pl : Strs m o_pl pl.length c_pl pl) (h_ql : Strs m o_ql ql.length c_ql ql) : FnV Tryd.prog 21 #[.slice o_pl pl.length c_pl, .slice o_ql ql.length c_ql] w m (fun _ _ v => v = .bool (decide (pl = ql))) := by
  have hb_pl := h_pl.big; have hc_pl := h_pl.cap
  have hb_ql := h_ql.big; have hc_ql := h_ql.cap
  refine fn_enter (vs := [_, _]) Tryd.func21 rfl rfl rfl fun a0 hfr0 => ?_
  have hst0 := st_enter hA (loc_nil [] _ w m)
  have hM : MLe m m := MLe.refl m
  refine seq_any fun _ hK1 => ?_
  refine rp0 hst0 hfr0 (.cons rfl (ob_assign rfl) <| .nil) ?_
  intro a1 w1 m1 hst1 hle1 hk1
  have hfr1 := hk1.fr (T' := [(0, _), (1, _)]) (.old rfl rfl <| .old rfl rfl <| .nil)
  replace h_pl := h_pl.mono hle1
  replace h_ql := h_ql.mono hle1
  clear hst0 hfr0 hk1
  refine hK1 _ _ ?_; clear hK1
  refine seq_any fun _ hK2 => ?_
  refine seq_any fun _ hK3 => ?_
  refine rp0 hst1 hfr1 (.cons rfl (ob_move rfl) <| .cons rfl (ob_len rfl Tryd.underlying29) <| .cons rfl (ob_move rfl) <| .cons rfl (ob_len rfl Tryd.underlying29) <| .cons rfl (ob_neq rfl rfl) <| .nil) ?_
  intro a2 w2 m2 hst2 hle2 hk2
  have hfr2 := hk2.fr (T' := [(0, _), (1, _), (10, _)]) (.old rfl rfl <| .old rfl rfl <| .new rfl <| .nil)
  replace h_pl := h_pl.mono hle2
  replace h_ql := h_ql.mono hle2
  clear hst1 hfr1 hk2
  refine hK3 _ _ ?_; clear hK3
  refine cond_any hfr2 rfl rfl (fun hb10 => ?_) (fun hb10 => ?_)
  · try simp only [nq1, nq2, nq3, nq4, nq5, nq6, nq7, nq8, nq9, u8_eq] at hb10
    have hne : ¬ pl = ql := fun h => by subst h; omega
    refine seq_any fun _ hK4 => ?_
    refine rp0 hst2 hfr2 (.cons rfl (ob_assign rfl) <| .nil) ?_
    intro a3 w3 m3 hst3 hle3 hk3
    have hfr3 := hk3.fr (T' := [(4, _)]) (.new rfl <| .nil)
    clear hst2 hfr2 hk3
    refine hK4 _ _ ?_; clear hK4
    refine wp_ret ?_
    repeat (with_reducible first | refine then_ret ?_ | refine block_ret ?_)
    exact fn_ret hst3 hfr3 rfl (.tmp rfl <| .nil) (by refine congrArg Value.bool ?_; simp [hne])
  · try simp only [nq1, nq2, nq3, nq4, nq5, nq6, nq7, nq8, nq9, u8_eq] at hb10
    have hln : pl.length = ql.length := by omega
    refine wp_skip ?_
    refine hK2 _ _ ?_; clear hK2
    refine seq_any fun _ hK6 => ?_
    refine seq_any fun _ hK7 => ?_
    refine rp0 hst2 hfr2 (.cons rfl (ob_assign rfl) <| .nil) ?_
    intro a3 w3 m3 hst3 hle3 hk3
    have hfr3 := hk3.fr (T' := [(0, _), (1, _), (5, _)]) (.old rfl rfl <| .old rfl rfl <| .new rfl <| .nil)
    replace h_pl := h_pl.mono hle3
    replace h_ql := h_ql.mono hle3
    clear hst2 hfr2 hk3
    refine hK7 _ _ ?_; clear hK7
    refine wp_block ?_
    refine loop_any (T := [(0, _), (1, _)]) (fun (y : Nat) => ([(5, .int .i64 (y : Int))] : List (Nat × Value))) (fun _ => _) (fun (y : Nat) m => (y ≤ pl.length) ∧ ((pl = ql) = (pl.drop y = ql.drop y))) (fun y => pl.length - y) (0) ⟨hst3, MLe.refl _, hfr3.sub (.cons rfl <| .cons rfl <| .cons rfl <| .nil), ⟨Nat.zero_le _, rfl⟩⟩ fun y a4 w4 m4 hh4 => ?_
    have hst4 := hh4.st; have hle4 := hh4.le; have hfr4 := hh4.fr; have hrel := hh4.rel; clear hh4
    replace h_pl := h_pl.mono hle4
    replace h_ql := h_ql.mono hle4
    clear hst3 hfr3
    obtain ⟨hyn, hrem⟩ := hrel
    have hlh4 := hle4
    refine seq_any fun _ hK9 => ?_
    refine seq_any fun _ hK10 => ?_
    refine rp0 hst4 hfr4 (.cons rfl (ob_move rfl) <| .cons rfl (ob_move rfl) <| .cons rfl (ob_len rfl Tryd.underlying29) <| .cons rfl (ob_lss rfl rfl) <| .nil) ?_
    intro a5 w5 m5 hst5 hle5 hk5
    have hfr5 := hk5.fr (T' := [(5, _), (0, _), (1, _), (14, _)]) (.old rfl rfl <| .old rfl rfl <| .old rfl rfl <| .new rfl <| .nil)
    replace h_pl := h_pl.mono hle5
    replace h_ql := h_ql.mono hle5
    have hlh5 := hlh4.trans hle5
    clear hst4 hfr4 hk5
    refine hK10 _ _ ?_; clear hK10
    refine cond_any hfr5 rfl rfl (fun hb14 => ?_) (fun hb14 => ?_)
    · try simp only [nq1, nq2, nq3, nq4, nq5, nq6, nq7, nq8, nq9, u8_eq] at hb14
      refine wp_skip ?_
      refine hK9 _ _ ?_; clear hK9
      refine seq_any fun _ hK11 => ?_
      refine wp_block ?_
      refine seq_any fun _ hK12 => ?_
      obtain ⟨p13, vs13, x13, ho13, hd13, hm_x13, ht13, hcv13, hl13, hv13⟩ := h_pl.nth (k := y) (by omega)
      cases ho13
      subst hv13
      try rw [hd13] at hrem
      obtain ⟨p14, vs14, x14, ho14, hd14, hm_x14, ht14, hcv14, hl14, hv14⟩ := h_ql.nth (k := y) (by omega)
      cases ho14
      subst hv14
      try rw [hd14] at hrem
      refine region_plain (fun _ => mixed) hst5 hfr5 (by kernel_rfl) (by kernel_rfl) (.cons rfl (ob_move rfl) <| .cons rfl (ob_move rfl) <| .cons rfl (ob_indexAddr (k := y) rfl rfl Tryd.underlying29 Tryd.sizeOf9 rfl (by omega)) <| .cons rfl (ob_load1' rfl hcv13 Tryd.isAgg9 rfl) <| .cons rfl (ob_move rfl) <| .cons rfl (ob_move rfl) <| .cons rfl (ob_indexAddr (k := y) rfl rfl Tryd.underlying29 Tryd.sizeOf9 rfl (by omega)) <| .cons rfl (ob_load1' rfl hcv14 Tryd.isAgg9 rfl) <| .cons rfl (ob_sneq rfl rfl) <| .nil) ?_
      intro a6 w6 m6 hst6 hle6 hk6
      have hfr6 := hk6.fr (T' := [(5, _), (0, _), (1, _), (25, _)]) (.old rfl rfl <| .old rfl rfl <| .old rfl rfl <| .new rfl <| .nil)
      have hlh6 := hlh5.trans hle6
      clear hst5 hfr5 hk6
      refine hK12 _ _ ?_; clear hK12
      refine cond_any hfr6 rfl rfl (fun hb25 => ?_) (fun hb25 => ?_)
      · try simp only [nq1, nq2, nq3, nq4, nq5, nq6, nq7, nq8, nq9, u8_eq] at hb25
        refine seq_any fun _ hK15 => ?_
        refine rp0 hst6 hfr6 (.cons rfl (ob_assign rfl) <| .nil) ?_
        intro a7 w7 m7 hst7 hle7 hk7
        have hfr7 := hk7.fr (T' := [(5, _), (4, _)]) (.old rfl rfl <| .new rfl <| .nil)
        have hlh7 := hlh6.trans hle7
        clear hst6 hfr6 hk7
        refine hK15 _ _ ?_; clear hK15
        refine wp_ret ?_
        repeat (with_reducible first | refine then_ret ?_ | refine block_ret ?_)
        exact fn_ret hst7 hfr7 rfl (.tmp rfl <| .nil) (by refine congrArg Value.bool ?_; rw [decide_eq_false (by rw [hrem]; simp [hb25])])
      · try simp only [nq1, nq2, nq3, nq4, nq5, nq6, nq7, nq8, nq9, u8_eq] at hb25
        refine wp_skip ?_
        refine hK11 _ _ ?_; clear hK11
        refine rp0 hst6 hfr6 (.cons rfl (ob_move rfl) <| .cons rfl (ob_add rfl rfl ⟨by omega, by omega⟩) <| .cons rfl (ob_assign rfl) <| .nil) ?_
        intro a7 w7 m7 hst7 hle7 hk7
        have hfr7 := hk7.fr (T' := [(0, _), (1, _), (5, _)]) (.old rfl rfl <| .old rfl rfl <| .new rfl <| .nil)
        have hlh7 := hlh6.trans hle7
        clear hst6 hfr6 hk7
        exact ⟨y + 1, m7, by show pl.length - (y + 1) < pl.length - y; omega, ⟨hst7, hlh7, hfr7.sub (.cons rfl <| .cons rfl <| .cons rfl <| .nil), ⟨by show y + 1 ≤ pl.length; omega, by rw [hrem, hb25]; simp⟩⟩⟩
    · try simp only [nq1, nq2, nq3, nq4, nq5, nq6, nq7, nq8, nq9, u8_eq] at hb14
      have hge : y = pl.length := by omega
      rw [List.drop_of_length_le (by omega), List.drop_of_length_le (by omega)] at hrem
      refine wp_exit ?_
      refine hK6 _ _ ?_; clear hK6
      refine seq_any fun _ hK17 => ?_
      refine rp0 hst5 hfr5 (.cons rfl (ob_assign rfl) <| .nil) ?_
      intro a6 w6 m6 hst6 hle6 hk6
      have hfr6 := hk6.fr (T' := [(5, _), (4, _)]) (.old rfl rfl <| .new rfl <| .nil)
      have hlh6 := hlh5.trans hle6
      clear hst5 hfr5 hk6
      refine hK17 _ _ ?_; clear hK17
      refine wp_ret ?_
      repeat (with_reducible first | refine then_ret ?_ | refine block_ret ?_)
      exact fn_ret hst6 hfr6 rfl (.tmp rfl <| .nil) (by refine congrArg Value.bool ?_; rw [decide_eq_true (by rw [hrem])])

set_option maxHeartbeats 800000 in
theorem with_c {w : World} {m : Mem} {o_l : Option Addr} {c_l : Nat} {l : List Str} {s : Str} (hA : Agree w m) (h_l : Strs m o_l l.length c_l l) (hbig : l.length ≤ 1000000000) : FnV Tryd.prog 62 #[.slice o_l l.length c_l, S s] w m (fun _ m v => (MP.strs (withM l s)).p m v) := by
  have hb_l := h_l.big; have hc_l := h_l.cap
  refine fn_enter (vs := [_, _]) Tryd.func62 rfl rfl rfl fun a0 hfr0 => ?_
  have hst0 := st_enter hA (loc_nil [] _ w m)
  have hM : MLe m m := MLe.refl m
  refine seq_any fun _ hK1 => ?_
  refine rp0 hst0 hfr0 (.cons rfl (ob_assign rfl) <| .nil) ?_
  intro a1 w1 m1 hst1 hle1 hk1
  have hfr1 := hk1.fr (T' := [(0, _), (1, _)]) (.old rfl rfl <| .old rfl rfl <| .nil)
  replace h_l := h_l.mono hle1
  clear hst0 hfr0 hk1
  refine hK1 _ _ ?_; clear hK1
  refine seq_any fun _ hK2 => ?_
  refine seq_any fun _ hK3 => ?_
  refine rp0 hst1 hfr1 (.cons rfl (ob_move rfl) <| .cons rfl (ob_move rfl) <| .cons rfl (ob_callE rfl (.cons rfl <| .cons rfl <| .nil) Tryd.call61 (fun w m hK => by have hle_ := KC.le hK; have hA := KC.agree hK; have h_l := h_l.mono hle_; exact in15_c (l := l) (s := s) hA h_l)) <| .nil) ?_
  intro a2 w2 m2 hst2 hle2 hk2
  have hfr2 := hk2.fr (T' := [(0, _), (1, _), (8, _)]) (.old rfl rfl <| .old rfl rfl <| .new rfl <| .nil)
  replace h_l := h_l.mono hle2
  clear hst1 hfr1 hk2
  refine hK3 _ _ ?_; clear hK3
  refine cond_any hfr2 rfl rfl (fun hb8 => ?_) (fun hb8 => ?_)
  · try simp only [nq1, nq2, nq3, nq4, nq5, nq6, nq7, nq8, nq9, u8_eq] at hb8
    have hw : withM l s = l := if_pos hb8
    refine seq_any fun _ hK4 => ?_
    refine rp0 hst2 hfr2 (.cons rfl (ob_move rfl) <| .cons rfl (ob_assign rfl) <| .nil) ?_
    intro a3 w3 m3 hst3 hle3 hk3
    have hfr3 := hk3.fr (T' := [(4, _)]) (.new rfl <| .nil)
    replace h_l := h_l.mono hle3
    clear hst2 hfr2 hk3
    refine hK4 _ _ ?_; clear hK4
    refine wp_ret ?_
    repeat (with_reducible first | refine then_ret ?_ | refine block_ret ?_)
    exact fn_ret hst3 hfr3 rfl (.tmp rfl <| .nil) (⟨(_, _), by rw [hw]; rfl, by rw [hw]; exact h_l⟩)
  · try simp only [nq1, nq2, nq3, nq4, nq5, nq6, nq7, nq8, nq9, u8_eq] at hb8
    have hw : withM l s = insM l s := if_neg hb8
    refine wp_skip ?_
    refine hK2 _ _ ?_; clear hK2
    refine seq_any fun _ hK6 => ?_
    refine rp0 hst2 hfr2 (.cons rfl (ob_assign rfl) <| .nil) ?_
    intro a3 w3 m3 hst3 hle3 hk3
    have hfr3 := hk3.fr (T' := [(0, _), (1, _), (5, _)]) (.old rfl rfl <| .old rfl rfl <| .new rfl <| .nil)
    replace h_l := h_l.mono hle3
    clear hst2 hfr2 hk3
    refine hK6 _ _ ?_; clear hK6
    refine seq_any fun _ hK7 => ?_
    refine wp_block ?_
    refine loop_any (T := [(0, _), (1, _)]) (fun (y : Nat) => ([(5, .int .i64 (y : Int))] : List (Nat × Value))) (fun _ => _) (fun (y : Nat) m => (y ≤ l.length) ∧ (insM l s = l.take y ++ insM (l.drop y) s)) (fun y => l.length - y) (0) ⟨hst3, MLe.refl _, hfr3.sub (.cons rfl <| .cons rfl <| .cons rfl <| .nil), ⟨Nat.zero_le _, rfl⟩⟩ fun y a4 w4 m4 hh4 => ?_
    have hst4 := hh4.st; have hle4 := hh4.le; have hfr4 := hh4.fr; have hrel := hh4.rel; clear hh4
    replace h_l := h_l.mono hle4
    clear hst3 hfr3
    obtain ⟨hyn, hrem⟩ := hrel
    have hlh4 := hle4
    refine seq_any fun _ hK9 => ?_
    refine seq_any fun _ hK10 => ?_
    rcases Nat.lt_or_ge y l.length with hz | hz
    · skip
      obtain ⟨p11, vs11, x11, ho11, hd11, hm_x11, ht11, hcv11, hl11, hv11⟩ := h_l.nth (k := y) (by omega)
      cases ho11
      subst hv11
      try rw [hd11] at hrem
      refine rp0 hst4 hfr4 (.cons rfl (ob_move rfl) <| .cons rfl (ob_move rfl) <| .cons rfl (ob_len rfl Tryd.underlying29) <| .cons rfl (ob_lss rfl rfl) <| .cons rfl (ob_move rfl) <| .cons rfl (ob_move rfl) <| .cons rfl (ob_move rfl) <| .cons rfl (ob_indexAddr (k := y) rfl rfl Tryd.underlying29 Tryd.sizeOf9 rfl (by omega)) <| .cons rfl (ob_load1' rfl hcv11 Tryd.isAgg9 rfl) <| .cons rfl (ob_move rfl) <| .cons rfl (ob_slss rfl rfl) <| .cons rfl (ob_and rfl rfl rfl) <| .nil) ?_
      intro a5 w5 m5 hst5 hle5 hk5
      have hfr5 := hk5.fr (T' := [(5, _), (0, _), (1, _), (21, _)]) (.old rfl rfl <| .old rfl rfl <| .old rfl rfl <| .new rfl <| .nil)
      replace h_l := h_l.mono hle5
      have hlh5 := hlh4.trans hle5
      clear hst4 hfr4 hk5
      refine hK10 _ _ ?_; clear hK10
      refine cond_any hfr5 rfl rfl (fun hb21 => ?_) (fun hb21 => ?_)
      · try simp only [nq1, nq2, nq3, nq4, nq5, nq6, nq7, nq8, nq9, u8_eq] at hb21
        have hbl9 : Op.bytesLess x11 s = true := by simpa [hz] using hb21
        refine wp_skip ?_
        refine hK9 _ _ ?_; clear hK9
        refine wp_block ?_
        refine rp0 hst5 hfr5 (.cons rfl (ob_move rfl) <| .cons rfl (ob_add rfl rfl ⟨by omega, by omega⟩) <| .cons rfl (ob_assign rfl) <| .nil) ?_
        intro a6 w6 m6 hst6 hle6 hk6
        have hfr6 := hk6.fr (T' := [(0, _), (1, _), (5, _)]) (.old rfl rfl <| .old rfl rfl <| .new rfl <| .nil)
        have hlh6 := hlh5.trans hle6
        clear hst5 hfr5 hk6
        exact ⟨y + 1, m6, by show l.length - (y + 1) < l.length - y; omega, ⟨hst6, hlh6, hfr6.sub (.cons rfl <| .cons rfl <| .cons rfl <| .nil), ⟨by show y + 1 ≤ l.length; omega, by rw [hrem, insM, if_pos hbl9, ht11, List.append_assoc]; rfl⟩⟩⟩
      · try simp only [nq1, nq2, nq3, nq4, nq5, nq6, nq7, nq8, nq9, u8_eq] at hb21
        rw [← hd11] at hrem
        have hins : insM (l.drop y) s = s :: l.drop y := insM_new fun x r e => ⟨by rw [hd11] at e; injection e with e1 e2; subst e1; simpa [hz] using hb21, fun e2 => hb8 (by subst e2; exact List.mem_of_mem_drop (by rw [e]; exact .head _))⟩
        refine wp_exit ?_
        refine hK7 _ _ ?_; clear hK7
        refine seq_any fun _ hK12 => ?_
        have hct13 : Strs _ _ _ _ ((l.take (y)).drop (0)) := h_l.cut (l := 0) (k := y) (by omega) (by omega)
        have hcl13 : (y) - (0) = (((l.take (y)).drop (0))).length := hct13.len.symm
        have hcu13 : Strs _ _ _ _ ((l.take (y)).drop (0)) := hct13.lenL
        obtain ⟨cs_14, hrw_14, hrd_14, hcl_14⟩ := hct13.reads
        have hct16 : Strs _ _ _ _ ((l.take (l.length)).drop (y)) := h_l.cut (l := y) (k := l.length) (by omega) (by omega)
        have hcl16 : (l.length) - (y) = (((l.take (l.length)).drop (y))).length := hct16.len.symm
        have hcu16 : Strs _ _ _ _ ((l.take (l.length)).drop (y)) := hct16.lenL
        obtain ⟨cs_17, hrw_17, hrd_17, hcl_17⟩ := hct16.reads
        replace hst5 := hst5.more (r := .free) trivial List.nodup_nil (by simp [Res.blocks])
        refine region_any (tch := [(4, 0, (fun v => .row (nz v) _ _ _ _)), (7, 0, (fun v => .row (nz v) _ _ _ _)), (11, 0, (fun v => .row (nz v) _ _ _ _))]) (fun _ => mixed) hst5 hfr5 (by kernel_rfl) (by kernel_rfl) (by kernel_rfl) (.cons rfl (ob_buildSlice0 Tryd.underlying29 Tryd.sizeOf9) <| .cons rfl (ob_move rfl) <| .cons rfl (ob_move rfl) <| .cons rfl (ob_slice (l := 0) (h := y) rfl .none (.some rfl (by omega)) Tryd.underlying29 Tryd.sizeOf9 (by first | omega | (dsimp only; omega)) (by first | omega | (dsimp only; omega))) <| .consT rfl rfl (fun _ => rfl) rfl (ob_imgT 24 rfl rfl rfl fun y24 => ob_appendZ (size := 1) (bytes := 16) rfl rfl (fun _ => .inr ⟨rfl, rfl, rfl, rfl⟩) Tryd.underlying29 Tryd.type9 rfl rfl rfl rfl (fun w m hK => hrw_14.mono (KC.le hK)) hcl_14 (by decide) hrd_14.one (by simp only [maxLen]; omega) (by omega)) <| .cons rfl (ob_move rfl) <| .cons rfl (ob_buildSlice (.cons rfl <| .nil) Tryd.underlying29 Tryd.sizeOf9 Tryd.zeroValue9 rfl rfl rfl rfl) <| .consT rfl rfl (fun _ => rfl) rfl (ob_imgT 28 rfl rfl rfl fun y28 => ob_imgT 30 rfl rfl rfl fun y30 => ob_appendZ (size := 1) (bytes := 16) rfl rfl (fun _ => .inl rfl) Tryd.underlying29 Tryd.type9 rfl rfl rfl rfl (fun w m hK => .inr ⟨_, rfl, hK.2⟩) rfl (by decide) rfl (by simp only [maxLen]; omega) (by omega)) <| .cons rfl (ob_move rfl) <| .cons rfl (ob_move rfl) <| .cons rfl (ob_slice (l := y) (h := l.length) rfl (.some rfl (by omega)) .none Tryd.underlying29 Tryd.sizeOf9 (by first | omega | (dsimp only; omega)) (by first | omega | (dsimp only; omega))) <| .consT rfl rfl (fun _ => rfl) rfl (ob_imgT 31 rfl rfl rfl fun y31 => ob_appendZ (size := 1) (bytes := 16) rfl rfl (fun _ => .inl rfl) Tryd.underlying29 Tryd.type9 rfl rfl rfl rfl (fun w m hK => hrw_17.mono (KC.le hK)) hcl_17 (by decide) hrd_17.one (by simp only [maxLen]; omega) (by omega)) <| .consA 35 rfl rfl <| .nil) ?_
        intro a6 w6 m6 hst6 hle6 hk6
        have hfr6 := hk6.fr (T' := [(5, _)]) (.old rfl rfl <| .nil)
        obtain ⟨⟨oz14, cz14⟩, e18, hrz14, hcz14⟩ := hk6.ex 28 rfl
        replace e18 : envOf a6 28 = .slice oz14 (((l.take (y)).drop (0))).length cz14 := by rw [e18]; refine congrArg (fun q => Value.slice _ q _) ?_; first | omega | (simp only [List.length_append, List.length_cons, List.length_nil, List.nil_append, List.length_take, List.length_drop]; try omega)
        obtain ⟨⟨oz15, cz15⟩, e19, hrz15, hcz15⟩ := hk6.ex 31 rfl
        replace e19 : envOf a6 31 = .slice oz15 ((((l.take (y)).drop (0)) ++ [s])).length cz15 := by rw [e19]; refine congrArg (fun q => Value.slice _ q _) ?_; first | omega | (simp only [List.length_append, List.length_cons, List.length_nil, List.nil_append, List.length_take, List.length_drop]; try omega)
        obtain ⟨⟨oz17, cz17⟩, e20, hrz17, hcz17⟩ := hk6.ex 35 rfl
        replace e20 : envOf a6 35 = .slice oz17 (((((l.take (y)).drop (0)) ++ [s]) ++ ((l.take (l.length)).drop (y)))).length cz17 := by rw [e20]; refine congrArg (fun q => Value.slice _ q _) ?_; first | omega | (simp only [List.length_append, List.length_cons, List.length_nil, List.nil_append, List.length_take, List.length_drop]; try omega)
        replace hfr6 := hfr6.cons (hk6.same 4 rfl e20)
        replace hst6 := hst6.fin (L' := [_]) (.cons e18 <| .cons e19 <| .cons e20 <| .nil)
        replace hrd_14 := hrd_14.mono hle6
        replace hrd_17 := hrd_17.mono hle6
        have hlh6 := hlh5.trans hle6
        clear hst5 hfr5 hk6
        have hsz17 : Strs m6 oz17 (((((l.take (y)).drop (0)) ++ [s]) ++ ((l.take (l.length)).drop (y)))).length cz17 ((((l.take (y)).drop (0)) ++ [s]) ++ ((l.take (l.length)).drop (y))) := Reads.sl (((Reads.nil.app hrd_14).app (Reads.single (vs := [_]) rfl rfl)).app hrd_17) hrz17 (by decide) rfl (by have h := hcz17; first | omega | (simp only [List.length_append, List.length_cons, List.length_nil, List.nil_append, List.length_take, List.length_drop] at h ⊢; omega)) (by first | omega | (simp only [List.length_append, List.length_cons, List.length_nil, List.nil_append, List.length_take, List.length_drop]; omega))
        have hfin : withM l s = ((((l.take y).drop 0) ++ [s]) ++ ((l.take l.length).drop y)) := by rw [hw, hrem, hins]; simp
        refine hK12 _ _ ?_; clear hK12
        refine wp_ret ?_
        repeat (with_reducible first | refine then_ret ?_ | refine block_ret ?_)
        exact fn_ret hst6 hfr6 rfl (.tmp rfl <| .nil) (⟨(oz17, cz17), by rw [hfin]; rfl, by rw [hfin]; exact hsz17⟩)
    · skip
      refine rp0 hst4 hfr4 (.cons rfl (ob_move rfl) <| .cons rfl (ob_move rfl) <| .cons rfl (ob_len rfl Tryd.underlying29) <| .cons rfl (ob_lss rfl rfl) <| .cons rfl (ob_move rfl) <| .cons rfl (ob_move rfl) <| .cons rfl (ob_move rfl) <| .cons rfl (ob_guard (κ := .eq (.bool false)) (b := true) 14 rfl rfl (fun h => by first | (simp at h; omega) | omega)) <| .cons rfl (ob_guard (κ := .eq (.bool false)) (b := true) 14 rfl rfl (fun h => by first | (simp at h; omega) | omega)) <| .cons rfl (ob_move rfl) <| .cons rfl (ob_guard (κ := .eq (.bool false)) (b := true) 14 rfl rfl (fun h => by first | (simp at h; omega) | omega)) <| .cons rfl (ob_and rfl rfl rfl) <| .nil) ?_
      intro a5 w5 m5 hst5 hle5 hk5
      have hfr5 := hk5.fr (T' := [(5, _), (0, _), (1, _), (21, _)]) (.old rfl rfl <| .old rfl rfl <| .old rfl rfl <| .new rfl <| .nil)
      replace h_l := h_l.mono hle5
      have hlh5 := hlh4.trans hle5
      clear hst4 hfr4 hk5
      refine hK10 _ _ ?_; clear hK10
      refine cond_any hfr5 rfl rfl (fun hb21 => ?_) (fun hb21 => ?_)
      · exfalso
        first | (exact absurd hb21 (by simp)) | (simp at hb21; done) | (simp at hb21; omega)
      · try simp only [nq1, nq2, nq3, nq4, nq5, nq6, nq7, nq8, nq9, u8_eq] at hb21
        have hins : insM (l.drop y) s = s :: l.drop y := insM_new fun x r e => by rw [List.drop_of_length_le (by omega)] at e; cases e
        refine wp_exit ?_
        refine hK7 _ _ ?_; clear hK7
        refine seq_any fun _ hK22 => ?_
        have hct23 : Strs _ _ _ _ ((l.take (y)).drop (0)) := h_l.cut (l := 0) (k := y) (by omega) (by omega)
        have hcl23 : (y) - (0) = (((l.take (y)).drop (0))).length := hct23.len.symm
        have hcu23 : Strs _ _ _ _ ((l.take (y)).drop (0)) := hct23.lenL
        obtain ⟨cs_24, hrw_24, hrd_24, hcl_24⟩ := hct23.reads
        have hct26 : Strs _ _ _ _ ((l.take (l.length)).drop (y)) := h_l.cut (l := y) (k := l.length) (by omega) (by omega)
        have hcl26 : (l.length) - (y) = (((l.take (l.length)).drop (y))).length := hct26.len.symm
        have hcu26 : Strs _ _ _ _ ((l.take (l.length)).drop (y)) := hct26.lenL
        obtain ⟨cs_27, hrw_27, hrd_27, hcl_27⟩ := hct26.reads
        replace hst5 := hst5.more (r := .free) trivial List.nodup_nil (by simp [Res.blocks])
        refine region_any (tch := [(4, 0, (fun v => .row (nz v) _ _ _ _)), (7, 0, (fun v => .row (nz v) _ _ _ _)), (11, 0, (fun v => .row (nz v) _ _ _ _))]) (fun _ => mixed) hst5 hfr5 (by kernel_rfl) (by kernel_rfl) (by kernel_rfl) (.cons rfl (ob_buildSlice0 Tryd.underlying29 Tryd.sizeOf9) <| .cons rfl (ob_move rfl) <| .cons rfl (ob_move rfl) <| .cons rfl (ob_slice (l := 0) (h := y) rfl .none (.some rfl (by omega)) Tryd.underlying29 Tryd.sizeOf9 (by first | omega | (dsimp only; omega)) (by first | omega | (dsimp only; omega))) <| .consT rfl rfl (fun _ => rfl) rfl (ob_imgT 24 rfl rfl rfl fun y24 => ob_appendZ (size := 1) (bytes := 16) rfl rfl (fun _ => .inr ⟨rfl, rfl, rfl, rfl⟩) Tryd.underlying29 Tryd.type9 rfl rfl rfl rfl (fun w m hK => hrw_24.mono (KC.le hK)) hcl_24 (by decide) hrd_24.one (by simp only [maxLen]; omega) (by omega)) <| .cons rfl (ob_move rfl) <| .cons rfl (ob_buildSlice (.cons rfl <| .nil) Tryd.underlying29 Tryd.sizeOf9 Tryd.zeroValue9 rfl rfl rfl rfl) <| .consT rfl rfl (fun _ => rfl) rfl (ob_imgT 28 rfl rfl rfl fun y28 => ob_imgT 30 rfl rfl rfl fun y30 => ob_appendZ (size := 1) (bytes := 16) rfl rfl (fun _ => .inl rfl) Tryd.underlying29 Tryd.type9 rfl rfl rfl rfl (fun w m hK => .inr ⟨_, rfl, hK.2⟩) rfl (by decide) rfl (by simp only [maxLen]; omega) (by omega)) <| .cons rfl (ob_move rfl) <| .cons rfl (ob_move rfl) <| .cons rfl (ob_slice (l := y) (h := l.length) rfl (.some rfl (by omega)) .none Tryd.underlying29 Tryd.sizeOf9 (by first | omega | (dsimp only; omega)) (by first | omega | (dsimp only; omega))) <| .consT rfl rfl (fun _ => rfl) rfl (ob_imgT 31 rfl rfl rfl fun y31 => ob_appendZ (size := 1) (bytes := 16) rfl rfl (fun _ => .inl rfl) Tryd.underlying29 Tryd.type9 rfl rfl rfl rfl (fun w m hK => hrw_27.mono (KC.le hK)) hcl_27 (by decide) hrd_27.one (by simp only [maxLen]; omega) (by omega)) <| .consA 35 rfl rfl <| .nil) ?_
        intro a6 w6 m6 hst6 hle6 hk6
        have hfr6 := hk6.fr (T' := [(5, _)]) (.old rfl rfl <| .nil)
        obtain ⟨⟨oz24, cz24⟩, e28, hrz24, hcz24⟩ := hk6.ex 28 rfl
        replace e28 : envOf a6 28 = .slice oz24 (((l.take (y)).drop (0))).length cz24 := by rw [e28]; refine congrArg (fun q => Value.slice _ q _) ?_; first | omega | (simp only [List.length_append, List.length_cons, List.length_nil, List.nil_append, List.length_take, List.length_drop]; try omega)
        obtain ⟨⟨oz25, cz25⟩, e29, hrz25, hcz25⟩ := hk6.ex 31 rfl
        replace e29 : envOf a6 31 = .slice oz25 ((((l.take (y)).drop (0)) ++ [s])).length cz25 := by rw [e29]; refine congrArg (fun q => Value.slice _ q _) ?_; first | omega | (simp only [List.length_append, List.length_cons, List.length_nil, List.nil_append, List.length_take, List.length_drop]; try omega)
        obtain ⟨⟨oz27, cz27⟩, e30, hrz27, hcz27⟩ := hk6.ex 35 rfl
        replace e30 : envOf a6 35 = .slice oz27 (((((l.take (y)).drop (0)) ++ [s]) ++ ((l.take (l.length)).drop (y)))).length cz27 := by rw [e30]; refine congrArg (fun q => Value.slice _ q _) ?_; first | omega | (simp only [List.length_append, List.length_cons, List.length_nil, List.nil_append, List.length_take, List.length_drop]; try omega)
        replace hfr6 := hfr6.cons (hk6.same 4 rfl e30)
        replace hst6 := hst6.fin (L' := [_]) (.cons e28 <| .cons e29 <| .cons e30 <| .nil)
        replace hrd_24 := hrd_24.mono hle6
        replace hrd_27 := hrd_27.mono hle6
        have hlh6 := hlh5.trans hle6
        clear hst5 hfr5 hk6
        have hsz27 : Strs m6 oz27 (((((l.take (y)).drop (0)) ++ [s]) ++ ((l.take (l.length)).drop (y)))).length cz27 ((((l.take (y)).drop (0)) ++ [s]) ++ ((l.take (l.length)).drop (y))) := Reads.sl (((Reads.nil.app hrd_24).app (Reads.single (vs := [_]) rfl rfl)).app hrd_27) hrz27 (by decide) rfl (by have h := hcz27; first | omega | (simp only [List.length_append, List.length_cons, List.length_nil, List.nil_append, List.length_take, List.length_drop] at h ⊢; omega)) (by first | omega | (simp only [List.length_append, List.length_cons, List.length_nil, List.nil_append, List.length_take, List.length_drop]; omega))
        have hfin : withM l s = ((((l.take y).drop 0) ++ [s]) ++ ((l.take l.length).drop y)) := by rw [hw, hrem, hins]; simp
        refine hK22 _ _ ?_; clear hK22
        refine wp_ret ?_
        repeat (with_reducible first | refine then_ret ?_ | refine block_ret ?_)
        exact fn_ret hst6 hfr6 rfl (.tmp rfl <| .nil) (⟨(oz27, cz27), by rw [hfin]; rfl, by rw [hfin]; exact hsz27⟩)

set_option maxHeartbeats 800000 in
theorem bound_c {w : World} {m : Mem} {o_l : Option Addr} {c_l : Nat} {l : List Str} {o_k : Option Addr} {c_k : Nat} {k : List Str} (hA : Agree w m) (h_l : Strs m o_l l.length c_l l) (h_k : Strs m o_k k.length c_k k) (hbig : l.length + k.length ≤ 1000000000) : FnV Tryd.prog 63 #[.slice o_l l.length c_l, .slice o_k k.length c_k] w m (fun _ m v => (MP.strs (boundR l k)).p m v) := by
  have hb_l := h_l.big; have hc_l := h_l.cap
  have hb_k := h_k.big; have hc_k := h_k.cap
  refine fn_enter (vs := [_, _]) Tryd.func63 rfl rfl rfl fun a0 hfr0 => ?_
  have hst0 := st_enter hA (loc_nil [] _ w m)
  have hM : MLe m m := MLe.refl m
  refine seq_any fun _ hK1 => ?_
  refine rp0 hst0 hfr0 (.cons rfl (ob_assign rfl) <| .nil) ?_
  intro a1 w1 m1 hst1 hle1 hk1
  have hfr1 := hk1.fr (T' := [(0, _), (1, _)]) (.old rfl rfl <| .old rfl rfl <| .nil)
  replace h_l := h_l.mono hle1
  replace h_k := h_k.mono hle1
  clear hst0 hfr0 hk1
  have hst1 := hst1.more (r := .rowx (.slice none 0 0) 0 1 9 (MP.reads (fun _ vs (x : Str) => vs = [S x]) 1 [])) rowx_new List.nodup_nil (by simp [Res.blocks, rowBlock])
  have hsl_O : Strs m1 none ([] : List Str).length 0 ([] : List Str) := Sl.empty
  refine hK1 _ _ ?_; clear hK1
  refine seq_any fun _ hK2 => ?_
  refine ra0 (tch := [(2, 0, (fun v => .rowx (nz v) _ _ _ _))]) hst1 hfr1 (.cons rfl (ob_buildSlice0 Tryd.underlying29 Tryd.sizeOf9) <| .cons rfl (ob_move rfl) <| .consT rfl rfl (fun _ => rfl) rfl (ob_imgT 7 rfl rfl rfl fun y7 => ob_appendX (size := 1) (bytes := 16) (l := ([] : List Str)) (l' := l) rfl rfl (fun _ => by first | exact .inl rfl | exact .inr (.inl rfl)) Tryd.underlying29 Tryd.type9 rfl rfl rfl rfl (fun w m hK => h_l.mono (KC.le hK)) rfl (by decide) (by simp only [maxLen]; omega) (by omega)) <| .consA 9 rfl rfl <| .nil) ?_
  intro a2 w2 m2 hst2 hle2 hk2
  have hfr2 := hk2.fr (T' := [(1, _)]) (.old rfl rfl <| .nil)
  obtain ⟨⟨O_3o, O_3p⟩, e4, hsl_O_3⟩ := hk2.ex 9 rfl
  replace hfr2 := hfr2.cons (hk2.same 5 rfl e4)
  replace hst2 := hst2.fin (L' := [_]) (.cons e4 <| .nil)
  replace h_k := h_k.mono hle2
  clear hst1 hfr1 hk2
  replace hsl_O_3 : Strs m2 O_3o (([] : List Str) ++ l).length O_3p (([] : List Str) ++ l) := hsl_O_3
  refine hK2 _ _ ?_; clear hK2
  refine seq_any fun _ hK5 => ?_
  refine seq_any fun _ hK6 => ?_
  refine rp0 hst2 hfr2 (.cons rfl (ob_assign rfl) <| .nil) ?_
  intro a3 w3 m3 hst3 hle3 hk3
  have hfr3 := hk3.fr (T' := [(1, _), (5, _), (6, _)]) (.old rfl rfl <| .old rfl rfl <| .new rfl <| .nil)
  replace h_k := h_k.mono hle3
  replace hsl_O_3 := hsl_O_3.mono hle3
  clear hst2 hfr2 hk3
  refine hK6 _ _ ?_; clear hK6
  refine wp_block ?_
  refine loop_any (T := [(1, _)]) (fun (y : Nat × Option Addr × Nat × List Str) => ([(5, .slice y.2.1 y.2.2.2.length y.2.2.1), (6, .int .i64 (y.1 : Int))] : List (Nat × Value))) (fun y => [.rowx (nz (.slice y.2.1 y.2.2.2.length y.2.2.1)) y.2.2.2.length 1 9 (MP.reads (fun _ vs (x : Str) => vs = [S x]) 1 y.2.2.2)]) (fun (y : Nat × Option Addr × Nat × List Str) m => (fun (y : Nat) (gao : Option Addr) (gap : Nat) (ga : List Str) => (y ≤ k.length) ∧ (Strs m gao ga.length gap ga) ∧ (boundR l k = ga ++ (k.drop y).filter (fun s => decide (¬ s = uS)) ∧ ga.length ≤ l.length + y)) y.1 y.2.1 y.2.2.1 y.2.2.2) (fun y => k.length - y.1) ((0, O_3o, O_3p, (([] : List Str) ++ l))) ⟨hst3, MLe.refl _, hfr3.sub (.cons rfl <| .cons rfl <| .cons rfl <| .nil), ⟨Nat.zero_le _, hsl_O_3, ⟨rfl, Nat.le_refl _⟩⟩⟩ fun y a4 w4 m4 hh4 => ?_
  have hst4 := hh4.st; have hle4 := hh4.le; have hfr4 := hh4.fr; have hrel := hh4.rel; clear hh4
  replace h_k := h_k.mono hle4
  clear hst3 hfr3
  obtain ⟨y, gao, gap, ga⟩ := y
  dsimp only at hrel hfr4 hst4
  obtain ⟨hyn, hsl_ga, hlen_ga⟩ := hrel
  have hlh4 := hle4
  refine seq_any fun _ hK8 => ?_
  refine seq_any fun _ hK9 => ?_
  refine rp0 hst4 hfr4 (.cons rfl (ob_move rfl) <| .cons rfl (ob_move rfl) <| .cons rfl (ob_len rfl Tryd.underlying29) <| .cons rfl (ob_lss rfl rfl) <| .nil) ?_
  intro a5 w5 m5 hst5 hle5 hk5
  have hfr5 := hk5.fr (T' := [(5, _), (6, _), (1, _), (13, _)]) (.old rfl rfl <| .old rfl rfl <| .old rfl rfl <| .new rfl <| .nil)
  replace h_k := h_k.mono hle5
  replace hsl_ga := hsl_ga.mono hle5
  have hlh5 := hlh4.trans hle5
  clear hst4 hfr4 hk5
  refine hK9 _ _ ?_; clear hK9
  refine cond_any hfr5 rfl rfl (fun hb13 => ?_) (fun hb13 => ?_)
  · try simp only [nq1, nq2, nq3, nq4, nq5, nq6, nq7, nq8, nq9, u8_eq] at hb13
    refine wp_skip ?_
    refine hK8 _ _ ?_; clear hK8
    refine seq_any fun _ hK10 => ?_
    refine wp_block ?_
    refine seq_any fun _ hK11 => ?_
    obtain ⟨p12, vs12, x12, ho12, hd12, hm_x12, ht12, hcv12, hl12, hv12⟩ := h_k.nth (k := y) (by omega)
    cases ho12
    subst hv12
    refine rp0 hst5 hfr5 (.cons rfl (ob_move rfl) <| .cons rfl (ob_move rfl) <| .cons rfl (ob_indexAddr (k := y) rfl rfl Tryd.underlying29 Tryd.sizeOf9 rfl (by omega)) <| .cons rfl (ob_load1' rfl hcv12 Tryd.isAgg9 rfl) <| .cons rfl (ob_sneq rfl rfl) <| .nil) ?_
    intro a6 w6 m6 hst6 hle6 hk6
    have hfr6 := hk6.fr (T' := [(5, _), (6, _), (1, _), (20, _)]) (.old rfl rfl <| .old rfl rfl <| .old rfl rfl <| .new rfl <| .nil)
    replace hsl_ga := hsl_ga.mono hle6
    replace hcv12 := hcv12.mono hle6
    have hlh6 := hlh5.trans hle6
    clear hst5 hfr5 hk6
    rw [hd12, List.filter_cons] at hlen_ga
    have hlo9 := hlen_ga.2
    refine hK11 _ _ ?_; clear hK11
    refine cond_any hfr6 rfl rfl (fun hb20 => ?_) (fun hb20 => ?_)
    · try simp only [nq1, nq2, nq3, nq4, nq5, nq6, nq7, nq8, nq9, u8_eq] at hb20
      have h09 : decide (¬ x12 = uS) = true := decide_eq_true hb20
      refine ra0 (tch := [(6, 0, (fun v => .rowx (nz v) _ _ _ _))]) hst6 hfr6 (.cons rfl (ob_move rfl) <| .cons rfl (ob_move rfl) <| .cons rfl (ob_move rfl) <| .cons rfl (ob_indexAddr (k := y) rfl rfl Tryd.underlying29 Tryd.sizeOf9 rfl (by omega)) <| .cons rfl (ob_load1' rfl hcv12 Tryd.isAgg9 rfl) <| .cons rfl (ob_buildSlice (.cons rfl <| .nil) Tryd.underlying29 Tryd.sizeOf9 Tryd.zeroValue9 rfl rfl rfl rfl) <| .consT rfl rfl (fun _ => rfl) rfl (ob_imgT 26 rfl rfl rfl fun y26 => ob_appendX (size := 1) (bytes := 16) (l := ga) (l' := [x12]) rfl rfl (fun _ => by first | exact .inl rfl | exact .inr (.inl rfl)) Tryd.underlying29 Tryd.type9 rfl rfl rfl rfl (fun w m hK => Sl.one (vs := [_]) hK.2 rfl rfl) rfl (by decide) (by simp only [maxLen]; omega) (by omega)) <| .consA 27 rfl rfl <| .nil) ?_
      intro a7 w7 m7 hst7 hle7 hk7
      have hfr7 := hk7.fr (T' := [(6, _), (1, _)]) (.old rfl rfl <| .old rfl rfl <| .nil)
      obtain ⟨⟨O_13o, O_13p⟩, e14, hsl_O_13⟩ := hk7.ex 27 rfl
      replace hfr7 := hfr7.cons (hk7.same 5 rfl e14)
      replace hst7 := hst7.fin (L' := [_]) (.cons e14 <| .nil)
      have hlh7 := hlh6.trans hle7
      clear hst6 hfr6 hk7
      replace hsl_O_13 : Strs m7 O_13o (ga ++ [x12]).length O_13p (ga ++ [x12]) := hsl_O_13
      refine hK10 _ _ ?_; clear hK10
      refine rp0 hst7 hfr7 (.cons rfl (ob_move rfl) <| .cons rfl (ob_add rfl rfl ⟨by omega, by omega⟩) <| .cons rfl (ob_assign rfl) <| .nil) ?_
      intro a8 w8 m8 hst8 hle8 hk8
      have hfr8 := hk8.fr (T' := [(1, _), (5, _), (6, _)]) (.old rfl rfl <| .old rfl rfl <| .new rfl <| .nil)
      replace hsl_O_13 := hsl_O_13.mono hle8
      have hlh8 := hlh7.trans hle8
      clear hst7 hfr7 hk8
      exact ⟨(y + 1, O_13o, O_13p, (ga ++ [x12])), m8, by show k.length - (y + 1) < k.length - y; omega, ⟨hst8, hlh8, hfr8.sub (.cons rfl <| .cons rfl <| .cons rfl <| .nil), ⟨by show y + 1 ≤ k.length; omega, hsl_O_13, ⟨by rw [hlen_ga.1, if_pos h09, List.append_assoc]; rfl, by show (ga ++ [x12]).length ≤ l.length + (y + 1); simp; omega⟩⟩⟩⟩
    · try simp only [nq1, nq2, nq3, nq4, nq5, nq6, nq7, nq8, nq9, u8_eq] at hb20
      have h09 : decide (¬ x12 = uS) = false := decide_eq_false (fun h => h hb20)
      refine wp_skip ?_
      refine hK10 _ _ ?_; clear hK10
      refine rp0 hst6 hfr6 (.cons rfl (ob_move rfl) <| .cons rfl (ob_add rfl rfl ⟨by omega, by omega⟩) <| .cons rfl (ob_assign rfl) <| .nil) ?_
      intro a7 w7 m7 hst7 hle7 hk7
      have hfr7 := hk7.fr (T' := [(5, _), (1, _), (6, _)]) (.old rfl rfl <| .old rfl rfl <| .new rfl <| .nil)
      replace hsl_ga := hsl_ga.mono hle7
      have hlh7 := hlh6.trans hle7
      clear hst6 hfr6 hk7
      exact ⟨(y + 1, gao, gap, ga), m7, by show k.length - (y + 1) < k.length - y; omega, ⟨hst7, hlh7, hfr7.sub (.cons rfl <| .cons rfl <| .cons rfl <| .nil), ⟨by show y + 1 ≤ k.length; omega, hsl_ga, ⟨by rw [hlen_ga.1, if_neg (by rw [h09]; decide)], by show ga.length ≤ l.length + (y + 1); omega⟩⟩⟩⟩
  · try simp only [nq1, nq2, nq3, nq4, nq5, nq6, nq7, nq8, nq9, u8_eq] at hb13
    have hge : y = k.length := by omega
    rw [List.drop_of_length_le (by omega), List.filter_nil, List.append_nil] at hlen_ga
    have hfin : boundR l k = ga := hlen_ga.1
    refine wp_exit ?_
    refine hK5 _ _ ?_; clear hK5
    refine seq_any fun _ hK15 => ?_
    refine rp0 hst5 hfr5 (.cons rfl (ob_move rfl) <| .cons rfl (ob_assign rfl) <| .nil) ?_
    intro a6 w6 m6 hst6 hle6 hk6
    have hfr6 := hk6.fr (T' := [(5, _), (6, _), (4, _)]) (.old rfl rfl <| .old rfl rfl <| .new rfl <| .nil)
    replace hsl_ga := hsl_ga.mono hle6
    have hlh6 := hlh5.trans hle6
    clear hst5 hfr5 hk6
    refine hK15 _ _ ?_; clear hK15
    refine wp_ret ?_
    repeat (with_reducible first | refine then_ret ?_ | refine block_ret ?_)
    exact fn_ret hst6 hfr6 rfl (.tmp rfl <| .nil) (⟨(_, _), by rw [hfin]; rfl, by rw [hfin]; exact hsl_ga⟩)

set_option maxHeartbeats 400000 in
theorem binds_c {w : World} {m : Mem} {t : Cd} {vs_t : List Value} {i : Nat} (hA : Agree w m) (h_t : CdR m t vs_t) : FnV Tryd.prog 64 #[.agg vs_t.toArray, .int .i64 (i : Int)] w m (fun _ m v => (MP.strs (bR t i)).p m v) := by
  obtain ⟨⟨oK_t, cK_t, oA_t, cA_t⟩, rfl, ⟨hik_t, hin_t⟩, hkk_t, haa_t⟩ := h_t.open_
  dsimp only at hkk_t haa_t
  have hbg_t := hkk_t.big; have hcp_t := hkk_t.cap; have hbh_t := haa_t.big; have hcq_t := haa_t.cap
  refine fn_enter (vs := [_, _]) Tryd.func64 rfl rfl rfl fun a0 hfr0 => ?_
  have hst0 := st_enter hA (loc_nil [] _ w m)
  have hM : MLe m m := MLe.refl m
  refine seq_any fun _ hK1 => ?_
  refine rp0 hst0 hfr0 (.cons rfl (ob_box rfl rfl) <| .cons rfl (ob_assign rfl) <| .nil) ?_
  intro a1 w1 m1 hst1 hle1 hk1
  have hfr1 := hk1.fr (T' := [(1, _)]) (.old rfl rfl <| .nil)
  obtain ⟨g2, e2, hc2⟩ := hk1.ex 2 rfl
  replace hfr1 := hfr1.cons e2
  clear hst0 hfr0 hk1
  refine hK1 _ _ ?_; clear hK1
  refine seq_any fun _ hK3 => ?_
  refine seq_any fun _ hK4 => ?_
  refine rp0 hst1 hfr1 (.cons rfl (ob_fieldAddrO (off := 0) rfl Tryd.underlying25 rfl rfl Tryd.sizeOf3 rfl) <| .cons rfl (ob_load1 rfl hc2 Tryd.isAgg3 rfl) <| .nil) ?_
  intro a2 w2 m2 hst2 hle2 hk2
  have hfr2 := hk2.fr (T' := [(1, _), (2, _), (6, _)]) (.old rfl rfl <| .old rfl rfl <| .new rfl <| .nil)
  replace hc2 := hc2.mono hle2
  clear hst1 hfr1 hk2
  refine hK4 _ _ ?_; clear hK4
  refine wp_block ?_
  refine seq_any fun _ hK5 => ?_
  refine rp0 hst2 hfr2 (.cons rfl (ob_eql rfl rfl) <| .cons rfl (ob_assign rfl) <| .nil) ?_
  intro a3 w3 m3 hst3 hle3 hk3
  have hfr3 := hk3.fr (T' := [(1, _), (2, _), (6, _), (7, _)]) (.old rfl rfl <| .old rfl rfl <| .old rfl rfl <| .new rfl <| .nil)
  replace hc2 := hc2.mono hle3
  clear hst2 hfr2 hk3
  refine hK5 _ _ ?_; clear hK5
  refine cond_any hfr3 rfl rfl (fun hb7 => ?_) (fun hb7 => ?_)
  · try simp only [nq1, nq2, nq3, nq4, nq5, nq6, nq7, nq8, nq9, u8_eq] at hb7
    refine seq_any fun _ hK6 => ?_
    refine ra0 (tch := []) hst3 hfr3 (.cons rfl (ob_fieldAddrO (off := 1) rfl Tryd.underlying25 rfl rfl Tryd.sizeOf9 rfl) <| .cons rfl (ob_load1 rfl hc2 Tryd.isAgg9 rfl) <| .cons rfl (ob_buildSlice (.cons rfl <| .nil) Tryd.underlying29 Tryd.sizeOf9 Tryd.zeroValue9 rfl rfl rfl rfl) <| .consA 11 rfl rfl <| .nil) ?_
    intro a4 w4 m4 hst4 hle4 hk4
    have hfr4 := hk4.fr (T' := []) (.nil)
    obtain ⟨g9, e7, hg9⟩ := hk4.ex 11 rfl
    replace hfr4 := hfr4.cons (hk4.same 4 rfl e7)
    clear hst3 hfr3 hk4
    refine hK6 _ _ ?_; clear hK6
    refine wp_ret ?_
    repeat (with_reducible first | refine then_ret ?_ | refine block_ret ?_)
    exact fn_ret hst4 hfr4 rfl (.tmp rfl <| .nil) (⟨(some ⟨g9, 0, none⟩, 1), by rw [show bR t i = [t.name] from by unfold bR bindsR; first | rw [if_pos (by omega)] | rw [if_neg (by omega), if_pos (by omega), if_pos (by omega)] | rw [if_neg (by omega), if_pos (by omega), if_neg (by omega)] | rw [if_neg (by omega), if_neg (by omega), if_pos (by omega), if_pos (by omega)] | rw [if_neg (by omega), if_neg (by omega), if_pos (by omega), if_neg (by omega)] | rw [if_neg (by omega), if_neg (by omega), if_neg (by omega)]]; rfl, by rw [show bR t i = [t.name] from by unfold bR bindsR; first | rw [if_pos (by omega)] | rw [if_neg (by omega), if_pos (by omega), if_pos (by omega)] | rw [if_neg (by omega), if_pos (by omega), if_neg (by omega)] | rw [if_neg (by omega), if_neg (by omega), if_pos (by omega), if_pos (by omega)] | rw [if_neg (by omega), if_neg (by omega), if_pos (by omega), if_neg (by omega)] | rw [if_neg (by omega), if_neg (by omega), if_neg (by omega)]]; exact Sl.one (vs := [_]) hg9 rfl rfl⟩)
  · try simp only [nq1, nq2, nq3, nq4, nq5, nq6, nq7, nq8, nq9, u8_eq] at hb7
    refine seq_any fun _ hK9 => ?_
    refine seq_any fun _ hK10 => ?_
    refine rp0 hst3 hfr3 (.cons rfl (ob_eql rfl rfl) <| .cons rfl (ob_assign rfl) <| .nil) ?_
    intro a4 w4 m4 hst4 hle4 hk4
    have hfr4 := hk4.fr (T' := [(1, _), (2, _), (6, _), (12, _)]) (.old rfl rfl <| .old rfl rfl <| .old rfl rfl <| .new rfl <| .nil)
    replace hc2 := hc2.mono hle4
    clear hst3 hfr3 hk4
    refine hK10 _ _ ?_; clear hK10
    refine cond_any hfr4 rfl rfl (fun hb12 => ?_) (fun hb12 => ?_)
    · try simp only [nq1, nq2, nq3, nq4, nq5, nq6, nq7, nq8, nq9, u8_eq] at hb12
      refine wp_skip ?_
      refine hK9 _ _ ?_; clear hK9
      refine cond_any hfr4 rfl rfl (fun hb12x => ?_) (fun hb12x => ?_)
      · try simp only [nq1, nq2, nq3, nq4, nq5, nq6, nq7, nq8, nq9, u8_eq] at hb12x
        refine seq_any fun _ hK11 => ?_
        refine rp0 hst4 hfr4 (.cons rfl (ob_move rfl) <| .cons rfl (ob_eql rfl rfl) <| .nil) ?_
        intro a5 w5 m5 hst5 hle5 hk5
        have hfr5 := hk5.fr (T' := [(2, _), (16, _)]) (.old rfl rfl <| .new rfl <| .nil)
        replace hc2 := hc2.mono hle5
        clear hst4 hfr4 hk5
        refine hK11 _ _ ?_; clear hK11
        refine cond_any hfr5 rfl rfl (fun hb16 => ?_) (fun hb16 => ?_)
        · try simp only [nq1, nq2, nq3, nq4, nq5, nq6, nq7, nq8, nq9, u8_eq] at hb16
          refine seq_any fun _ hK12 => ?_
          refine ra0 (tch := []) hst5 hfr5 (.cons rfl (ob_fieldAddrO (off := 1) rfl Tryd.underlying25 rfl rfl Tryd.sizeOf9 rfl) <| .cons rfl (ob_load1 rfl hc2 Tryd.isAgg9 rfl) <| .cons rfl (ob_buildSlice (.cons rfl <| .nil) Tryd.underlying29 Tryd.sizeOf9 Tryd.zeroValue9 rfl rfl rfl rfl) <| .consA 19 rfl rfl <| .nil) ?_
          intro a6 w6 m6 hst6 hle6 hk6
          have hfr6 := hk6.fr (T' := []) (.nil)
          obtain ⟨g9, e13, hg9⟩ := hk6.ex 19 rfl
          replace hfr6 := hfr6.cons (hk6.same 4 rfl e13)
          clear hst5 hfr5 hk6
          refine hK12 _ _ ?_; clear hK12
          refine wp_ret ?_
          repeat (with_reducible first | refine then_ret ?_ | refine block_ret ?_)
          exact fn_ret hst6 hfr6 rfl (.tmp rfl <| .nil) (⟨(some ⟨g9, 0, none⟩, 1), by rw [show bR t i = [t.name] from by unfold bR bindsR; first | rw [if_pos (by omega)] | rw [if_neg (by omega), if_pos (by omega), if_pos (by omega)] | rw [if_neg (by omega), if_pos (by omega), if_neg (by omega)] | rw [if_neg (by omega), if_neg (by omega), if_pos (by omega), if_pos (by omega)] | rw [if_neg (by omega), if_neg (by omega), if_pos (by omega), if_neg (by omega)] | rw [if_neg (by omega), if_neg (by omega), if_neg (by omega)]]; rfl, by rw [show bR t i = [t.name] from by unfold bR bindsR; first | rw [if_pos (by omega)] | rw [if_neg (by omega), if_pos (by omega), if_pos (by omega)] | rw [if_neg (by omega), if_pos (by omega), if_neg (by omega)] | rw [if_neg (by omega), if_neg (by omega), if_pos (by omega), if_pos (by omega)] | rw [if_neg (by omega), if_neg (by omega), if_pos (by omega), if_neg (by omega)] | rw [if_neg (by omega), if_neg (by omega), if_neg (by omega)]]; exact Sl.one (vs := [_]) hg9 rfl rfl⟩)
        · try simp only [nq1, nq2, nq3, nq4, nq5, nq6, nq7, nq8, nq9, u8_eq] at hb16
          refine wp_skip ?_
          refine hK3 _ _ ?_; clear hK3
          refine seq_any fun _ hK15 => ?_
          refine rp0 hst5 hfr5 (.cons rfl (ob_assign rfl) <| .nil) ?_
          intro a6 w6 m6 hst6 hle6 hk6
          have hfr6 := hk6.fr (T' := [(4, _)]) (.new rfl <| .nil)
          clear hst5 hfr5 hk6
          refine hK15 _ _ ?_; clear hK15
          refine wp_ret ?_
          repeat (with_reducible first | refine then_ret ?_ | refine block_ret ?_)
          exact fn_ret hst6 hfr6 rfl (.tmp rfl <| .nil) (⟨(none, 0), by rw [show bR t i = [] from by unfold bR bindsR; first | rw [if_pos (by omega)] | rw [if_neg (by omega), if_pos (by omega), if_pos (by omega)] | rw [if_neg (by omega), if_pos (by omega), if_neg (by omega)] | rw [if_neg (by omega), if_neg (by omega), if_pos (by omega), if_pos (by omega)] | rw [if_neg (by omega), if_neg (by omega), if_pos (by omega), if_neg (by omega)] | rw [if_neg (by omega), if_neg (by omega), if_neg (by omega)]]; rfl, by rw [show bR t i = [] from by unfold bR bindsR; first | rw [if_pos (by omega)] | rw [if_neg (by omega), if_pos (by omega), if_pos (by omega)] | rw [if_neg (by omega), if_pos (by omega), if_neg (by omega)] | rw [if_neg (by omega), if_neg (by omega), if_pos (by omega), if_pos (by omega)] | rw [if_neg (by omega), if_neg (by omega), if_pos (by omega), if_neg (by omega)] | rw [if_neg (by omega), if_neg (by omega), if_neg (by omega)]]; exact Sl.empty⟩)
      · exfalso; try simp only [nq1, nq2, nq3, nq4, nq5, nq6, nq7, nq8, nq9, u8_eq] at hb12x
        first | exact absurd hb12x hb12 | exact absurd hb12 hb12x | simp_all
    · try simp only [nq1, nq2, nq3, nq4, nq5, nq6, nq7, nq8, nq9, u8_eq] at hb12
      refine rp0 hst4 hfr4 (.cons rfl (ob_eql rfl rfl) <| .cons rfl (ob_assign rfl) <| .nil) ?_
      intro a5 w5 m5 hst5 hle5 hk5
      have hfr5 := hk5.fr (T' := [(1, _), (2, _), (6, _), (12, _)]) (.old rfl rfl <| .old rfl rfl <| .old rfl rfl <| .new rfl <| .nil)
      replace hc2 := hc2.mono hle5
      clear hst4 hfr4 hk5
      refine hK9 _ _ ?_; clear hK9
      refine cond_any hfr5 rfl rfl (fun hb12 => ?_) (fun hb12 => ?_)
      · try simp only [nq1, nq2, nq3, nq4, nq5, nq6, nq7, nq8, nq9, u8_eq] at hb12
        refine seq_any fun _ hK17 => ?_
        refine rp0 hst5 hfr5 (.cons rfl (ob_move rfl) <| .cons rfl (ob_eql rfl rfl) <| .nil) ?_
        intro a6 w6 m6 hst6 hle6 hk6
        have hfr6 := hk6.fr (T' := [(2, _), (16, _)]) (.old rfl rfl <| .new rfl <| .nil)
        replace hc2 := hc2.mono hle6
        clear hst5 hfr5 hk6
        refine hK17 _ _ ?_; clear hK17
        refine cond_any hfr6 rfl rfl (fun hb16 => ?_) (fun hb16 => ?_)
        · try simp only [nq1, nq2, nq3, nq4, nq5, nq6, nq7, nq8, nq9, u8_eq] at hb16
          refine seq_any fun _ hK18 => ?_
          refine ra0 (tch := []) hst6 hfr6 (.cons rfl (ob_fieldAddrO (off := 1) rfl Tryd.underlying25 rfl rfl Tryd.sizeOf9 rfl) <| .cons rfl (ob_load1 rfl hc2 Tryd.isAgg9 rfl) <| .cons rfl (ob_buildSlice (.cons rfl <| .nil) Tryd.underlying29 Tryd.sizeOf9 Tryd.zeroValue9 rfl rfl rfl rfl) <| .consA 19 rfl rfl <| .nil) ?_
          intro a7 w7 m7 hst7 hle7 hk7
          have hfr7 := hk7.fr (T' := []) (.nil)
          obtain ⟨g9, e19, hg9⟩ := hk7.ex 19 rfl
          replace hfr7 := hfr7.cons (hk7.same 4 rfl e19)
          clear hst6 hfr6 hk7
          refine hK18 _ _ ?_; clear hK18
          refine wp_ret ?_
          repeat (with_reducible first | refine then_ret ?_ | refine block_ret ?_)
          exact fn_ret hst7 hfr7 rfl (.tmp rfl <| .nil) (⟨(some ⟨g9, 0, none⟩, 1), by rw [show bR t i = [t.name] from by unfold bR bindsR; first | rw [if_pos (by omega)] | rw [if_neg (by omega), if_pos (by omega), if_pos (by omega)] | rw [if_neg (by omega), if_pos (by omega), if_neg (by omega)] | rw [if_neg (by omega), if_neg (by omega), if_pos (by omega), if_pos (by omega)] | rw [if_neg (by omega), if_neg (by omega), if_pos (by omega), if_neg (by omega)] | rw [if_neg (by omega), if_neg (by omega), if_neg (by omega)]]; rfl, by rw [show bR t i = [t.name] from by unfold bR bindsR; first | rw [if_pos (by omega)] | rw [if_neg (by omega), if_pos (by omega), if_pos (by omega)] | rw [if_neg (by omega), if_pos (by omega), if_neg (by omega)] | rw [if_neg (by omega), if_neg (by omega), if_pos (by omega), if_pos (by omega)] | rw [if_neg (by omega), if_neg (by omega), if_pos (by omega), if_neg (by omega)] | rw [if_neg (by omega), if_neg (by omega), if_neg (by omega)]]; exact Sl.one (vs := [_]) hg9 rfl rfl⟩)
        · try simp only [nq1, nq2, nq3, nq4, nq5, nq6, nq7, nq8, nq9, u8_eq] at hb16
          refine wp_skip ?_
          refine hK3 _ _ ?_; clear hK3
          refine seq_any fun _ hK21 => ?_
          refine rp0 hst6 hfr6 (.cons rfl (ob_assign rfl) <| .nil) ?_
          intro a7 w7 m7 hst7 hle7 hk7
          have hfr7 := hk7.fr (T' := [(4, _)]) (.new rfl <| .nil)
          clear hst6 hfr6 hk7
          refine hK21 _ _ ?_; clear hK21
          refine wp_ret ?_
          repeat (with_reducible first | refine then_ret ?_ | refine block_ret ?_)
          exact fn_ret hst7 hfr7 rfl (.tmp rfl <| .nil) (⟨(none, 0), by rw [show bR t i = [] from by unfold bR bindsR; first | rw [if_pos (by omega)] | rw [if_neg (by omega), if_pos (by omega), if_pos (by omega)] | rw [if_neg (by omega), if_pos (by omega), if_neg (by omega)] | rw [if_neg (by omega), if_neg (by omega), if_pos (by omega), if_pos (by omega)] | rw [if_neg (by omega), if_neg (by omega), if_pos (by omega), if_neg (by omega)] | rw [if_neg (by omega), if_neg (by omega), if_neg (by omega)]]; rfl, by rw [show bR t i = [] from by unfold bR bindsR; first | rw [if_pos (by omega)] | rw [if_neg (by omega), if_pos (by omega), if_pos (by omega)] | rw [if_neg (by omega), if_pos (by omega), if_neg (by omega)] | rw [if_neg (by omega), if_neg (by omega), if_pos (by omega), if_pos (by omega)] | rw [if_neg (by omega), if_neg (by omega), if_pos (by omega), if_neg (by omega)] | rw [if_neg (by omega), if_neg (by omega), if_neg (by omega)]]; exact Sl.empty⟩)
      · try simp only [nq1, nq2, nq3, nq4, nq5, nq6, nq7, nq8, nq9, u8_eq] at hb12
        refine seq_any fun _ hK23 => ?_
        refine rp0 hst5 hfr5 (.cons rfl (ob_eql rfl rfl) <| .cons rfl (ob_assign rfl) <| .nil) ?_
        intro a6 w6 m6 hst6 hle6 hk6
        have hfr6 := hk6.fr (T' := [(1, _), (2, _), (20, _)]) (.old rfl rfl <| .old rfl rfl <| .new rfl <| .nil)
        replace hc2 := hc2.mono hle6
        clear hst5 hfr5 hk6
        refine hK23 _ _ ?_; clear hK23
        refine cond_any hfr6 rfl rfl (fun hb20 => ?_) (fun hb20 => ?_)
        · try simp only [nq1, nq2, nq3, nq4, nq5, nq6, nq7, nq8, nq9, u8_eq] at hb20
          refine seq_any fun _ hK24 => ?_
          refine seq_any fun _ hK25 => ?_
          refine rp0 hst6 hfr6 (.cons rfl (ob_move rfl) <| .cons rfl (ob_eql rfl rfl) <| .nil) ?_
          intro a7 w7 m7 hst7 hle7 hk7
          have hfr7 := hk7.fr (T' := [(2, _), (23, _)]) (.old rfl rfl <| .new rfl <| .nil)
          replace hc2 := hc2.mono hle7
          clear hst6 hfr6 hk7
          refine hK25 _ _ ?_; clear hK25
          refine cond_any hfr7 rfl rfl (fun hb23 => ?_) (fun hb23 => ?_)
          · try simp only [nq1, nq2, nq3, nq4, nq5, nq6, nq7, nq8, nq9, u8_eq] at hb23
            refine seq_any fun _ hK26 => ?_
            refine ra0 (tch := []) hst7 hfr7 (.cons rfl (ob_fieldAddrO (off := 1) rfl Tryd.underlying25 rfl rfl Tryd.sizeOf9 rfl) <| .cons rfl (ob_load1 rfl hc2 Tryd.isAgg9 rfl) <| .cons rfl (ob_fieldAddrO (off := 2) rfl Tryd.underlying25 rfl rfl Tryd.sizeOf9 rfl) <| .cons rfl (ob_load1 rfl hc2 Tryd.isAgg9 rfl) <| .cons rfl (ob_buildSlice (.cons rfl <| .cons rfl <| .nil) Tryd.underlying29 Tryd.sizeOf9 Tryd.zeroValue9 rfl rfl rfl rfl) <| .consA 28 rfl rfl <| .nil) ?_
            intro a8 w8 m8 hst8 hle8 hk8
            have hfr8 := hk8.fr (T' := []) (.nil)
            obtain ⟨g9, e27, hg9⟩ := hk8.ex 28 rfl
            replace hfr8 := hfr8.cons (hk8.same 4 rfl e27)
            clear hst7 hfr7 hk8
            refine hK26 _ _ ?_; clear hK26
            refine wp_ret ?_
            repeat (with_reducible first | refine then_ret ?_ | refine block_ret ?_)
            exact fn_ret hst8 hfr8 rfl (.tmp rfl <| .nil) (⟨(some ⟨g9, 0, none⟩, 2), by rw [show bR t i = [t.name, t.param] from by unfold bR bindsR; first | rw [if_pos (by omega)] | rw [if_neg (by omega), if_pos (by omega), if_pos (by omega)] | rw [if_neg (by omega), if_pos (by omega), if_neg (by omega)] | rw [if_neg (by omega), if_neg (by omega), if_pos (by omega), if_pos (by omega)] | rw [if_neg (by omega), if_neg (by omega), if_pos (by omega), if_neg (by omega)] | rw [if_neg (by omega), if_neg (by omega), if_neg (by omega)]]; rfl, by rw [show bR t i = [t.name, t.param] from by unfold bR bindsR; first | rw [if_pos (by omega)] | rw [if_neg (by omega), if_pos (by omega), if_pos (by omega)] | rw [if_neg (by omega), if_pos (by omega), if_neg (by omega)] | rw [if_neg (by omega), if_neg (by omega), if_pos (by omega), if_pos (by omega)] | rw [if_neg (by omega), if_neg (by omega), if_pos (by omega), if_neg (by omega)] | rw [if_neg (by omega), if_neg (by omega), if_neg (by omega)]]; exact Sl.two (vs := [_]) (us := [_]) hg9 rfl rfl rfl rfl⟩)
          · try simp only [nq1, nq2, nq3, nq4, nq5, nq6, nq7, nq8, nq9, u8_eq] at hb23
            refine wp_skip ?_
            refine hK24 _ _ ?_; clear hK24
            refine seq_any fun _ hK29 => ?_
            refine ra0 (tch := []) hst7 hfr7 (.cons rfl (ob_fieldAddrO (off := 1) rfl Tryd.underlying25 rfl rfl Tryd.sizeOf9 rfl) <| .cons rfl (ob_load1 rfl hc2 Tryd.isAgg9 rfl) <| .cons rfl (ob_buildSlice (.cons rfl <| .nil) Tryd.underlying29 Tryd.sizeOf9 Tryd.zeroValue9 rfl rfl rfl rfl) <| .consA 31 rfl rfl <| .nil) ?_
            intro a8 w8 m8 hst8 hle8 hk8
            have hfr8 := hk8.fr (T' := []) (.nil)
            obtain ⟨g9, e30, hg9⟩ := hk8.ex 31 rfl
            replace hfr8 := hfr8.cons (hk8.same 4 rfl e30)
            clear hst7 hfr7 hk8
            refine hK29 _ _ ?_; clear hK29
            refine wp_ret ?_
            repeat (with_reducible first | refine then_ret ?_ | refine block_ret ?_)
            exact fn_ret hst8 hfr8 rfl (.tmp rfl <| .nil) (⟨(some ⟨g9, 0, none⟩, 1), by rw [show bR t i = [t.name] from by unfold bR bindsR; first | rw [if_pos (by omega)] | rw [if_neg (by omega), if_pos (by omega), if_pos (by omega)] | rw [if_neg (by omega), if_pos (by omega), if_neg (by omega)] | rw [if_neg (by omega), if_neg (by omega), if_pos (by omega), if_pos (by omega)] | rw [if_neg (by omega), if_neg (by omega), if_pos (by omega), if_neg (by omega)] | rw [if_neg (by omega), if_neg (by omega), if_neg (by omega)]]; rfl, by rw [show bR t i = [t.name] from by unfold bR bindsR; first | rw [if_pos (by omega)] | rw [if_neg (by omega), if_pos (by omega), if_pos (by omega)] | rw [if_neg (by omega), if_pos (by omega), if_neg (by omega)] | rw [if_neg (by omega), if_neg (by omega), if_pos (by omega), if_pos (by omega)] | rw [if_neg (by omega), if_neg (by omega), if_pos (by omega), if_neg (by omega)] | rw [if_neg (by omega), if_neg (by omega), if_neg (by omega)]]; exact Sl.one (vs := [_]) hg9 rfl rfl⟩)
        · try simp only [nq1, nq2, nq3, nq4, nq5, nq6, nq7, nq8, nq9, u8_eq] at hb20
          refine wp_skip ?_
          refine hK3 _ _ ?_; clear hK3
          refine seq_any fun _ hK32 => ?_
          refine rp0 hst6 hfr6 (.cons rfl (ob_assign rfl) <| .nil) ?_
          intro a7 w7 m7 hst7 hle7 hk7
          have hfr7 := hk7.fr (T' := [(4, _)]) (.new rfl <| .nil)
          clear hst6 hfr6 hk7
          refine hK32 _ _ ?_; clear hK32
          refine wp_ret ?_
          repeat (with_reducible first | refine then_ret ?_ | refine block_ret ?_)
          exact fn_ret hst7 hfr7 rfl (.tmp rfl <| .nil) (⟨(none, 0), by rw [show bR t i = [] from by unfold bR bindsR; first | rw [if_pos (by omega)] | rw [if_neg (by omega), if_pos (by omega), if_pos (by omega)] | rw [if_neg (by omega), if_pos (by omega), if_neg (by omega)] | rw [if_neg (by omega), if_neg (by omega), if_pos (by omega), if_pos (by omega)] | rw [if_neg (by omega), if_neg (by omega), if_pos (by omega), if_neg (by omega)] | rw [if_neg (by omega), if_neg (by omega), if_neg (by omega)]]; rfl, by rw [show bR t i = [] from by unfold bR bindsR; first | rw [if_pos (by omega)] | rw [if_neg (by omega), if_pos (by omega), if_pos (by omega)] | rw [if_neg (by omega), if_pos (by omega), if_neg (by omega)] | rw [if_neg (by omega), if_neg (by omega), if_pos (by omega), if_pos (by omega)] | rw [if_neg (by omega), if_neg (by omega), if_pos (by omega), if_neg (by omega)] | rw [if_neg (by omega), if_neg (by omega), if_neg (by omega)]]; exact Sl.empty⟩)

abbrev rfree_G (t : Cd) : Prop := ∀ {w : World} {m : Mem} {vs_t : List Value} {o_l : Option Addr} {c_l : Nat} {l : List Str} {o_q : Option Addr} {c_q : Nat} {q : List Str} (hA : Agree w m) (h_t : CdR m t vs_t) (h_l : Strs m o_l l.length c_l l) (h_q : Strs m o_q q.length c_q q) (hb : l.length + 2 * cntC t ≤ 1000000000) (hq : q.length + cntC t ≤ 1000000000), FnV Tryd.prog 38 #[.agg vs_t.toArray, .slice o_l l.length c_l, .slice o_q q.length c_q] w m (fun _ m v => (MP.strs (frR t l q)).p m v)
set_option maxHeartbeats 1600000 in
theorem rfree_s {t : Cd} (ihk : ∀ u ∈ t.kids, rfree_G u) (iha : ∀ a ∈ t.arms, rfree_G a.body) {w : World} {m : Mem} {vs_t : List Value} {o_l : Option Addr} {c_l : Nat} {l : List Str} {o_q : Option Addr} {c_q : Nat} {q : List Str} (hA : Agree w m) (h_t : CdR m t vs_t) (h_l : Strs m o_l l.length c_l l) (h_q : Strs m o_q q.length c_q q) (hb : l.length + 2 * cntC t ≤ 1000000000) (hq : q.length + cntC t ≤ 1000000000) : FnV Tryd.prog 38 #[.agg vs_t.toArray, .slice o_l l.length c_l, .slice o_q q.length c_q] w m (fun _ m v => (MP.strs (frR t l q)).p m v) := by
  obtain ⟨⟨oK_t, cK_t, oA_t, cA_t⟩, rfl, ⟨hik_t, hin_t⟩, hkk_t, haa_t⟩ := h_t.open_
  dsimp only at hkk_t haa_t
  have hbg_t := hkk_t.big; have hcp_t := hkk_t.cap; have hbh_t := haa_t.big; have hcq_t := haa_t.cap
  have hb_l := h_l.big; have hc_l := h_l.cap
  have hb_q := h_q.big; have hc_q := h_q.cap
  refine fn_enter (vs := [_, _, _]) Tryd.func38 rfl rfl rfl fun a0 hfr0 => ?_
  have hst0 := st_enter hA (loc_nil [] _ w m)
  have hM : MLe m m := MLe.refl m
  have hce := cntC_eq t
  have hfe := frR_eq t l q
  refine seq_any fun _ hK1 => ?_
  refine rp0 hst0 hfr0 (.cons rfl (ob_box rfl rfl) <| .cons rfl (ob_assign rfl) <| .nil) ?_
  intro a1 w1 m1 hst1 hle1 hk1
  have hfr1 := hk1.fr (T' := [(1, _), (2, _)]) (.old rfl rfl <| .old rfl rfl <| .nil)
  obtain ⟨g2, e2, hc3⟩ := hk1.ex 3 rfl
  replace hfr1 := hfr1.cons e2
  replace h_t := h_t.mono hle1
  replace hkk_t := hkk_t.mono hle1
  replace haa_t := haa_t.mono hle1
  replace h_l := h_l.mono hle1
  replace h_q := h_q.mono hle1
  clear hst0 hfr0 hk1
  refine hK1 _ _ ?_; clear hK1
  refine seq_any fun _ hK3 => ?_
  refine seq_any fun _ hK4 => ?_
  refine rp0 hst1 hfr1 (.cons rfl (ob_fieldAddrO (off := 0) rfl Tryd.underlying25 rfl rfl Tryd.sizeOf3 rfl) <| .cons rfl (ob_load1 rfl hc3 Tryd.isAgg3 rfl) <| .cons rfl (ob_eql rfl rfl) <| .cons rfl (ob_move rfl) <| .cons rfl (ob_move rfl) <| .cons rfl (ob_fieldAddrO (off := 1) rfl Tryd.underlying25 rfl rfl Tryd.sizeOf9 rfl) <| .cons rfl (ob_load1 rfl hc3 Tryd.isAgg9 rfl) <| .cons rfl (ob_callE rfl (.cons rfl <| .cons rfl <| .nil) Tryd.call61 (fun w m hK => by have hle_ := KC.le hK; have hA := KC.agree hK; have h_l := h_l.mono hle_; exact in15_c (l := l) (s := t.name) hA h_l)) <| .cons rfl (ob_not rfl) <| .cons rfl (ob_and rfl rfl rfl) <| .nil) ?_
  intro a2 w2 m2 hst2 hle2 hk2
  have hfr2 := hk2.fr (T' := [(1, _), (2, _), (3, _), (18, _)]) (.old rfl rfl <| .old rfl rfl <| .old rfl rfl <| .new rfl <| .nil)
  replace h_t := h_t.mono hle2
  replace hkk_t := hkk_t.mono hle2
  replace haa_t := haa_t.mono hle2
  replace h_l := h_l.mono hle2
  replace h_q := h_q.mono hle2
  replace hc3 := hc3.mono hle2
  clear hst1 hfr1 hk2
  refine hK4 _ _ ?_; clear hK4
  refine cond_any hfr2 rfl rfl (fun hb18 => ?_) (fun hb18 => ?_)
  · try simp only [nq1, nq2, nq3, nq4, nq5, nq6, nq7, nq8, nq9, u8_eq] at hb18
    have hh9 : frH t l q = withM q t.name := if_pos hb18
    have hql9 := withM_len q t.name
    refine ra0 (tch := []) hst2 hfr2 (.cons rfl (ob_move rfl) <| .cons rfl (ob_fieldAddrO (off := 1) rfl Tryd.underlying25 rfl rfl Tryd.sizeOf9 rfl) <| .cons rfl (ob_load1 rfl hc3 Tryd.isAgg9 rfl) <| .cons rfl (ob_call (φ := MP.strs (withM q t.name)) rfl (.cons rfl <| .cons rfl <| .nil) Tryd.call62 (fun w m hK => by have hle_ := KC.le hK; have hA := KC.agree hK; have h_q := h_q.mono hle_; exact FnG.mono (with_c (l := q) (s := t.name) hA h_q (by omega)) fun _ _ _ _ h => h)) <| .consA 22 rfl rfl <| .nil) ?_
    intro a3 w3 m3 hst3 hle3 hk3
    have hfr3 := hk3.fr (T' := [(1, _), (3, _)]) (.old rfl rfl <| .old rfl rfl <| .nil)
    obtain ⟨⟨oN, cN⟩, e5, hN⟩ := hk3.ex 22 rfl
    replace hfr3 := hfr3.cons (hk3.same 2 rfl e5)
    replace h_t := h_t.mono hle3
    replace hkk_t := hkk_t.mono hle3
    replace haa_t := haa_t.mono hle3
    replace h_l := h_l.mono hle3
    replace hc3 := hc3.mono hle3
    clear hst2 hfr2 hk3
    dsimp only [MP.strs, MP.mem] at hN
    refine hK3 _ _ ?_; clear hK3
    refine seq_any fun _ hK6 => ?_
    refine seq_any fun _ hK7 => ?_
    refine rp0 hst3 hfr3 (.cons rfl (ob_assign rfl) <| .nil) ?_
    intro a4 w4 m4 hst4 hle4 hk4
    have hfr4 := hk4.fr (T' := [(1, _), (3, _), (2, _), (7, _)]) (.old rfl rfl <| .old rfl rfl <| .old rfl rfl <| .new rfl <| .nil)
    replace h_t := h_t.mono hle4
    replace hkk_t := hkk_t.mono hle4
    replace haa_t := haa_t.mono hle4
    replace h_l := h_l.mono hle4
    replace hc3 := hc3.mono hle4
    replace hN := hN.mono hle4
    clear hst3 hfr3 hk4
    refine hK7 _ _ ?_; clear hK7
    refine wp_block ?_
    refine loop_any (T := [(1, _), (3, _)]) (fun (y : Nat × Option Addr × Nat × List Str) => ([(2, .slice y.2.1 y.2.2.2.length y.2.2.1), (7, .int .i64 (y.1 : Int))] : List (Nat × Value))) (fun _ => _) (fun (y : Nat × Option Addr × Nat × List Str) m => (fun (y : Nat) (gao : Option Addr) (gap : Nat) (ga : List Str) => (y ≤ t.kids.length) ∧ (Strs m gao ga.length gap ga) ∧ (frR t l q = frAs l t.arms (frKs (bR t) l y (t.kids.drop y) ga) ∧ ga.length + cntKs (t.kids.drop y) ≤ q.length + 1 + cntKs t.kids)) y.1 y.2.1 y.2.2.1 y.2.2.2) (fun y => t.kids.length - y.1) ((0, oN, cN, (withM q t.name))) ⟨hst4, MLe.refl _, hfr4.sub (.cons rfl <| .cons rfl <| .cons rfl <| .cons rfl <| .nil), ⟨Nat.zero_le _, hN, ⟨by rw [hfe, hh9]; rfl, by first | (show q.length + cntKs t.kids ≤ _; omega) | (show (withM q t.name).length + cntKs t.kids ≤ _; omega)⟩⟩⟩ fun y a5 w5 m5 hh5 => ?_
    have hst5 := hh5.st; have hle5 := hh5.le; have hfr5 := hh5.fr; have hrel := hh5.rel; clear hh5
    replace h_t := h_t.mono hle5
    replace hkk_t := hkk_t.mono hle5
    replace haa_t := haa_t.mono hle5
    replace h_l := h_l.mono hle5
    replace hc3 := hc3.mono hle5
    replace hN := hN.mono hle5
    clear hst4 hfr4
    obtain ⟨y, gao, gap, ga⟩ := y
    dsimp only at hrel hfr5 hst5
    obtain ⟨hyn, hsl_ga, hlen_ga⟩ := hrel
    have hlh5 := hle5
    refine seq_any fun _ hK9 => ?_
    refine seq_any fun _ hK10 => ?_
    refine rp0 hst5 hfr5 (.cons rfl (ob_move rfl) <| .cons rfl (ob_fieldAddrO (off := 4) rfl Tryd.underlying25 rfl rfl Tryd.sizeOf22 rfl) <| .cons rfl (ob_load1 rfl hc3 Tryd.isAgg22 rfl) <| .cons rfl (ob_len rfl Tryd.underlying22) <| .cons rfl (ob_lss rfl rfl) <| .nil) ?_
    intro a6 w6 m6 hst6 hle6 hk6
    have hfr6 := hk6.fr (T' := [(2, _), (7, _), (1, _), (3, _), (27, _)]) (.old rfl rfl <| .old rfl rfl <| .old rfl rfl <| .old rfl rfl <| .new rfl <| .nil)
    replace h_t := h_t.mono hle6
    replace hkk_t := hkk_t.mono hle6
    replace haa_t := haa_t.mono hle6
    replace h_l := h_l.mono hle6
    replace hc3 := hc3.mono hle6
    replace hN := hN.mono hle6
    replace hsl_ga := hsl_ga.mono hle6
    have hlh6 := hlh5.trans hle6
    clear hst5 hfr5 hk6
    refine hK10 _ _ ?_; clear hK10
    refine cond_any hfr6 rfl rfl (fun hb27 => ?_) (fun hb27 => ?_)
    · try simp only [nq1, nq2, nq3, nq4, nq5, nq6, nq7, nq8, nq9, u8_eq] at hb27
      refine wp_skip ?_
      refine hK9 _ _ ?_; clear hK9
      refine seq_any fun _ hK11 => ?_
      refine wp_block ?_
      obtain ⟨p12, vs12, x12, ho12, hd12, hm_x12, ht12, hcv12, hl12, hv12⟩ := hkk_t.nth (k := y) (by omega)
      cases ho12
      obtain ⟨⟨oK12, cK12, oA12, cA12⟩, rfl, ⟨hik12, hin12⟩, hkk12, haa12⟩ := hv12.open_
      dsimp only at hkk12 haa12
      have hbg12 := hkk12.big; have hcp12 := hkk12.cap; have hbh12 := haa12.big; have hcq12 := haa12.cap
      rw [hd12, frKs, cntKs] at hlen_ga
      have hck9 := cnt_kid hm_x12
      have hbl9 : (bR t y).length ≤ 2 := bindsR_len _ _ _ _
      have hbb9 := boundR_len l (bR t y)
      have hlg9 := hlen_ga.2
      refine region_any (tch := []) (fun _ => mixed) hst6 hfr6 (by kernel_rfl) (by kernel_rfl) (by kernel_rfl) (.cons rfl (ob_fieldAddrO (off := 4) rfl Tryd.underlying25 rfl rfl Tryd.sizeOf22 rfl) <| .cons rfl (ob_load1 rfl hc3 Tryd.isAgg22 rfl) <| .cons rfl (ob_move rfl) <| .cons rfl (ob_indexAddr (k := y) rfl rfl Tryd.underlying22 Tryd.sizeOf25 rfl (by omega)) <| .cons rfl (ob_loadS' rfl hcv12 Tryd.isAgg25 Tryd.sizeOf25 rfl rfl) <| .cons rfl (ob_move rfl) <| .cons rfl (ob_loadS' rfl hc3 Tryd.isAgg25 Tryd.sizeOf25 rfl rfl) <| .cons rfl (ob_move rfl) <| .cons rfl (ob_call (φ := MP.strs (bR t y)) rfl (.cons rfl <| .cons rfl <| .nil) Tryd.call64 (fun w m hK => by have hle_ := KC.le hK; have hA := KC.agree hK; have h_t := h_t.mono hle_; exact FnG.mono (binds_c (i := y) hA h_t) fun _ _ _ _ h => h)) <| .cons rfl (ob_imgE 38 rfl rfl rfl fun y38 => ob_call (φ := MP.strs (boundR l (bR t y))) rfl (.cons rfl <| .cons rfl <| .nil) Tryd.call63 (fun w m hK => by have hle_ := KC.le hK; have hA := KC.agree hK; have hr0_ := hK.2; have h_l := h_l.mono hle_; exact FnG.mono (bound_c (l := l) (k := bR t y) hA h_l hr0_ (by omega)) fun _ _ _ _ h => h)) <| .cons rfl (ob_move rfl) <| .cons rfl (ob_imgE 39 rfl rfl rfl fun y39 => ob_call (φ := MP.strs (frR x12 (boundR l (bR t y)) ga)) rfl (.cons rfl <| .cons rfl <| .cons rfl <| .nil) Tryd.call38 (fun w m hK => by have hle_ := KC.le hK; have hA := KC.agree hK; have hr0_ := hK.2; have hsl_ga := hsl_ga.mono hle_; have hv12 := hv12.mono hle_; exact FnG.mono (ihk _ hm_x12 hA hv12 hr0_ hsl_ga (by omega) (by omega)) fun _ _ _ _ h => h)) <| .consA 41 rfl rfl <| .nil) ?_
      intro a7 w7 m7 hst7 hle7 hk7
      have hfr7 := hk7.fr (T' := [(7, _), (1, _), (3, _)]) (.old rfl rfl <| .old rfl rfl <| .old rfl rfl <| .nil)
      obtain ⟨⟨oN, cN⟩, e13, hN⟩ := hk7.ex 41 rfl
      replace hfr7 := hfr7.cons (hk7.same 2 rfl e13)
      have hlh7 := hlh6.trans hle7
      clear hst6 hfr6 hk7
      dsimp only [MP.strs, MP.mem] at hN
      refine hK11 _ _ ?_; clear hK11
      refine rp0 hst7 hfr7 (.cons rfl (ob_move rfl) <| .cons rfl (ob_add rfl rfl ⟨by omega, by omega⟩) <| .cons rfl (ob_assign rfl) <| .nil) ?_
      intro a8 w8 m8 hst8 hle8 hk8
      have hfr8 := hk8.fr (T' := [(1, _), (3, _), (2, _), (7, _)]) (.old rfl rfl <| .old rfl rfl <| .old rfl rfl <| .new rfl <| .nil)
      replace hN := hN.mono hle8
      have hlh8 := hlh7.trans hle8
      clear hst7 hfr7 hk8
      exact ⟨(y + 1, oN, cN, (frR x12 (boundR l (bR t y)) ga)), m8, by show t.kids.length - (y + 1) < t.kids.length - y; omega, ⟨hst8, hlh8, hfr8.sub (.cons rfl <| .cons rfl <| .cons rfl <| .cons rfl <| .nil), ⟨by show y + 1 ≤ t.kids.length; omega, hN, ⟨hlen_ga.1, by have h1 := hlen_ga.2; have h2 := frR_len x12 (boundR l (bR t y)) ga; have h3 := occR_len x12 (boundR l (bR t y)); show (frR x12 (boundR l (bR t y)) ga).length + cntKs (t.kids.drop (y + 1)) ≤ _; omega⟩⟩⟩⟩
    · try simp only [nq1, nq2, nq3, nq4, nq5, nq6, nq7, nq8, nq9, u8_eq] at hb27
      have hge : y = t.kids.length := by omega
      rw [List.drop_of_length_le (by omega), frKs, cntKs] at hlen_ga
      refine wp_exit ?_
      refine hK6 _ _ ?_; clear hK6
      refine seq_any fun _ hK14 => ?_
      refine seq_any fun _ hK15 => ?_
      refine rp0 hst6 hfr6 (.cons rfl (ob_assign rfl) <| .nil) ?_
      intro a7 w7 m7 hst7 hle7 hk7
      have hfr7 := hk7.fr (T' := [(2, _), (7, _), (1, _), (3, _), (8, _)]) (.old rfl rfl <| .old rfl rfl <| .old rfl rfl <| .old rfl rfl <| .new rfl <| .nil)
      replace haa_t := haa_t.mono hle7
      replace h_l := h_l.mono hle7
      replace hc3 := hc3.mono hle7
      replace hN := hN.mono hle7
      replace hsl_ga := hsl_ga.mono hle7
      have hlh7 := hlh6.trans hle7
      clear hst6 hfr6 hk7
      refine hK15 _ _ ?_; clear hK15
      refine wp_block ?_
      have hlq16 := hlh7
      refine loop_any (T := [(7, _), (1, _), (3, _)]) (fun (y : Nat × Option Addr × Nat × List Str) => ([(2, .slice y.2.1 y.2.2.2.length y.2.2.1), (8, .int .i64 (y.1 : Int))] : List (Nat × Value))) (fun _ => _) (fun (y : Nat × Option Addr × Nat × List Str) m => (fun (y : Nat) (gbo : Option Addr) (gbp : Nat) (gb : List Str) => (y ≤ t.arms.length) ∧ (Strs m gbo gb.length gbp gb) ∧ (frR t l q = frAs l (t.arms.drop y) gb ∧ gb.length + cntAs (t.arms.drop y) ≤ q.length + cntC t)) y.1 y.2.1 y.2.2.1 y.2.2.2) (fun y => t.arms.length - y.1) ((0, gao, gap, ga)) ⟨hst7, MLe.refl _, hfr7.sub (.cons rfl <| .cons rfl <| .cons rfl <| .cons rfl <| .cons rfl <| .nil), ⟨Nat.zero_le _, hsl_ga, ⟨hlen_ga.1, by have := hlen_ga.2; show ga.length + cntAs t.arms ≤ _; omega⟩⟩⟩ fun y a8 w8 m8 hh8 => ?_
      have hst8 := hh8.st; have hle8 := hh8.le; have hfr8 := hh8.fr; have hrel := hh8.rel; clear hh8
      replace haa_t := haa_t.mono hle8
      replace h_l := h_l.mono hle8
      replace hc3 := hc3.mono hle8
      replace hN := hN.mono hle8
      clear hst7 hfr7
      obtain ⟨y, gbo, gbp, gb⟩ := y
      dsimp only at hrel hfr8 hst8
      obtain ⟨hyn, hsl_gb, hlen_gb⟩ := hrel
      have hlh8 := hle8
      refine seq_any fun _ hK17 => ?_
      refine seq_any fun _ hK18 => ?_
      refine rp0 hst8 hfr8 (.cons rfl (ob_move rfl) <| .cons rfl (ob_fieldAddrO (off := 5) rfl Tryd.underlying25 rfl rfl Tryd.sizeOf23 rfl) <| .cons rfl (ob_load1 rfl hc3 Tryd.isAgg23 rfl) <| .cons rfl (ob_len rfl Tryd.underlying23) <| .cons rfl (ob_lss rfl rfl) <| .nil) ?_
      intro a9 w9 m9 hst9 hle9 hk9
      have hfr9 := hk9.fr (T' := [(2, _), (8, _), (7, _), (1, _), (3, _), (46, _)]) (.old rfl rfl <| .old rfl rfl <| .old rfl rfl <| .old rfl rfl <| .old rfl rfl <| .new rfl <| .nil)
      replace haa_t := haa_t.mono hle9
      replace h_l := h_l.mono hle9
      replace hc3 := hc3.mono hle9
      replace hN := hN.mono hle9
      replace hsl_gb := hsl_gb.mono hle9
      have hlh9 := hlh8.trans hle9
      clear hst8 hfr8 hk9
      refine hK18 _ _ ?_; clear hK18
      refine cond_any hfr9 rfl rfl (fun hb46 => ?_) (fun hb46 => ?_)
      · try simp only [nq1, nq2, nq3, nq4, nq5, nq6, nq7, nq8, nq9, u8_eq] at hb46
        refine wp_skip ?_
        refine hK17 _ _ ?_; clear hK17
        refine seq_any fun _ hK19 => ?_
        refine wp_block ?_
        obtain ⟨p20, vs20, x20, ho20, hd20, hm_x20, ht20, hcv20, hl20, hv20⟩ := haa_t.nth (k := y) (by omega)
        cases ho20
        obtain ⟨oV20, cV20, bs20, rfl, hva20, hbd20⟩ := hv20.open_
        have hbv20 := hva20.big; have hcv20_ := hva20.cap
        obtain ⟨⟨oK20b, cK20b, oA20b, cA20b⟩, rfl, ⟨hik20b, hin20b⟩, hkk20b, haa20b⟩ := hbd20.open_
        dsimp only at hkk20b haa20b
        have hbg20b := hkk20b.big; have hcp20b := hkk20b.cap; have hbh20b := haa20b.big; have hcq20b := haa20b.cap
        rw [hd20, frAs_cons, cntAs_cons] at hlen_gb
        have hca9 := cnt_arm hm_x20
        have hbb9 := boundR_len l x20.vars
        have hlg9 := hlen_gb.2
        refine region_any (tch := []) (fun _ => mixed) hst9 hfr9 (by kernel_rfl) (by kernel_rfl) (by kernel_rfl) (.cons rfl (ob_fieldAddrO (off := 5) rfl Tryd.underlying25 rfl rfl Tryd.sizeOf23 rfl) <| .cons rfl (ob_load1 rfl hc3 Tryd.isAgg23 rfl) <| .cons rfl (ob_move rfl) <| .cons rfl (ob_indexAddr (k := y) rfl rfl Tryd.underlying23 Tryd.sizeOf35 rfl (by omega)) <| .cons rfl (ob_fieldAddrO (off := 3) rfl Tryd.underlying35 rfl rfl Tryd.sizeOf25 rfl) <| .cons rfl (ob_loadS rfl hcv20 Tryd.isAgg25 Tryd.sizeOf25 rfl rfl) <| .cons rfl (ob_move rfl) <| .cons rfl (ob_fieldAddrO (off := 5) rfl Tryd.underlying25 rfl rfl Tryd.sizeOf23 rfl) <| .cons rfl (ob_load1 rfl hc3 Tryd.isAgg23 rfl) <| .cons rfl (ob_move rfl) <| .cons rfl (ob_indexAddr (k := y) rfl rfl Tryd.underlying23 Tryd.sizeOf35 rfl (by omega)) <| .cons rfl (ob_fieldAddrO (off := 1) rfl Tryd.underlying35 rfl rfl Tryd.sizeOf29 rfl) <| .cons rfl (ob_load1 rfl hcv20 Tryd.isAgg29 rfl) <| .cons rfl (ob_call (φ := MP.strs (boundR l x20.vars)) rfl (.cons rfl <| .cons rfl <| .nil) Tryd.call63 (fun w m hK => by have hle_ := KC.le hK; have hA := KC.agree hK; have h_l := h_l.mono hle_; have hva20 := hva20.mono hle_; exact FnG.mono (bound_c (l := l) (k := x20.vars) hA h_l hva20 (by omega)) fun _ _ _ _ h => h)) <| .cons rfl (ob_move rfl) <| .cons rfl (ob_imgE 62 rfl rfl rfl fun y62 => ob_call (φ := MP.strs (frR x20.body (boundR l x20.vars) gb)) rfl (.cons rfl <| .cons rfl <| .cons rfl <| .nil) Tryd.call38 (fun w m hK => by have hle_ := KC.le hK; have hA := KC.agree hK; have hr0_ := hK.2; have hsl_gb := hsl_gb.mono hle_; have hbd20 := hbd20.mono hle_; exact FnG.mono (iha _ hm_x20 hA hbd20 hr0_ hsl_gb (by omega) (by omega)) fun _ _ _ _ h => h)) <| .consA 64 rfl rfl <| .nil) ?_
        intro a10 w10 m10 hst10 hle10 hk10
        have hfr10 := hk10.fr (T' := [(8, _), (7, _), (1, _), (3, _)]) (.old rfl rfl <| .old rfl rfl <| .old rfl rfl <| .old rfl rfl <| .nil)
        obtain ⟨⟨oN, cN⟩, e21, hN⟩ := hk10.ex 64 rfl
        replace hfr10 := hfr10.cons (hk10.same 2 rfl e21)
        have hlh10 := hlh9.trans hle10
        clear hst9 hfr9 hk10
        dsimp only [MP.strs, MP.mem] at hN
        refine hK19 _ _ ?_; clear hK19
        refine rp0 hst10 hfr10 (.cons rfl (ob_move rfl) <| .cons rfl (ob_add rfl rfl ⟨by omega, by omega⟩) <| .cons rfl (ob_assign rfl) <| .nil) ?_
        intro a11 w11 m11 hst11 hle11 hk11
        have hfr11 := hk11.fr (T' := [(7, _), (1, _), (3, _), (2, _), (8, _)]) (.old rfl rfl <| .old rfl rfl <| .old rfl rfl <| .old rfl rfl <| .new rfl <| .nil)
        replace hN := hN.mono hle11
        have hlh11 := hlh10.trans hle11
        clear hst10 hfr10 hk11
        exact ⟨(y + 1, oN, cN, (frR x20.body (boundR l x20.vars) gb)), m11, by show t.arms.length - (y + 1) < t.arms.length - y; omega, ⟨hst11, hlh11, hfr11.sub (.cons rfl <| .cons rfl <| .cons rfl <| .cons rfl <| .cons rfl <| .nil), ⟨by show y + 1 ≤ t.arms.length; omega, hN, ⟨hlen_gb.1, by have h1 := hlen_gb.2; have h2 := frR_len x20.body (boundR l x20.vars) gb; have h3 := occR_len x20.body (boundR l x20.vars); show (frR x20.body (boundR l x20.vars) gb).length + cntAs (t.arms.drop (y + 1)) ≤ _; omega⟩⟩⟩⟩
      · try simp only [nq1, nq2, nq3, nq4, nq5, nq6, nq7, nq8, nq9, u8_eq] at hb46
        have hge : y = t.arms.length := by omega
        rw [List.drop_of_length_le (by omega), frAs, cntAs] at hlen_gb
        have hfin : frR t l q = gb := hlen_gb.1
        refine wp_exit ?_
        refine hK14 _ _ ?_; clear hK14
        refine seq_any fun _ hK22 => ?_
        refine rp0 hst9 hfr9 (.cons rfl (ob_move rfl) <| .cons rfl (ob_assign rfl) <| .nil) ?_
        intro a10 w10 m10 hst10 hle10 hk10
        have hfr10 := hk10.fr (T' := [(2, _), (8, _), (7, _), (6, _)]) (.old rfl rfl <| .old rfl rfl <| .old rfl rfl <| .new rfl <| .nil)
        replace hsl_gb := hsl_gb.mono hle10
        have hlh10 := hlh9.trans hle10
        clear hst9 hfr9 hk10
        refine hK22 _ _ ?_; clear hK22
        refine wp_ret ?_
        repeat (with_reducible first | refine then_ret ?_ | refine block_ret ?_)
        exact fn_ret hst10 hfr10 rfl (.tmp rfl <| .nil) (⟨(_, _), by rw [hfin]; rfl, by rw [hfin]; exact hsl_gb⟩)
  · try simp only [nq1, nq2, nq3, nq4, nq5, nq6, nq7, nq8, nq9, u8_eq] at hb18
    have hh9 : frH t l q = q := if_neg (fun h => hb18.elim (fun h2 => h2 h.1) (fun h2 => h.2 h2))
    refine wp_skip ?_
    refine hK3 _ _ ?_; clear hK3
    refine seq_any fun _ hK24 => ?_
    refine seq_any fun _ hK25 => ?_
    refine rp0 hst2 hfr2 (.cons rfl (ob_assign rfl) <| .nil) ?_
    intro a3 w3 m3 hst3 hle3 hk3
    have hfr3 := hk3.fr (T' := [(1, _), (2, _), (3, _), (7, _)]) (.old rfl rfl <| .old rfl rfl <| .old rfl rfl <| .new rfl <| .nil)
    replace h_t := h_t.mono hle3
    replace hkk_t := hkk_t.mono hle3
    replace haa_t := haa_t.mono hle3
    replace h_l := h_l.mono hle3
    replace h_q := h_q.mono hle3
    replace hc3 := hc3.mono hle3
    clear hst2 hfr2 hk3
    refine hK25 _ _ ?_; clear hK25
    refine wp_block ?_
    refine loop_any (T := [(1, _), (3, _)]) (fun (y : Nat × Option Addr × Nat × List Str) => ([(2, .slice y.2.1 y.2.2.2.length y.2.2.1), (7, .int .i64 (y.1 : Int))] : List (Nat × Value))) (fun _ => _) (fun (y : Nat × Option Addr × Nat × List Str) m => (fun (y : Nat) (gao : Option Addr) (gap : Nat) (ga : List Str) => (y ≤ t.kids.length) ∧ (Strs m gao ga.length gap ga) ∧ (frR t l q = frAs l t.arms (frKs (bR t) l y (t.kids.drop y) ga) ∧ ga.length + cntKs (t.kids.drop y) ≤ q.length + 1 + cntKs t.kids)) y.1 y.2.1 y.2.2.1 y.2.2.2) (fun y => t.kids.length - y.1) ((0, o_q, c_q, q)) ⟨hst3, MLe.refl _, hfr3.sub (.cons rfl <| .cons rfl <| .cons rfl <| .cons rfl <| .nil), ⟨Nat.zero_le _, h_q, ⟨by rw [hfe, hh9]; rfl, by first | (show q.length + cntKs t.kids ≤ _; omega) | (show (withM q t.name).length + cntKs t.kids ≤ _; omega)⟩⟩⟩ fun y a4 w4 m4 hh4 => ?_
    have hst4 := hh4.st; have hle4 := hh4.le; have hfr4 := hh4.fr; have hrel := hh4.rel; clear hh4
    replace h_t := h_t.mono hle4
    replace hkk_t := hkk_t.mono hle4
    replace haa_t := haa_t.mono hle4
    replace h_l := h_l.mono hle4
    replace hc3 := hc3.mono hle4
    clear hst3 hfr3
    obtain ⟨y, gao, gap, ga⟩ := y
    dsimp only at hrel hfr4 hst4
    obtain ⟨hyn, hsl_ga, hlen_ga⟩ := hrel
    have hlh4 := hle4
    refine seq_any fun _ hK27 => ?_
    refine seq_any fun _ hK28 => ?_
    refine rp0 hst4 hfr4 (.cons rfl (ob_move rfl) <| .cons rfl (ob_fieldAddrO (off := 4) rfl Tryd.underlying25 rfl rfl Tryd.sizeOf22 rfl) <| .cons rfl (ob_load1 rfl hc3 Tryd.isAgg22 rfl) <| .cons rfl (ob_len rfl Tryd.underlying22) <| .cons rfl (ob_lss rfl rfl) <| .nil) ?_
    intro a5 w5 m5 hst5 hle5 hk5
    have hfr5 := hk5.fr (T' := [(2, _), (7, _), (1, _), (3, _), (27, _)]) (.old rfl rfl <| .old rfl rfl <| .old rfl rfl <| .old rfl rfl <| .new rfl <| .nil)
    replace h_t := h_t.mono hle5
    replace hkk_t := hkk_t.mono hle5
    replace haa_t := haa_t.mono hle5
    replace h_l := h_l.mono hle5
    replace hc3 := hc3.mono hle5
    replace hsl_ga := hsl_ga.mono hle5
    have hlh5 := hlh4.trans hle5
    clear hst4 hfr4 hk5
    refine hK28 _ _ ?_; clear hK28
    refine cond_any hfr5 rfl rfl (fun hb27 => ?_) (fun hb27 => ?_)
    · try simp only [nq1, nq2, nq3, nq4, nq5, nq6, nq7, nq8, nq9, u8_eq] at hb27
      refine wp_skip ?_
      refine hK27 _ _ ?_; clear hK27
      refine seq_any fun _ hK29 => ?_
      refine wp_block ?_
      obtain ⟨p30, vs30, x30, ho30, hd30, hm_x30, ht30, hcv30, hl30, hv30⟩ := hkk_t.nth (k := y) (by omega)
      cases ho30
      obtain ⟨⟨oK30, cK30, oA30, cA30⟩, rfl, ⟨hik30, hin30⟩, hkk30, haa30⟩ := hv30.open_
      dsimp only at hkk30 haa30
      have hbg30 := hkk30.big; have hcp30 := hkk30.cap; have hbh30 := haa30.big; have hcq30 := haa30.cap
      rw [hd30, frKs, cntKs] at hlen_ga
      have hck9 := cnt_kid hm_x30
      have hbl9 : (bR t y).length ≤ 2 := bindsR_len _ _ _ _
      have hbb9 := boundR_len l (bR t y)
      have hlg9 := hlen_ga.2
      refine region_any (tch := []) (fun _ => mixed) hst5 hfr5 (by kernel_rfl) (by kernel_rfl) (by kernel_rfl) (.cons rfl (ob_fieldAddrO (off := 4) rfl Tryd.underlying25 rfl rfl Tryd.sizeOf22 rfl) <| .cons rfl (ob_load1 rfl hc3 Tryd.isAgg22 rfl) <| .cons rfl (ob_move rfl) <| .cons rfl (ob_indexAddr (k := y) rfl rfl Tryd.underlying22 Tryd.sizeOf25 rfl (by omega)) <| .cons rfl (ob_loadS' rfl hcv30 Tryd.isAgg25 Tryd.sizeOf25 rfl rfl) <| .cons rfl (ob_move rfl) <| .cons rfl (ob_loadS' rfl hc3 Tryd.isAgg25 Tryd.sizeOf25 rfl rfl) <| .cons rfl (ob_move rfl) <| .cons rfl (ob_call (φ := MP.strs (bR t y)) rfl (.cons rfl <| .cons rfl <| .nil) Tryd.call64 (fun w m hK => by have hle_ := KC.le hK; have hA := KC.agree hK; have h_t := h_t.mono hle_; exact FnG.mono (binds_c (i := y) hA h_t) fun _ _ _ _ h => h)) <| .cons rfl (ob_imgE 38 rfl rfl rfl fun y38 => ob_call (φ := MP.strs (boundR l (bR t y))) rfl (.cons rfl <| .cons rfl <| .nil) Tryd.call63 (fun w m hK => by have hle_ := KC.le hK; have hA := KC.agree hK; have hr0_ := hK.2; have h_l := h_l.mono hle_; exact FnG.mono (bound_c (l := l) (k := bR t y) hA h_l hr0_ (by omega)) fun _ _ _ _ h => h)) <| .cons rfl (ob_move rfl) <| .cons rfl (ob_imgE 39 rfl rfl rfl fun y39 => ob_call (φ := MP.strs (frR x30 (boundR l (bR t y)) ga)) rfl (.cons rfl <| .cons rfl <| .cons rfl <| .nil) Tryd.call38 (fun w m hK => by have hle_ := KC.le hK; have hA := KC.agree hK; have hr0_ := hK.2; have hsl_ga := hsl_ga.mono hle_; have hv30 := hv30.mono hle_; exact FnG.mono (ihk _ hm_x30 hA hv30 hr0_ hsl_ga (by omega) (by omega)) fun _ _ _ _ h => h)) <| .consA 41 rfl rfl <| .nil) ?_
      intro a6 w6 m6 hst6 hle6 hk6
      have hfr6 := hk6.fr (T' := [(7, _), (1, _), (3, _)]) (.old rfl rfl <| .old rfl rfl <| .old rfl rfl <| .nil)
      obtain ⟨⟨oN, cN⟩, e31, hN⟩ := hk6.ex 41 rfl
      replace hfr6 := hfr6.cons (hk6.same 2 rfl e31)
      have hlh6 := hlh5.trans hle6
      clear hst5 hfr5 hk6
      dsimp only [MP.strs, MP.mem] at hN
      refine hK29 _ _ ?_; clear hK29
      refine rp0 hst6 hfr6 (.cons rfl (ob_move rfl) <| .cons rfl (ob_add rfl rfl ⟨by omega, by omega⟩) <| .cons rfl (ob_assign rfl) <| .nil) ?_
      intro a7 w7 m7 hst7 hle7 hk7
      have hfr7 := hk7.fr (T' := [(1, _), (3, _), (2, _), (7, _)]) (.old rfl rfl <| .old rfl rfl <| .old rfl rfl <| .new rfl <| .nil)
      replace hN := hN.mono hle7
      have hlh7 := hlh6.trans hle7
      clear hst6 hfr6 hk7
      exact ⟨(y + 1, oN, cN, (frR x30 (boundR l (bR t y)) ga)), m7, by show t.kids.length - (y + 1) < t.kids.length - y; omega, ⟨hst7, hlh7, hfr7.sub (.cons rfl <| .cons rfl <| .cons rfl <| .cons rfl <| .nil), ⟨by show y + 1 ≤ t.kids.length; omega, hN, ⟨hlen_ga.1, by have h1 := hlen_ga.2; have h2 := frR_len x30 (boundR l (bR t y)) ga; have h3 := occR_len x30 (boundR l (bR t y)); show (frR x30 (boundR l (bR t y)) ga).length + cntKs (t.kids.drop (y + 1)) ≤ _; omega⟩⟩⟩⟩
    · try simp only [nq1, nq2, nq3, nq4, nq5, nq6, nq7, nq8, nq9, u8_eq] at hb27
      have hge : y = t.kids.length := by omega
      rw [List.drop_of_length_le (by omega), frKs, cntKs] at hlen_ga
      refine wp_exit ?_
      refine hK24 _ _ ?_; clear hK24
      refine seq_any fun _ hK32 => ?_
      refine seq_any fun _ hK33 => ?_
      refine rp0 hst5 hfr5 (.cons rfl (ob_assign rfl) <| .nil) ?_
      intro a6 w6 m6 hst6 hle6 hk6
      have hfr6 := hk6.fr (T' := [(2, _), (7, _), (1, _), (3, _), (8, _)]) (.old rfl rfl <| .old rfl rfl <| .old rfl rfl <| .old rfl rfl <| .new rfl <| .nil)
      replace haa_t := haa_t.mono hle6
      replace h_l := h_l.mono hle6
      replace hc3 := hc3.mono hle6
      replace hsl_ga := hsl_ga.mono hle6
      have hlh6 := hlh5.trans hle6
      clear hst5 hfr5 hk6
      refine hK33 _ _ ?_; clear hK33
      refine wp_block ?_
      have hlq34 := hlh6
      refine loop_any (T := [(7, _), (1, _), (3, _)]) (fun (y : Nat × Option Addr × Nat × List Str) => ([(2, .slice y.2.1 y.2.2.2.length y.2.2.1), (8, .int .i64 (y.1 : Int))] : List (Nat × Value))) (fun _ => _) (fun (y : Nat × Option Addr × Nat × List Str) m => (fun (y : Nat) (gbo : Option Addr) (gbp : Nat) (gb : List Str) => (y ≤ t.arms.length) ∧ (Strs m gbo gb.length gbp gb) ∧ (frR t l q = frAs l (t.arms.drop y) gb ∧ gb.length + cntAs (t.arms.drop y) ≤ q.length + cntC t)) y.1 y.2.1 y.2.2.1 y.2.2.2) (fun y => t.arms.length - y.1) ((0, gao, gap, ga)) ⟨hst6, MLe.refl _, hfr6.sub (.cons rfl <| .cons rfl <| .cons rfl <| .cons rfl <| .cons rfl <| .nil), ⟨Nat.zero_le _, hsl_ga, ⟨hlen_ga.1, by have := hlen_ga.2; show ga.length + cntAs t.arms ≤ _; omega⟩⟩⟩ fun y a7 w7 m7 hh7 => ?_
      have hst7 := hh7.st; have hle7 := hh7.le; have hfr7 := hh7.fr; have hrel := hh7.rel; clear hh7
      replace haa_t := haa_t.mono hle7
      replace h_l := h_l.mono hle7
      replace hc3 := hc3.mono hle7
      clear hst6 hfr6
      obtain ⟨y, gbo, gbp, gb⟩ := y
      dsimp only at hrel hfr7 hst7
      obtain ⟨hyn, hsl_gb, hlen_gb⟩ := hrel
      have hlh7 := hle7
      refine seq_any fun _ hK35 => ?_
      refine seq_any fun _ hK36 => ?_
      refine rp0 hst7 hfr7 (.cons rfl (ob_move rfl) <| .cons rfl (ob_fieldAddrO (off := 5) rfl Tryd.underlying25 rfl rfl Tryd.sizeOf23 rfl) <| .cons rfl (ob_load1 rfl hc3 Tryd.isAgg23 rfl) <| .cons rfl (ob_len rfl Tryd.underlying23) <| .cons rfl (ob_lss rfl rfl) <| .nil) ?_
      intro a8 w8 m8 hst8 hle8 hk8
      have hfr8 := hk8.fr (T' := [(2, _), (8, _), (7, _), (1, _), (3, _), (46, _)]) (.old rfl rfl <| .old rfl rfl <| .old rfl rfl <| .old rfl rfl <| .old rfl rfl <| .new rfl <| .nil)
      replace haa_t := haa_t.mono hle8
      replace h_l := h_l.mono hle8
      replace hc3 := hc3.mono hle8
      replace hsl_gb := hsl_gb.mono hle8
      have hlh8 := hlh7.trans hle8
      clear hst7 hfr7 hk8
      refine hK36 _ _ ?_; clear hK36
      refine cond_any hfr8 rfl rfl (fun hb46 => ?_) (fun hb46 => ?_)
      · try simp only [nq1, nq2, nq3, nq4, nq5, nq6, nq7, nq8, nq9, u8_eq] at hb46
        refine wp_skip ?_
        refine hK35 _ _ ?_; clear hK35
        refine seq_any fun _ hK37 => ?_
        refine wp_block ?_
        obtain ⟨p38, vs38, x38, ho38, hd38, hm_x38, ht38, hcv38, hl38, hv38⟩ := haa_t.nth (k := y) (by omega)
        cases ho38
        obtain ⟨oV38, cV38, bs38, rfl, hva38, hbd38⟩ := hv38.open_
        have hbv38 := hva38.big; have hcv38_ := hva38.cap
        obtain ⟨⟨oK38b, cK38b, oA38b, cA38b⟩, rfl, ⟨hik38b, hin38b⟩, hkk38b, haa38b⟩ := hbd38.open_
        dsimp only at hkk38b haa38b
        have hbg38b := hkk38b.big; have hcp38b := hkk38b.cap; have hbh38b := haa38b.big; have hcq38b := haa38b.cap
        rw [hd38, frAs_cons, cntAs_cons] at hlen_gb
        have hca9 := cnt_arm hm_x38
        have hbb9 := boundR_len l x38.vars
        have hlg9 := hlen_gb.2
        refine region_any (tch := []) (fun _ => mixed) hst8 hfr8 (by kernel_rfl) (by kernel_rfl) (by kernel_rfl) (.cons rfl (ob_fieldAddrO (off := 5) rfl Tryd.underlying25 rfl rfl Tryd.sizeOf23 rfl) <| .cons rfl (ob_load1 rfl hc3 Tryd.isAgg23 rfl) <| .cons rfl (ob_move rfl) <| .cons rfl (ob_indexAddr (k := y) rfl rfl Tryd.underlying23 Tryd.sizeOf35 rfl (by omega)) <| .cons rfl (ob_fieldAddrO (off := 3) rfl Tryd.underlying35 rfl rfl Tryd.sizeOf25 rfl) <| .cons rfl (ob_loadS rfl hcv38 Tryd.isAgg25 Tryd.sizeOf25 rfl rfl) <| .cons rfl (ob_move rfl) <| .cons rfl (ob_fieldAddrO (off := 5) rfl Tryd.underlying25 rfl rfl Tryd.sizeOf23 rfl) <| .cons rfl (ob_load1 rfl hc3 Tryd.isAgg23 rfl) <| .cons rfl (ob_move rfl) <| .cons rfl (ob_indexAddr (k := y) rfl rfl Tryd.underlying23 Tryd.sizeOf35 rfl (by omega)) <| .cons rfl (ob_fieldAddrO (off := 1) rfl Tryd.underlying35 rfl rfl Tryd.sizeOf29 rfl) <| .cons rfl (ob_load1 rfl hcv38 Tryd.isAgg29 rfl) <| .cons rfl (ob_call (φ := MP.strs (boundR l x38.vars)) rfl (.cons rfl <| .cons rfl <| .nil) Tryd.call63 (fun w m hK => by have hle_ := KC.le hK; have hA := KC.agree hK; have h_l := h_l.mono hle_; have hva38 := hva38.mono hle_; exact FnG.mono (bound_c (l := l) (k := x38.vars) hA h_l hva38 (by omega)) fun _ _ _ _ h => h)) <| .cons rfl (ob_move rfl) <| .cons rfl (ob_imgE 62 rfl rfl rfl fun y62 => ob_call (φ := MP.strs (frR x38.body (boundR l x38.vars) gb)) rfl (.cons rfl <| .cons rfl <| .cons rfl <| .nil) Tryd.call38 (fun w m hK => by have hle_ := KC.le hK; have hA := KC.agree hK; have hr0_ := hK.2; have hsl_gb := hsl_gb.mono hle_; have hbd38 := hbd38.mono hle_; exact FnG.mono (iha _ hm_x38 hA hbd38 hr0_ hsl_gb (by omega) (by omega)) fun _ _ _ _ h => h)) <| .consA 64 rfl rfl <| .nil) ?_
        intro a9 w9 m9 hst9 hle9 hk9
        have hfr9 := hk9.fr (T' := [(8, _), (7, _), (1, _), (3, _)]) (.old rfl rfl <| .old rfl rfl <| .old rfl rfl <| .old rfl rfl <| .nil)
        obtain ⟨⟨oN, cN⟩, e39, hN⟩ := hk9.ex 64 rfl
        replace hfr9 := hfr9.cons (hk9.same 2 rfl e39)
        have hlh9 := hlh8.trans hle9
        clear hst8 hfr8 hk9
        dsimp only [MP.strs, MP.mem] at hN
        refine hK37 _ _ ?_; clear hK37
        refine rp0 hst9 hfr9 (.cons rfl (ob_move rfl) <| .cons rfl (ob_add rfl rfl ⟨by omega, by omega⟩) <| .cons rfl (ob_assign rfl) <| .nil) ?_
        intro a10 w10 m10 hst10 hle10 hk10
        have hfr10 := hk10.fr (T' := [(7, _), (1, _), (3, _), (2, _), (8, _)]) (.old rfl rfl <| .old rfl rfl <| .old rfl rfl <| .old rfl rfl <| .new rfl <| .nil)
        replace hN := hN.mono hle10
        have hlh10 := hlh9.trans hle10
        clear hst9 hfr9 hk10
        exact ⟨(y + 1, oN, cN, (frR x38.body (boundR l x38.vars) gb)), m10, by show t.arms.length - (y + 1) < t.arms.length - y; omega, ⟨hst10, hlh10, hfr10.sub (.cons rfl <| .cons rfl <| .cons rfl <| .cons rfl <| .cons rfl <| .nil), ⟨by show y + 1 ≤ t.arms.length; omega, hN, ⟨hlen_gb.1, by have h1 := hlen_gb.2; have h2 := frR_len x38.body (boundR l x38.vars) gb; have h3 := occR_len x38.body (boundR l x38.vars); show (frR x38.body (boundR l x38.vars) gb).length + cntAs (t.arms.drop (y + 1)) ≤ _; omega⟩⟩⟩⟩
      · try simp only [nq1, nq2, nq3, nq4, nq5, nq6, nq7, nq8, nq9, u8_eq] at hb46
        have hge : y = t.arms.length := by omega
        rw [List.drop_of_length_le (by omega), frAs, cntAs] at hlen_gb
        have hfin : frR t l q = gb := hlen_gb.1
        refine wp_exit ?_
        refine hK32 _ _ ?_; clear hK32
        refine seq_any fun _ hK40 => ?_
        refine rp0 hst8 hfr8 (.cons rfl (ob_move rfl) <| .cons rfl (ob_assign rfl) <| .nil) ?_
        intro a9 w9 m9 hst9 hle9 hk9
        have hfr9 := hk9.fr (T' := [(2, _), (8, _), (7, _), (6, _)]) (.old rfl rfl <| .old rfl rfl <| .old rfl rfl <| .new rfl <| .nil)
        replace hsl_gb := hsl_gb.mono hle9
        have hlh9 := hlh8.trans hle9
        clear hst8 hfr8 hk9
        refine hK40 _ _ ?_; clear hK40
        refine wp_ret ?_
        repeat (with_reducible first | refine then_ret ?_ | refine block_ret ?_)
        exact fn_ret hst9 hfr9 rfl (.tmp rfl <| .nil) (⟨(_, _), by rw [hfin]; rfl, by rw [hfin]; exact hsl_gb⟩)
theorem rfree_c (t : Cd) : rfree_G t := Cd.rec_ (p := rfree_G) (fun t ihk iha => rfree_s ihk iha) t

set_option maxHeartbeats 400000 in
theorem rfreeF_c {w : World} {m : Mem} {t : Cd} {vs_t : List Value} (hA : Agree w m) (h_t : CdR m t vs_t) (hb : cntC t ≤ 100000000) : FnV Tryd.prog 22 #[.agg vs_t.toArray] w m (fun _ m v => (MP.strs (frR t [] [])).p m v) := by
  obtain ⟨⟨oK_t, cK_t, oA_t, cA_t⟩, rfl, ⟨hik_t, hin_t⟩, hkk_t, haa_t⟩ := h_t.open_
  dsimp only at hkk_t haa_t
  have hbg_t := hkk_t.big; have hcp_t := hkk_t.cap; have hbh_t := haa_t.big; have hcq_t := haa_t.cap
  refine fn_enter (vs := [_]) Tryd.func22 rfl rfl rfl fun a0 hfr0 => ?_
  have hst0 := st_enter hA (loc_nil [] _ w m)
  have hM : MLe m m := MLe.refl m
  refine seq_any fun _ hK1 => ?_
  refine rp0 hst0 hfr0 (.cons rfl (ob_box rfl rfl) <| .cons rfl (ob_assign rfl) <| .nil) ?_
  intro a1 w1 m1 hst1 hle1 hk1
  have hfr1 := hk1.fr (T' := []) (.nil)
  obtain ⟨g2, e2, hc1⟩ := hk1.ex 1 rfl
  replace hfr1 := hfr1.cons e2
  replace h_t := h_t.mono hle1
  clear hst0 hfr0 hk1
  refine hK1 _ _ ?_; clear hK1
  refine seq_any fun _ hK3 => ?_
  refine ra0 (tch := []) hst1 hfr1 (.cons rfl (ob_loadS' rfl hc1 Tryd.isAgg25 Tryd.sizeOf25 rfl rfl) <| .cons rfl (ob_call (φ := MP.strs (frR t [] [])) rfl (.cons rfl <| .cons rfl <| .cons rfl <| .nil) Tryd.call38 (fun w m hK => by have hle_ := KC.le hK; have hA := KC.agree hK; have h_t := h_t.mono hle_; exact FnG.mono (rfree_c t (l := []) (q := []) hA h_t Sl.empty Sl.empty (by simp only [List.length_nil]; omega) (by simp only [List.length_nil]; omega)) fun _ _ _ _ h => h)) <| .consA 4 rfl rfl <| .nil) ?_
  intro a2 w2 m2 hst2 hle2 hk2
  have hfr2 := hk2.fr (T' := []) (.nil)
  obtain ⟨⟨oN, cN⟩, e4, hN⟩ := hk2.ex 4 rfl
  replace hfr2 := hfr2.cons (hk2.same 2 rfl e4)
  clear hst1 hfr1 hk2
  refine hK3 _ _ ?_; clear hK3
  refine wp_ret ?_
  repeat (with_reducible first | refine then_ret ?_ | refine block_ret ?_)
  exact fn_ret hst2 hfr2 rfl (.tmp rfl <| .nil) (⟨(oN, cN), rfl, hN⟩)

abbrev rsize_G (t : Cd) : Prop := ∀ {w : World} {m : Mem} {vs_t : List Value} (hA : Agree w m) (h_t : CdR m t vs_t) (hb : sizeC t ≤ 1000000000), FnV Tryd.prog 20 #[.agg vs_t.toArray] w m (fun _ _ v => v = .int .i64 (sizeC t : Int))
set_option maxHeartbeats 400000 in
theorem rsize_s {t : Cd} (ihk : ∀ u ∈ t.kids, rsize_G u) (iha : ∀ a ∈ t.arms, rsize_G a.body) {w : World} {m : Mem} {vs_t : List Value} (hA : Agree w m) (h_t : CdR m t vs_t) (hb : sizeC t ≤ 1000000000) : FnV Tryd.prog 20 #[.agg vs_t.toArray] w m (fun _ _ v => v = .int .i64 (sizeC t : Int)) := by
  obtain ⟨⟨oK_t, cK_t, oA_t, cA_t⟩, rfl, ⟨hik_t, hin_t⟩, hkk_t, haa_t⟩ := h_t.open_
  dsimp only at hkk_t haa_t
  have hbg_t := hkk_t.big; have hcp_t := hkk_t.cap; have hbh_t := haa_t.big; have hcq_t := haa_t.cap
  refine fn_enter (vs := [_]) Tryd.func20 rfl rfl rfl fun a0 hfr0 => ?_
  have hst0 := st_enter hA (loc_nil [] _ w m)
  have hM : MLe m m := MLe.refl m
  have hce := sizeC_eq t
  refine seq_any fun _ hK1 => ?_
  refine rp0 hst0 hfr0 (.cons rfl (ob_box rfl rfl) <| .cons rfl (ob_assign rfl) <| .nil) ?_
  intro a1 w1 m1 hst1 hle1 hk1
  have hfr1 := hk1.fr (T' := []) (.nil)
  obtain ⟨g2, e2, hc1⟩ := hk1.ex 1 rfl
  replace hfr1 := hfr1.cons e2
  replace h_t := h_t.mono hle1
  replace hkk_t := hkk_t.mono hle1
  replace haa_t := haa_t.mono hle1
  clear hst0 hfr0 hk1
  refine hK1 _ _ ?_; clear hK1
  refine seq_any fun _ hK3 => ?_
  refine rp0 hst1 hfr1 (.cons rfl (ob_assign rfl) <| .nil) ?_
  intro a2 w2 m2 hst2 hle2 hk2
  have hfr2 := hk2.fr (T' := [(1, _), (3, _)]) (.old rfl rfl <| .new rfl <| .nil)
  replace h_t := h_t.mono hle2
  replace hkk_t := hkk_t.mono hle2
  replace haa_t := haa_t.mono hle2
  replace hc1 := hc1.mono hle2
  clear hst1 hfr1 hk2
  refine hK3 _ _ ?_; clear hK3
  refine seq_any fun _ hK4 => ?_
  refine seq_any fun _ hK5 => ?_
  refine rp0 hst2 hfr2 (.cons rfl (ob_assign rfl) <| .nil) ?_
  intro a3 w3 m3 hst3 hle3 hk3
  have hfr3 := hk3.fr (T' := [(1, _), (3, _), (4, _)]) (.old rfl rfl <| .old rfl rfl <| .new rfl <| .nil)
  replace h_t := h_t.mono hle3
  replace hkk_t := hkk_t.mono hle3
  replace haa_t := haa_t.mono hle3
  replace hc1 := hc1.mono hle3
  clear hst2 hfr2 hk3
  refine hK5 _ _ ?_; clear hK5
  refine wp_block ?_
  refine loop_any (T := [(1, _)]) (fun (y : Nat × Int) => ([(3, .int .i64 y.2), (4, .int .i64 (y.1 : Int))] : List (Nat × Value))) (fun _ => _) (fun (y : Nat × Int) m => (fun (y : Nat) (a : Int) => (y ≤ t.kids.length) ∧ (a + sizeKs (t.kids.drop y) = ((1 + sizeKs t.kids : Nat) : Int)) ∧ (0 ≤ a)) y.1 y.2) (fun y => t.kids.length - y.1) ((0, 1)) ⟨hst3, MLe.refl _, hfr3.sub (.cons rfl <| .cons rfl <| .cons rfl <| .nil), ⟨Nat.zero_le _, by rw [List.drop_zero]; omega, by omega⟩⟩ fun y a4 w4 m4 hh4 => ?_
  have hst4 := hh4.st; have hle4 := hh4.le; have hfr4 := hh4.fr; have hrel := hh4.rel; clear hh4
  replace h_t := h_t.mono hle4
  replace hkk_t := hkk_t.mono hle4
  replace haa_t := haa_t.mono hle4
  replace hc1 := hc1.mono hle4
  clear hst3 hfr3
  obtain ⟨y, a⟩ := y
  dsimp only at hrel hfr4 hst4
  obtain ⟨hyn, ha, ha0⟩ := hrel
  have hlh4 := hle4
  refine seq_any fun _ hK7 => ?_
  refine seq_any fun _ hK8 => ?_
  refine rp0 hst4 hfr4 (.cons rfl (ob_move rfl) <| .cons rfl (ob_fieldAddrO (off := 4) rfl Tryd.underlying25 rfl rfl Tryd.sizeOf22 rfl) <| .cons rfl (ob_load1 rfl hc1 Tryd.isAgg22 rfl) <| .cons rfl (ob_len rfl Tryd.underlying22) <| .cons rfl (ob_lss rfl rfl) <| .nil) ?_
  intro a5 w5 m5 hst5 hle5 hk5
  have hfr5 := hk5.fr (T' := [(3, _), (4, _), (1, _), (10, _)]) (.old rfl rfl <| .old rfl rfl <| .old rfl rfl <| .new rfl <| .nil)
  replace h_t := h_t.mono hle5
  replace hkk_t := hkk_t.mono hle5
  replace haa_t := haa_t.mono hle5
  replace hc1 := hc1.mono hle5
  have hlh5 := hlh4.trans hle5
  clear hst4 hfr4 hk5
  refine hK8 _ _ ?_; clear hK8
  refine cond_any hfr5 rfl rfl (fun hb10 => ?_) (fun hb10 => ?_)
  · try simp only [nq1, nq2, nq3, nq4, nq5, nq6, nq7, nq8, nq9, u8_eq] at hb10
    refine wp_skip ?_
    refine hK7 _ _ ?_; clear hK7
    refine seq_any fun _ hK9 => ?_
    refine wp_block ?_
    obtain ⟨p10, vs10, x10, ho10, hd10, hm_x10, ht10, hcv10, hl10, hv10⟩ := hkk_t.nth (k := y) (by omega)
    cases ho10
    obtain ⟨⟨oK10, cK10, oA10, cA10⟩, rfl, ⟨hik10, hin10⟩, hkk10, haa10⟩ := hv10.open_
    dsimp only at hkk10 haa10
    have hbg10 := hkk10.big; have hcp10 := hkk10.cap; have hbh10 := haa10.big; have hcq10 := haa10.cap
    rw [hd10, sizeKs] at ha
    refine rp0 hst5 hfr5 (.cons rfl (ob_move rfl) <| .cons rfl (ob_fieldAddrO (off := 4) rfl Tryd.underlying25 rfl rfl Tryd.sizeOf22 rfl) <| .cons rfl (ob_load1 rfl hc1 Tryd.isAgg22 rfl) <| .cons rfl (ob_move rfl) <| .cons rfl (ob_indexAddr (k := y) rfl rfl Tryd.underlying22 Tryd.sizeOf25 rfl (by omega)) <| .cons rfl (ob_loadS' rfl hcv10 Tryd.isAgg25 Tryd.sizeOf25 rfl rfl) <| .cons rfl (ob_callE rfl (.cons rfl <| .nil) Tryd.call20 (fun w m hK => by have hle_ := KC.le hK; have hA := KC.agree hK; have h_t := h_t.mono hle_; have hkk_t := hkk_t.mono hle_; have haa_t := haa_t.mono hle_; have hc1 := hc1.mono hle_; have hcv10 := hcv10.mono hle_; have hv10 := hv10.mono hle_; have hkk10 := hkk10.mono hle_; have haa10 := haa10.mono hle_; exact ihk _ (by assumption) hA hv10 (by omega))) <| .cons rfl (ob_add rfl rfl ⟨by omega, by omega⟩) <| .cons rfl (ob_assign rfl) <| .nil) ?_
    intro a6 w6 m6 hst6 hle6 hk6
    have hfr6 := hk6.fr (T' := [(4, _), (1, _), (3, _)]) (.old rfl rfl <| .old rfl rfl <| .new rfl <| .nil)
    have hlh6 := hlh5.trans hle6
    clear hst5 hfr5 hk6
    refine hK9 _ _ ?_; clear hK9
    refine rp0 hst6 hfr6 (.cons rfl (ob_move rfl) <| .cons rfl (ob_add rfl rfl ⟨by omega, by omega⟩) <| .cons rfl (ob_assign rfl) <| .nil) ?_
    intro a7 w7 m7 hst7 hle7 hk7
    have hfr7 := hk7.fr (T' := [(1, _), (3, _), (4, _)]) (.old rfl rfl <| .old rfl rfl <| .new rfl <| .nil)
    have hlh7 := hlh6.trans hle7
    clear hst6 hfr6 hk7
    exact ⟨(y + 1, (a + (sizeC x10 : Int))), m7, by show t.kids.length - (y + 1) < t.kids.length - y; omega, ⟨hst7, hlh7, hfr7.sub (.cons rfl <| .cons rfl <| .cons rfl <| .nil), ⟨by show y + 1 ≤ t.kids.length; omega, by show a + (sizeC x10 : Int) + ((sizeKs (t.kids.drop (y + 1)) : Nat) : Int) = ((1 + sizeKs t.kids : Nat) : Int); omega, by show 0 ≤ a + (sizeC x10 : Int); omega⟩⟩⟩
  · try simp only [nq1, nq2, nq3, nq4, nq5, nq6, nq7, nq8, nq9, u8_eq] at hb10
    have hge : y = t.kids.length := by omega
    rw [List.drop_of_length_le (by omega), sizeKs] at ha
    refine wp_exit ?_
    refine hK4 _ _ ?_; clear hK4
    refine seq_any fun _ hK11 => ?_
    refine seq_any fun _ hK12 => ?_
    refine rp0 hst5 hfr5 (.cons rfl (ob_assign rfl) <| .nil) ?_
    intro a6 w6 m6 hst6 hle6 hk6
    have hfr6 := hk6.fr (T' := [(3, _), (4, _), (1, _), (5, _)]) (.old rfl rfl <| .old rfl rfl <| .old rfl rfl <| .new rfl <| .nil)
    replace h_t := h_t.mono hle6
    replace hkk_t := hkk_t.mono hle6
    replace haa_t := haa_t.mono hle6
    replace hc1 := hc1.mono hle6
    have hlh6 := hlh5.trans hle6
    clear hst5 hfr5 hk6
    refine hK12 _ _ ?_; clear hK12
    refine wp_block ?_
    have hlq13 := hlh6
    refine loop_any (T := [(4, _), (1, _)]) (fun (y : Nat × Int) => ([(3, .int .i64 y.2), (5, .int .i64 (y.1 : Int))] : List (Nat × Value))) (fun _ => _) (fun (y : Nat × Int) m => (fun (y : Nat) (b : Int) => (y ≤ t.arms.length) ∧ (b + sizeAs (t.arms.drop y) = (sizeC t : Int)) ∧ (0 ≤ b)) y.1 y.2) (fun y => t.arms.length - y.1) ((0, a)) ⟨hst6, MLe.refl _, hfr6.sub (.cons rfl <| .cons rfl <| .cons rfl <| .cons rfl <| .nil), ⟨Nat.zero_le _, by rw [List.drop_zero]; omega, by omega⟩⟩ fun y a7 w7 m7 hh7 => ?_
    have hst7 := hh7.st; have hle7 := hh7.le; have hfr7 := hh7.fr; have hrel := hh7.rel; clear hh7
    replace h_t := h_t.mono hle7
    replace hkk_t := hkk_t.mono hle7
    replace haa_t := haa_t.mono hle7
    replace hc1 := hc1.mono hle7
    clear hst6 hfr6
    obtain ⟨y, b⟩ := y
    dsimp only at hrel hfr7 hst7
    obtain ⟨hyn, hb_, hb0⟩ := hrel
    have hlh7 := hle7
    refine seq_any fun _ hK14 => ?_
    refine seq_any fun _ hK15 => ?_
    refine rp0 hst7 hfr7 (.cons rfl (ob_move rfl) <| .cons rfl (ob_fieldAddrO (off := 5) rfl Tryd.underlying25 rfl rfl Tryd.sizeOf23 rfl) <| .cons rfl (ob_load1 rfl hc1 Tryd.isAgg23 rfl) <| .cons rfl (ob_len rfl Tryd.underlying23) <| .cons rfl (ob_lss rfl rfl) <| .nil) ?_
    intro a8 w8 m8 hst8 hle8 hk8
    have hfr8 := hk8.fr (T' := [(3, _), (5, _), (4, _), (1, _), (25, _)]) (.old rfl rfl <| .old rfl rfl <| .old rfl rfl <| .old rfl rfl <| .new rfl <| .nil)
    replace h_t := h_t.mono hle8
    replace hkk_t := hkk_t.mono hle8
    replace haa_t := haa_t.mono hle8
    replace hc1 := hc1.mono hle8
    have hlh8 := hlh7.trans hle8
    clear hst7 hfr7 hk8
    refine hK15 _ _ ?_; clear hK15
    refine cond_any hfr8 rfl rfl (fun hb25 => ?_) (fun hb25 => ?_)
    · try simp only [nq1, nq2, nq3, nq4, nq5, nq6, nq7, nq8, nq9, u8_eq] at hb25
      refine wp_skip ?_
      refine hK14 _ _ ?_; clear hK14
      refine seq_any fun _ hK16 => ?_
      refine wp_block ?_
      obtain ⟨p17, vs17, x17, ho17, hd17, hm_x17, ht17, hcv17, hl17, hv17⟩ := haa_t.nth (k := y) (by omega)
      cases ho17
      obtain ⟨oV17, cV17, bs17, rfl, hva17, hbd17⟩ := hv17.open_
      have hbv17 := hva17.big; have hcv17_ := hva17.cap
      obtain ⟨⟨oK17b, cK17b, oA17b, cA17b⟩, rfl, ⟨hik17b, hin17b⟩, hkk17b, haa17b⟩ := hbd17.open_
      dsimp only at hkk17b haa17b
      have hbg17b := hkk17b.big; have hcp17b := hkk17b.cap; have hbh17b := haa17b.big; have hcq17b := haa17b.cap
      rw [hd17, sizeAs_cons] at hb_
      refine rp0 hst8 hfr8 (.cons rfl (ob_move rfl) <| .cons rfl (ob_fieldAddrO (off := 5) rfl Tryd.underlying25 rfl rfl Tryd.sizeOf23 rfl) <| .cons rfl (ob_load1 rfl hc1 Tryd.isAgg23 rfl) <| .cons rfl (ob_move rfl) <| .cons rfl (ob_indexAddr (k := y) rfl rfl Tryd.underlying23 Tryd.sizeOf35 rfl (by omega)) <| .cons rfl (ob_fieldAddrO (off := 3) rfl Tryd.underlying35 rfl rfl Tryd.sizeOf25 rfl) <| .cons rfl (ob_loadS rfl hcv17 Tryd.isAgg25 Tryd.sizeOf25 rfl rfl) <| .cons rfl (ob_callE rfl (.cons rfl <| .nil) Tryd.call20 (fun w m hK => by have hle_ := KC.le hK; have hA := KC.agree hK; have h_t := h_t.mono hle_; have hkk_t := hkk_t.mono hle_; have haa_t := haa_t.mono hle_; have hc1 := hc1.mono hle_; have hcv17 := hcv17.mono hle_; have hv17 := hv17.mono hle_; have hva17 := hva17.mono hle_; have hbd17 := hbd17.mono hle_; have hkk17b := hkk17b.mono hle_; have haa17b := haa17b.mono hle_; exact iha _ (by assumption) hA hbd17 (by omega))) <| .cons rfl (ob_add rfl rfl ⟨by omega, by omega⟩) <| .cons rfl (ob_assign rfl) <| .nil) ?_
      intro a9 w9 m9 hst9 hle9 hk9
      have hfr9 := hk9.fr (T' := [(5, _), (4, _), (1, _), (3, _)]) (.old rfl rfl <| .old rfl rfl <| .old rfl rfl <| .new rfl <| .nil)
      have hlh9 := hlh8.trans hle9
      clear hst8 hfr8 hk9
      refine hK16 _ _ ?_; clear hK16
      refine rp0 hst9 hfr9 (.cons rfl (ob_move rfl) <| .cons rfl (ob_add rfl rfl ⟨by omega, by omega⟩) <| .cons rfl (ob_assign rfl) <| .nil) ?_
      intro a10 w10 m10 hst10 hle10 hk10
      have hfr10 := hk10.fr (T' := [(4, _), (1, _), (3, _), (5, _)]) (.old rfl rfl <| .old rfl rfl <| .old rfl rfl <| .new rfl <| .nil)
      have hlh10 := hlh9.trans hle10
      clear hst9 hfr9 hk10
      exact ⟨(y + 1, (b + (sizeC x17.body : Int))), m10, by show t.arms.length - (y + 1) < t.arms.length - y; omega, ⟨hst10, hlh10, hfr10.sub (.cons rfl <| .cons rfl <| .cons rfl <| .cons rfl <| .nil), ⟨by show y + 1 ≤ t.arms.length; omega, by show b + (sizeC x17.body : Int) + ((sizeAs (t.arms.drop (y + 1)) : Nat) : Int) = _; omega, by show 0 ≤ b + (sizeC x17.body : Int); omega⟩⟩⟩
    · try simp only [nq1, nq2, nq3, nq4, nq5, nq6, nq7, nq8, nq9, u8_eq] at hb25
      have hge : y = t.arms.length := by omega
      rw [List.drop_of_length_le (by omega), sizeAs] at hb_
      refine wp_exit ?_
      refine hK11 _ _ ?_; clear hK11
      refine seq_any fun _ hK18 => ?_
      refine rp0 hst8 hfr8 (.cons rfl (ob_move rfl) <| .cons rfl (ob_assign rfl) <| .nil) ?_
      intro a9 w9 m9 hst9 hle9 hk9
      have hfr9 := hk9.fr (T' := [(3, _), (5, _), (4, _), (2, _)]) (.old rfl rfl <| .old rfl rfl <| .old rfl rfl <| .new rfl <| .nil)
      have hlh9 := hlh8.trans hle9
      clear hst8 hfr8 hk9
      refine hK18 _ _ ?_; clear hK18
      refine wp_ret ?_
      repeat (with_reducible first | refine then_ret ?_ | refine block_ret ?_)
      exact fn_ret hst9 hfr9 rfl (.tmp rfl <| .nil) (by refine congrArg (Value.int _) ?_; omega)
theorem rsize_c (t : Cd) : rsize_G t := Cd.rec_ (p := rsize_G) (fun t ihk iha => rsize_s ihk iha) t

end Go.Proofs.YtlihpgjabohebaaDoor
