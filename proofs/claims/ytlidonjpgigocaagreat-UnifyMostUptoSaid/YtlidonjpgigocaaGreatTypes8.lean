/-
  Package types: variables, what is the same, labels taken away. Conditions: those of each theorem.
-/
import Derived.Test.YtlidonjpgigocaaGreatSubst2
namespace Go.Proofs.YtlidonjpgigocaaGreat
set_option linter.all false
set_option maxRecDepth 4000
open Go.RowKit
theorem foldl_withI_len : ∀ (ks a : List Int), (ks.foldl withI a).length ≤ a.length + ks.length
  | [], a => by simp
  | k :: ks, a => by have := foldl_withI_len ks (withI a k); have := withI_len a k; simp only [List.foldl_cons, List.length_cons]; omega
theorem Ints.of_rowI {m : Mem} {o : Option Addr} {c : Nat} {a : List Int} (h : RowAt m o (a.map intV)) (hc : a.length ≤ c) (hm : c ≤ maxLen) : Ints m o a.length c a := Ints.of_row h rfl hc (by simp only [maxLen] at hm; omega)
set_option maxHeartbeats 400000 in
theorem indexS_c {w : World} {m : Mem} {o_l : Option Addr} {c_l : Nat} {l : List Str} {s : Str} (hA : Agree w m) (h_l : Strs m o_l l.length c_l l) : FnV Tryz.prog 92 #[.slice o_l l.length c_l, S s] w m (fun _ _ v => v = .int .i64 (idxA 0 l s)) := by
  have hb_l := h_l.big; have hc_l := h_l.cap
  refine fn_enter (vs := [_, _]) Tryz.func92 rfl rfl rfl fun a0 hfr0 => ?_
  have hst0 := st_enter hA (loc_nil [] _ w m)
  have hM : MLe m m := MLe.refl m
  refine seq_any fun _ hK1 => ?_
  refine rp0 hst0 hfr0 (.cons rfl (ob_assign rfl) <| .nil) ?_
  intro a1 w1 m1 hst1 hle1 hk1
  have hfr1 := hk1.fr (T' := [(0, _), (1, _)]) (.old rfl rfl <| .old rfl rfl <| .nil)
  replace h_l := h_l.mono hle1
  clear hst0 hfr0 hk1
  refine hK1 _ _ ?_; clear hK1
  refine seq_any fun _ hK2 => ?_
  refine seq_any fun _ hK3 => ?_
  refine rp0 hst1 hfr1 (.cons rfl (ob_move rfl) <| .cons rfl (ob_len rfl Tryz.underlying41) <| .cons rfl (ob_move rfl) <| .nil) ?_
  intro a2 w2 m2 hst2 hle2 hk2
  have hfr2 := hk2.fr (T' := [(0, _), (1, _), (7, _), (8, _)]) (.old rfl rfl <| .old rfl rfl <| .new rfl <| .new rfl <| .nil)
  replace h_l := h_l.mono hle2
  clear hst1 hfr1 hk2
  refine hK3 _ _ ?_; clear hK3
  refine wp_block ?_
  refine loop_any (T := [(0, _), (1, _), (7, _)]) (fun (y : Nat) => ([(8, .int .i64 (y : Int))] : List (Nat × Value))) (fun _ => _) (fun (y : Nat) m => (y ≤ l.length) ∧ (idxA 0 l s = idxA y (l.drop y) s)) (fun y => l.length - y) (0) ⟨hst2, MLe.refl _, hfr2.sub (.cons rfl <| .cons rfl <| .cons rfl <| .cons rfl <| .nil), ⟨Nat.zero_le _, rfl⟩⟩ fun y a3 w3 m3 hh3 => ?_
  have hst3 := hh3.st; have hle3 := hh3.le; have hfr3 := hh3.fr; have hrel := hh3.rel; clear hh3
  replace h_l := h_l.mono hle3
  clear hst2 hfr2
  obtain ⟨hyn, hrem⟩ := hrel
  have hlh3 := hle3
  refine seq_any fun _ hK5 => ?_
  refine rp0 hst3 hfr3 (.cons rfl (ob_lss rfl rfl) <| .nil) ?_
  intro a4 w4 m4 hst4 hle4 hk4
  have hfr4 := hk4.fr (T' := [(8, _), (0, _), (1, _), (7, _), (9, _)]) (.old rfl rfl <| .old rfl rfl <| .old rfl rfl <| .old rfl rfl <| .new rfl <| .nil)
  replace h_l := h_l.mono hle4
  have hlh4 := hlh3.trans hle4
  clear hst3 hfr3 hk4
  refine hK5 _ _ ?_; clear hK5
  refine seq_any fun _ hK6 => ?_
  refine cond_any hfr4 rfl rfl (fun hb9 => ?_) (fun hb9 => ?_)
  · try simp only [nq1, nq2, nq3, nq4, nq5, nq6, nq7, nq8, nq9, u8_eq] at hb9
    refine wp_skip ?_
    refine hK6 _ _ ?_; clear hK6
    refine seq_any fun _ hK7 => ?_
    refine wp_block ?_
    refine seq_any fun _ hK8 => ?_
    refine rp0 hst4 hfr4 (.cons rfl (ob_move rfl) <| .cons rfl (ob_assign rfl) <| .nil) ?_
    intro a5 w5 m5 hst5 hle5 hk5
    have hfr5 := hk5.fr (T' := [(8, _), (0, _), (1, _), (7, _), (5, _)]) (.old rfl rfl <| .old rfl rfl <| .old rfl rfl <| .old rfl rfl <| .new rfl <| .nil)
    replace h_l := h_l.mono hle5
    have hlh5 := hlh4.trans hle5
    clear hst4 hfr4 hk5
    refine hK8 _ _ ?_; clear hK8
    refine seq_any fun _ hK9 => ?_
    obtain ⟨p10, vs10, x10, ho10, hd10, hm_x10, ht10, hcv10, hl10, hv10⟩ := h_l.nth (k := y) (by omega)
    cases ho10
    subst hv10
    try rw [hd10] at hrem
    try simp only [idxA] at hrem
    refine rp0 hst5 hfr5 (.cons rfl (ob_move rfl) <| .cons rfl (ob_move rfl) <| .cons rfl (ob_move rfl) <| .cons rfl (ob_indexAddr (k := y) rfl rfl Tryz.underlying41 Tryz.sizeOf9 rfl (by omega)) <| .cons rfl (ob_load1' rfl hcv10 Tryz.isAgg9 rfl) <| .cons rfl (ob_seql rfl rfl) <| .nil) ?_
    intro a6 w6 m6 hst6 hle6 hk6
    have hfr6 := hk6.fr (T' := [(8, _), (0, _), (1, _), (7, _), (5, _), (16, _)]) (.old rfl rfl <| .old rfl rfl <| .old rfl rfl <| .old rfl rfl <| .old rfl rfl <| .new rfl <| .nil)
    have hlh6 := hlh5.trans hle6
    clear hst5 hfr5 hk6
    refine hK9 _ _ ?_; clear hK9
    refine cond_any hfr6 rfl rfl (fun hb16 => ?_) (fun hb16 => ?_)
    · try simp only [nq1, nq2, nq3, nq4, nq5, nq6, nq7, nq8, nq9, u8_eq] at hb16
      refine seq_any fun _ hK11 => ?_
      refine rp0 hst6 hfr6 (.cons rfl (ob_move rfl) <| .cons rfl (ob_assign rfl) <| .nil) ?_
      intro a7 w7 m7 hst7 hle7 hk7
      have hfr7 := hk7.fr (T' := [(8, _), (4, _)]) (.old rfl rfl <| .new rfl <| .nil)
      have hlh7 := hlh6.trans hle7
      clear hst6 hfr6 hk7
      refine hK11 _ _ ?_; clear hK11
      refine wp_ret ?_
      repeat (with_reducible first | refine then_ret ?_ | refine block_ret ?_)
      exact fn_ret hst7 hfr7 rfl (.tmp rfl <| .nil) (by refine congrArg (Value.int _) ?_; simp_all)
    · try simp only [nq1, nq2, nq3, nq4, nq5, nq6, nq7, nq8, nq9, u8_eq] at hb16
      refine wp_skip ?_
      refine hK7 _ _ ?_; clear hK7
      refine rp0 hst6 hfr6 (.cons rfl (ob_add rfl rfl ⟨by omega, by omega⟩) <| .cons rfl (ob_move rfl) <| .nil) ?_
      intro a7 w7 m7 hst7 hle7 hk7
      have hfr7 := hk7.fr (T' := [(0, _), (1, _), (7, _), (8, _)]) (.old rfl rfl <| .old rfl rfl <| .old rfl rfl <| .new rfl <| .nil)
      have hlh7 := hlh6.trans hle7
      clear hst6 hfr6 hk7
      exact ⟨y + 1, m7, by show l.length - (y + 1) < l.length - y; omega, ⟨hst7, hlh7, hfr7.sub (.cons rfl <| .cons rfl <| .cons rfl <| .cons rfl <| .nil), ⟨by show y + 1 ≤ l.length; omega, by simp_all⟩⟩⟩
  · try simp only [nq1, nq2, nq3, nq4, nq5, nq6, nq7, nq8, nq9, u8_eq] at hb9
    have hge : y = l.length := by omega
    rw [List.drop_of_length_le (by omega)] at hrem
    simp only [idxA] at hrem
    refine wp_exit ?_
    refine hK2 _ _ ?_; clear hK2
    refine seq_any fun _ hK13 => ?_
    refine rp0 hst4 hfr4 (.cons rfl (ob_assign rfl) <| .nil) ?_
    intro a5 w5 m5 hst5 hle5 hk5
    have hfr5 := hk5.fr (T' := [(8, _), (4, _)]) (.old rfl rfl <| .new rfl <| .nil)
    have hlh5 := hlh4.trans hle5
    clear hst4 hfr4 hk5
    refine hK13 _ _ ?_; clear hK13
    refine wp_ret ?_
    repeat (with_reducible first | refine then_ret ?_ | refine block_ret ?_)
    exact fn_ret hst5 hfr5 rfl (.tmp rfl <| .nil) (by refine congrArg (Value.int _) ?_; simp_all)

set_option maxHeartbeats 400000 in
theorem indexI_c {w : World} {m : Mem} {o_l : Option Addr} {c_l : Nat} {l : List Int} {s : Int} (hA : Agree w m) (h_l : Ints m o_l l.length c_l l) : FnV Tryz.prog 96 #[.slice o_l l.length c_l, .int .i64 s] w m (fun _ _ v => v = .int .i64 (idxA 0 l s)) := by
  have hb_l := h_l.big; have hc_l := h_l.cap
  refine fn_enter (vs := [_, _]) Tryz.func96 rfl rfl rfl fun a0 hfr0 => ?_
  have hst0 := st_enter hA (loc_nil [] _ w m)
  have hM : MLe m m := MLe.refl m
  refine seq_any fun _ hK1 => ?_
  refine rp0 hst0 hfr0 (.cons rfl (ob_assign rfl) <| .nil) ?_
  intro a1 w1 m1 hst1 hle1 hk1
  have hfr1 := hk1.fr (T' := [(0, _), (1, _)]) (.old rfl rfl <| .old rfl rfl <| .nil)
  replace h_l := h_l.mono hle1
  clear hst0 hfr0 hk1
  refine hK1 _ _ ?_; clear hK1
  refine seq_any fun _ hK2 => ?_
  refine seq_any fun _ hK3 => ?_
  refine rp0 hst1 hfr1 (.cons rfl (ob_move rfl) <| .cons rfl (ob_len rfl Tryz.underlying32) <| .cons rfl (ob_move rfl) <| .nil) ?_
  intro a2 w2 m2 hst2 hle2 hk2
  have hfr2 := hk2.fr (T' := [(0, _), (1, _), (7, _), (8, _)]) (.old rfl rfl <| .old rfl rfl <| .new rfl <| .new rfl <| .nil)
  replace h_l := h_l.mono hle2
  clear hst1 hfr1 hk2
  refine hK3 _ _ ?_; clear hK3
  refine wp_block ?_
  refine loop_any (T := [(0, _), (1, _), (7, _)]) (fun (y : Nat) => ([(8, .int .i64 (y : Int))] : List (Nat × Value))) (fun _ => _) (fun (y : Nat) m => (y ≤ l.length) ∧ (idxA 0 l s = idxA y (l.drop y) s)) (fun y => l.length - y) (0) ⟨hst2, MLe.refl _, hfr2.sub (.cons rfl <| .cons rfl <| .cons rfl <| .cons rfl <| .nil), ⟨Nat.zero_le _, rfl⟩⟩ fun y a3 w3 m3 hh3 => ?_
  have hst3 := hh3.st; have hle3 := hh3.le; have hfr3 := hh3.fr; have hrel := hh3.rel; clear hh3
  replace h_l := h_l.mono hle3
  clear hst2 hfr2
  obtain ⟨hyn, hrem⟩ := hrel
  have hlh3 := hle3
  refine seq_any fun _ hK5 => ?_
  refine rp0 hst3 hfr3 (.cons rfl (ob_lss rfl rfl) <| .nil) ?_
  intro a4 w4 m4 hst4 hle4 hk4
  have hfr4 := hk4.fr (T' := [(8, _), (0, _), (1, _), (7, _), (9, _)]) (.old rfl rfl <| .old rfl rfl <| .old rfl rfl <| .old rfl rfl <| .new rfl <| .nil)
  replace h_l := h_l.mono hle4
  have hlh4 := hlh3.trans hle4
  clear hst3 hfr3 hk4
  refine hK5 _ _ ?_; clear hK5
  refine seq_any fun _ hK6 => ?_
  refine cond_any hfr4 rfl rfl (fun hb9 => ?_) (fun hb9 => ?_)
  · try simp only [nq1, nq2, nq3, nq4, nq5, nq6, nq7, nq8, nq9, u8_eq] at hb9
    refine wp_skip ?_
    refine hK6 _ _ ?_; clear hK6
    refine seq_any fun _ hK7 => ?_
    refine wp_block ?_
    refine seq_any fun _ hK8 => ?_
    refine rp0 hst4 hfr4 (.cons rfl (ob_move rfl) <| .cons rfl (ob_assign rfl) <| .nil) ?_
    intro a5 w5 m5 hst5 hle5 hk5
    have hfr5 := hk5.fr (T' := [(8, _), (0, _), (1, _), (7, _), (5, _)]) (.old rfl rfl <| .old rfl rfl <| .old rfl rfl <| .old rfl rfl <| .new rfl <| .nil)
    replace h_l := h_l.mono hle5
    have hlh5 := hlh4.trans hle5
    clear hst4 hfr4 hk5
    refine hK8 _ _ ?_; clear hK8
    refine seq_any fun _ hK9 => ?_
    obtain ⟨p10, vs10, x10, ho10, hd10, hm_x10, ht10, hcv10, hl10, hv10⟩ := h_l.nth (k := y) (by omega)
    cases ho10
    subst hv10
    try rw [hd10] at hrem
    try simp only [idxA] at hrem
    refine rp0 hst5 hfr5 (.cons rfl (ob_move rfl) <| .cons rfl (ob_move rfl) <| .cons rfl (ob_move rfl) <| .cons rfl (ob_indexAddr (k := y) rfl rfl Tryz.underlying32 Tryz.sizeOf3 rfl (by omega)) <| .cons rfl (ob_load1' rfl hcv10 Tryz.isAgg3 rfl) <| .cons rfl (ob_eql rfl rfl) <| .nil) ?_
    intro a6 w6 m6 hst6 hle6 hk6
    have hfr6 := hk6.fr (T' := [(8, _), (0, _), (1, _), (7, _), (5, _), (16, _)]) (.old rfl rfl <| .old rfl rfl <| .old rfl rfl <| .old rfl rfl <| .old rfl rfl <| .new rfl <| .nil)
    have hlh6 := hlh5.trans hle6
    clear hst5 hfr5 hk6
    refine hK9 _ _ ?_; clear hK9
    refine cond_any hfr6 rfl rfl (fun hb16 => ?_) (fun hb16 => ?_)
    · try simp only [nq1, nq2, nq3, nq4, nq5, nq6, nq7, nq8, nq9, u8_eq] at hb16
      refine seq_any fun _ hK11 => ?_
      refine rp0 hst6 hfr6 (.cons rfl (ob_move rfl) <| .cons rfl (ob_assign rfl) <| .nil) ?_
      intro a7 w7 m7 hst7 hle7 hk7
      have hfr7 := hk7.fr (T' := [(8, _), (4, _)]) (.old rfl rfl <| .new rfl <| .nil)
      have hlh7 := hlh6.trans hle7
      clear hst6 hfr6 hk7
      refine hK11 _ _ ?_; clear hK11
      refine wp_ret ?_
      repeat (with_reducible first | refine then_ret ?_ | refine block_ret ?_)
      exact fn_ret hst7 hfr7 rfl (.tmp rfl <| .nil) (by refine congrArg (Value.int _) ?_; simp_all)
    · try simp only [nq1, nq2, nq3, nq4, nq5, nq6, nq7, nq8, nq9, u8_eq] at hb16
      refine wp_skip ?_
      refine hK7 _ _ ?_; clear hK7
      refine rp0 hst6 hfr6 (.cons rfl (ob_add rfl rfl ⟨by omega, by omega⟩) <| .cons rfl (ob_move rfl) <| .nil) ?_
      intro a7 w7 m7 hst7 hle7 hk7
      have hfr7 := hk7.fr (T' := [(0, _), (1, _), (7, _), (8, _)]) (.old rfl rfl <| .old rfl rfl <| .old rfl rfl <| .new rfl <| .nil)
      have hlh7 := hlh6.trans hle7
      clear hst6 hfr6 hk7
      exact ⟨y + 1, m7, by show l.length - (y + 1) < l.length - y; omega, ⟨hst7, hlh7, hfr7.sub (.cons rfl <| .cons rfl <| .cons rfl <| .cons rfl <| .nil), ⟨by show y + 1 ≤ l.length; omega, by simp_all⟩⟩⟩
  · try simp only [nq1, nq2, nq3, nq4, nq5, nq6, nq7, nq8, nq9, u8_eq] at hb9
    have hge : y = l.length := by omega
    rw [List.drop_of_length_le (by omega)] at hrem
    simp only [idxA] at hrem
    refine wp_exit ?_
    refine hK2 _ _ ?_; clear hK2
    refine seq_any fun _ hK13 => ?_
    refine rp0 hst4 hfr4 (.cons rfl (ob_assign rfl) <| .nil) ?_
    intro a5 w5 m5 hst5 hle5 hk5
    have hfr5 := hk5.fr (T' := [(8, _), (4, _)]) (.old rfl rfl <| .new rfl <| .nil)
    have hlh5 := hlh4.trans hle5
    clear hst4 hfr4 hk5
    refine hK13 _ _ ?_; clear hK13
    refine wp_ret ?_
    repeat (with_reducible first | refine then_ret ?_ | refine block_ret ?_)
    exact fn_ret hst5 hfr5 rfl (.tmp rfl <| .nil) (by refine congrArg (Value.int _) ?_; simp_all)

set_option maxHeartbeats 400000 in
theorem containsI_c {w : World} {m : Mem} {o_l : Option Addr} {c_l : Nat} {l : List Int} {s : Int} (hA : Agree w m) (h_l : Ints m o_l l.length c_l l) : FnV Tryz.prog 79 #[.slice o_l l.length c_l, .int .i64 s] w m (fun _ _ v => v = .bool (decide (s ∈ l))) := by
  have hb_l := h_l.big; have hc_l := h_l.cap
  refine fn_enter (vs := [_, _]) Tryz.func79 rfl rfl rfl fun a0 hfr0 => ?_
  have hst0 := st_enter hA (loc_nil [] _ w m)
  have hM : MLe m m := MLe.refl m
  refine seq_any fun _ hK1 => ?_
  refine rp0 hst0 hfr0 (.cons rfl (ob_assign rfl) <| .nil) ?_
  intro a1 w1 m1 hst1 hle1 hk1
  have hfr1 := hk1.fr (T' := [(0, _), (1, _)]) (.old rfl rfl <| .old rfl rfl <| .nil)
  replace h_l := h_l.mono hle1
  clear hst0 hfr0 hk1
  refine hK1 _ _ ?_; clear hK1
  refine seq_any fun _ hK2 => ?_
  refine rp0 hst1 hfr1 (.cons rfl (ob_move rfl) <| .cons rfl (ob_move rfl) <| .cons rfl (ob_callE rfl (.cons rfl <| .cons rfl <| .nil) Tryz.call96 (fun w m hK => by have hle_ := KC.le hK; have hA := KC.agree hK; have h_l := h_l.mono hle_; exact indexI_c hA (by first | assumption | omega | simp_all))) <| .cons rfl (ob_geq rfl rfl) <| .cons rfl (ob_assign rfl) <| .nil) ?_
  intro a2 w2 m2 hst2 hle2 hk2
  have hfr2 := hk2.fr (T' := [(4, _)]) (.new rfl <| .nil)
  clear hst1 hfr1 hk2
  refine hK2 _ _ ?_; clear hK2
  refine wp_ret ?_
  repeat (with_reducible first | refine then_ret ?_ | refine block_ret ?_)
  exact fn_ret hst2 hfr2 rfl (.tmp rfl <| .nil) (by refine congrArg Value.bool ?_; exact decide_eq_decide.2 (idxA_mem s l 0))

set_option maxHeartbeats 400000 in
theorem equalS_c {w : World} {m : Mem} {o_l : Option Addr} {c_l : Nat} {l : List Str} {o_k : Option Addr} {c_k : Nat} {k : List Str} (hA : Agree w m) (h_l : Strs m o_l l.length c_l l) (h_k : Strs m o_k k.length c_k k) : FnV Tryz.prog 94 #[.slice o_l l.length c_l, .slice o_k k.length c_k] w m (fun _ _ v => v = .bool (decide (l = k))) := by
  have hb_l := h_l.big; have hc_l := h_l.cap
  have hb_k := h_k.big; have hc_k := h_k.cap
  refine fn_enter (vs := [_, _]) Tryz.func94 rfl rfl rfl fun a0 hfr0 => ?_
  have hst0 := st_enter hA (loc_nil [] _ w m)
  have hM : MLe m m := MLe.refl m
  have hae := all2_eq l k
  refine seq_any fun _ hK1 => ?_
  refine rp0 hst0 hfr0 (.cons rfl (ob_assign rfl) <| .nil) ?_
  intro a1 w1 m1 hst1 hle1 hk1
  have hfr1 := hk1.fr (T' := [(0, _), (1, _)]) (.old rfl rfl <| .old rfl rfl <| .nil)
  replace h_l := h_l.mono hle1
  replace h_k := h_k.mono hle1
  clear hst0 hfr0 hk1
  refine hK1 _ _ ?_; clear hK1
  refine seq_any fun _ hK2 => ?_
  refine seq_any fun _ hK3 => ?_
  refine rp0 hst1 hfr1 (.cons rfl (ob_move rfl) <| .cons rfl (ob_len rfl Tryz.underlying41) <| .cons rfl (ob_move rfl) <| .cons rfl (ob_len rfl Tryz.underlying41) <| .cons rfl (ob_neq rfl rfl) <| .nil) ?_
  intro a2 w2 m2 hst2 hle2 hk2
  have hfr2 := hk2.fr (T' := [(0, _), (1, _), (10, _)]) (.old rfl rfl <| .old rfl rfl <| .new rfl <| .nil)
  replace h_l := h_l.mono hle2
  replace h_k := h_k.mono hle2
  clear hst1 hfr1 hk2
  refine hK3 _ _ ?_; clear hK3
  refine cond_any hfr2 rfl rfl (fun hb10 => ?_) (fun hb10 => ?_)
  · try simp only [nq1, nq2, nq3, nq4, nq5, nq6, nq7, nq8, nq9, u8_eq] at hb10
    have hr : decide (l = k) = false := by rw [← hae]; exact all2_len (by omega)
    refine seq_any fun _ hK4 => ?_
    refine rp0 hst2 hfr2 (.cons rfl (ob_assign rfl) <| .nil) ?_
    intro a3 w3 m3 hst3 hle3 hk3
    have hfr3 := hk3.fr (T' := [(4, _)]) (.new rfl <| .nil)
    clear hst2 hfr2 hk3
    refine hK4 _ _ ?_; clear hK4
    refine wp_ret ?_
    repeat (with_reducible first | refine then_ret ?_ | refine block_ret ?_)
    exact fn_ret hst3 hfr3 rfl (.tmp rfl <| .nil) (by rw [hr]; rfl)
  · try simp only [nq1, nq2, nq3, nq4, nq5, nq6, nq7, nq8, nq9, u8_eq] at hb10
    have hln : l.length = k.length := by omega
    refine wp_skip ?_
    refine hK2 _ _ ?_; clear hK2
    refine seq_any fun _ hK6 => ?_
    refine seq_any fun _ hK7 => ?_
    refine rp0 hst2 hfr2 (.cons rfl (ob_move rfl) <| .cons rfl (ob_len rfl Tryz.underlying41) <| .cons rfl (ob_move rfl) <| .nil) ?_
    intro a3 w3 m3 hst3 hle3 hk3
    have hfr3 := hk3.fr (T' := [(0, _), (1, _), (12, _), (13, _)]) (.old rfl rfl <| .old rfl rfl <| .new rfl <| .new rfl <| .nil)
    replace h_l := h_l.mono hle3
    replace h_k := h_k.mono hle3
    clear hst2 hfr2 hk3
    refine hK7 _ _ ?_; clear hK7
    refine wp_block ?_
    refine loop_any (T := [(0, _), (1, _), (12, _)]) (fun (y : Nat) => ([(13, .int .i64 (y : Int))] : List (Nat × Value))) (fun _ => _) (fun (y : Nat) m => (y ≤ l.length) ∧ (all2 (fun a b => decide (a = b)) l k = all2 (fun a b => decide (a = b)) (l.drop y) (k.drop y))) (fun y => l.length - y) (0) ⟨hst3, MLe.refl _, hfr3.sub (.cons rfl <| .cons rfl <| .cons rfl <| .cons rfl <| .nil), ⟨Nat.zero_le _, rfl⟩⟩ fun y a4 w4 m4 hh4 => ?_
    have hst4 := hh4.st; have hle4 := hh4.le; have hfr4 := hh4.fr; have hrel := hh4.rel; clear hh4
    replace h_l := h_l.mono hle4
    replace h_k := h_k.mono hle4
    clear hst3 hfr3
    obtain ⟨hyn, hrem⟩ := hrel
    have hlh4 := hle4
    refine seq_any fun _ hK9 => ?_
    refine rp0 hst4 hfr4 (.cons rfl (ob_lss rfl rfl) <| .nil) ?_
    intro a5 w5 m5 hst5 hle5 hk5
    have hfr5 := hk5.fr (T' := [(13, _), (0, _), (1, _), (12, _), (14, _)]) (.old rfl rfl <| .old rfl rfl <| .old rfl rfl <| .old rfl rfl <| .new rfl <| .nil)
    replace h_l := h_l.mono hle5
    replace h_k := h_k.mono hle5
    have hlh5 := hlh4.trans hle5
    clear hst4 hfr4 hk5
    refine hK9 _ _ ?_; clear hK9
    refine seq_any fun _ hK10 => ?_
    refine cond_any hfr5 rfl rfl (fun hb14 => ?_) (fun hb14 => ?_)
    · try simp only [nq1, nq2, nq3, nq4, nq5, nq6, nq7, nq8, nq9, u8_eq] at hb14
      refine wp_skip ?_
      refine hK10 _ _ ?_; clear hK10
      refine seq_any fun _ hK11 => ?_
      refine wp_block ?_
      refine seq_any fun _ hK12 => ?_
      refine rp0 hst5 hfr5 (.cons rfl (ob_move rfl) <| .cons rfl (ob_assign rfl) <| .nil) ?_
      intro a6 w6 m6 hst6 hle6 hk6
      have hfr6 := hk6.fr (T' := [(13, _), (0, _), (1, _), (12, _), (5, _)]) (.old rfl rfl <| .old rfl rfl <| .old rfl rfl <| .old rfl rfl <| .new rfl <| .nil)
      replace h_l := h_l.mono hle6
      replace h_k := h_k.mono hle6
      have hlh6 := hlh5.trans hle6
      clear hst5 hfr5 hk6
      refine hK12 _ _ ?_; clear hK12
      refine seq_any fun _ hK13 => ?_
      obtain ⟨p14, vs14, x14, ho14, hd14, hm_x14, ht14, hcv14, hl14, hv14⟩ := h_l.nth (k := y) (by omega)
      cases ho14
      subst hv14
      try rw [hd14] at hrem
      try simp only [all2] at hrem
      obtain ⟨p15, vs15, x15, ho15, hd15, hm_x15, ht15, hcv15, hl15, hv15⟩ := h_k.nth (k := y) (by omega)
      cases ho15
      subst hv15
      try rw [hd15] at hrem
      try simp only [all2] at hrem
      refine region_plain (fun _ => mixed) hst6 hfr6 (by kernel_rfl) (by kernel_rfl) (.cons rfl (ob_move rfl) <| .cons rfl (ob_move rfl) <| .cons rfl (ob_indexAddr (k := y) rfl rfl Tryz.underlying41 Tryz.sizeOf9 rfl (by omega)) <| .cons rfl (ob_load1' rfl hcv14 Tryz.isAgg9 rfl) <| .cons rfl (ob_move rfl) <| .cons rfl (ob_move rfl) <| .cons rfl (ob_indexAddr (k := y) rfl rfl Tryz.underlying41 Tryz.sizeOf9 rfl (by omega)) <| .cons rfl (ob_load1' rfl hcv15 Tryz.isAgg9 rfl) <| .cons rfl (ob_sneq rfl rfl) <| .nil) ?_
      intro a7 w7 m7 hst7 hle7 hk7
      have hfr7 := hk7.fr (T' := [(13, _), (0, _), (1, _), (12, _), (24, _)]) (.old rfl rfl <| .old rfl rfl <| .old rfl rfl <| .old rfl rfl <| .new rfl <| .nil)
      have hlh7 := hlh6.trans hle7
      clear hst6 hfr6 hk7
      refine hK13 _ _ ?_; clear hK13
      refine cond_any hfr7 rfl rfl (fun hb24 => ?_) (fun hb24 => ?_)
      · try simp only [nq1, nq2, nq3, nq4, nq5, nq6, nq7, nq8, nq9, u8_eq] at hb24
        refine seq_any fun _ hK16 => ?_
        refine rp0 hst7 hfr7 (.cons rfl (ob_assign rfl) <| .nil) ?_
        intro a8 w8 m8 hst8 hle8 hk8
        have hfr8 := hk8.fr (T' := [(13, _), (4, _)]) (.old rfl rfl <| .new rfl <| .nil)
        have hlh8 := hlh7.trans hle8
        clear hst7 hfr7 hk8
        refine hK16 _ _ ?_; clear hK16
        refine wp_ret ?_
        repeat (with_reducible first | refine then_ret ?_ | refine block_ret ?_)
        exact fn_ret hst8 hfr8 rfl (.tmp rfl <| .nil) (by refine congrArg Value.bool ?_; rw [← hae, hrem]; try simp_all)
      · try simp only [nq1, nq2, nq3, nq4, nq5, nq6, nq7, nq8, nq9, u8_eq] at hb24
        refine wp_skip ?_
        refine hK11 _ _ ?_; clear hK11
        refine rp0 hst7 hfr7 (.cons rfl (ob_add rfl rfl ⟨by omega, by omega⟩) <| .cons rfl (ob_move rfl) <| .nil) ?_
        intro a8 w8 m8 hst8 hle8 hk8
        have hfr8 := hk8.fr (T' := [(0, _), (1, _), (12, _), (13, _)]) (.old rfl rfl <| .old rfl rfl <| .old rfl rfl <| .new rfl <| .nil)
        have hlh8 := hlh7.trans hle8
        clear hst7 hfr7 hk8
        exact ⟨y + 1, m8, by show l.length - (y + 1) < l.length - y; omega, ⟨hst8, hlh8, hfr8.sub (.cons rfl <| .cons rfl <| .cons rfl <| .cons rfl <| .nil), ⟨by show y + 1 ≤ l.length; omega, by simp_all⟩⟩⟩
    · try simp only [nq1, nq2, nq3, nq4, nq5, nq6, nq7, nq8, nq9, u8_eq] at hb14
      have hge : y = l.length := by omega
      rw [List.drop_of_length_le (by omega), List.drop_of_length_le (by omega)] at hrem
      simp only [all2] at hrem
      refine wp_exit ?_
      refine hK6 _ _ ?_; clear hK6
      refine seq_any fun _ hK18 => ?_
      refine rp0 hst5 hfr5 (.cons rfl (ob_assign rfl) <| .nil) ?_
      intro a6 w6 m6 hst6 hle6 hk6
      have hfr6 := hk6.fr (T' := [(13, _), (4, _)]) (.old rfl rfl <| .new rfl <| .nil)
      have hlh6 := hlh5.trans hle6
      clear hst5 hfr5 hk6
      refine hK18 _ _ ?_; clear hK18
      refine wp_ret ?_
      repeat (with_reducible first | refine then_ret ?_ | refine block_ret ?_)
      exact fn_ret hst6 hfr6 rfl (.tmp rfl <| .nil) (by refine congrArg Value.bool ?_; rw [← hae, hrem]; try simp_all)

set_option maxHeartbeats 400000 in
theorem equalfT_c {w : World} {m : Mem} {o_l : Option Addr} {c_l : Nat} {l : List Ty} {o_k : Option Addr} {c_k : Nat} {k : List Ty} {cid : Nat} {cap : List Value} {ψ : Ty → Ty → Bool} (hA : Agree w m) (h_l : Tys m o_l l.length c_l l) (h_k : Tys m o_k k.length c_k k) (hc : ∀ args w, (callFunc cid args).run Tryz.prog w = .ok (.enter cid args) w) (hφ : ∀ w m' (t u : Ty) vs us, MLe m m' → Agree w m' → TyR m' t vs → TyR m' u us → t ∈ l → u ∈ k → FnV Tryz.prog cid ([Value.agg vs.toArray, Value.agg us.toArray] ++ cap).toArray w m' (fun _ _ v => v = .bool (ψ t u))) : FnV Tryz.prog 77 #[.slice o_l l.length c_l, .slice o_k k.length c_k, .func (.func cid) #[] cap.toArray] w m (fun _ _ v => v = .bool (all2 ψ l k)) := by
  have hb_l := h_l.big; have hc_l := h_l.cap
  have hb_k := h_k.big; have hc_k := h_k.cap
  refine fn_enter (vs := [_, _, _]) Tryz.func77 rfl rfl rfl fun a0 hfr0 => ?_
  have hst0 := st_enter hA (loc_nil [] _ w m)
  have hM : MLe m m := MLe.refl m
  refine seq_any fun _ hK1 => ?_
  refine rp0 hst0 hfr0 (.cons rfl (ob_assign rfl) <| .nil) ?_
  intro a1 w1 m1 hst1 hle1 hk1
  have hfr1 := hk1.fr (T' := [(0, _), (1, _), (2, _)]) (.old rfl rfl <| .old rfl rfl <| .old rfl rfl <| .nil)
  replace h_l := h_l.mono hle1
  replace h_k := h_k.mono hle1
  replace hM := hM.trans hle1
  clear hst0 hfr0 hk1
  refine hK1 _ _ ?_; clear hK1
  refine seq_any fun _ hK2 => ?_
  refine seq_any fun _ hK3 => ?_
  refine rp0 hst1 hfr1 (.cons rfl (ob_move rfl) <| .cons rfl (ob_len rfl Tryz.underlying33) <| .cons rfl (ob_move rfl) <| .cons rfl (ob_len rfl Tryz.underlying33) <| .cons rfl (ob_neq rfl rfl) <| .nil) ?_
  intro a2 w2 m2 hst2 hle2 hk2
  have hfr2 := hk2.fr (T' := [(0, _), (1, _), (2, _), (14, _)]) (.old rfl rfl <| .old rfl rfl <| .old rfl rfl <| .new rfl <| .nil)
  replace h_l := h_l.mono hle2
  replace h_k := h_k.mono hle2
  replace hM := hM.trans hle2
  clear hst1 hfr1 hk2
  refine hK3 _ _ ?_; clear hK3
  refine cond_any hfr2 rfl rfl (fun hb14 => ?_) (fun hb14 => ?_)
  · try simp only [nq1, nq2, nq3, nq4, nq5, nq6, nq7, nq8, nq9, u8_eq] at hb14
    have hr : all2 ψ l k = false := all2_len (by omega)
    refine seq_any fun _ hK4 => ?_
    refine rp0 hst2 hfr2 (.cons rfl (ob_assign rfl) <| .nil) ?_
    intro a3 w3 m3 hst3 hle3 hk3
    have hfr3 := hk3.fr (T' := [(6, _)]) (.new rfl <| .nil)
    clear hst2 hfr2 hk3
    refine hK4 _ _ ?_; clear hK4
    refine wp_ret ?_
    repeat (with_reducible first | refine then_ret ?_ | refine block_ret ?_)
    exact fn_ret hst3 hfr3 rfl (.tmp rfl <| .nil) (by rw [hr]; rfl)
  · try simp only [nq1, nq2, nq3, nq4, nq5, nq6, nq7, nq8, nq9, u8_eq] at hb14
    have hln : l.length = k.length := by omega
    refine wp_skip ?_
    refine hK2 _ _ ?_; clear hK2
    refine seq_any fun _ hK6 => ?_
    refine seq_any fun _ hK7 => ?_
    refine rp0 hst2 hfr2 (.cons rfl (ob_move rfl) <| .cons rfl (ob_len rfl Tryz.underlying33) <| .cons rfl (ob_move rfl) <| .nil) ?_
    intro a3 w3 m3 hst3 hle3 hk3
    have hfr3 := hk3.fr (T' := [(1, _), (2, _), (15, _), (16, _), (17, _)]) (.old rfl rfl <| .old rfl rfl <| .new rfl <| .new rfl <| .new rfl <| .nil)
    replace h_l := h_l.mono hle3
    replace h_k := h_k.mono hle3
    replace hM := hM.trans hle3
    clear hst2 hfr2 hk3
    refine hK7 _ _ ?_; clear hK7
    refine wp_block ?_
    refine loop_any (T := [(1, _), (2, _), (15, _), (16, _)]) (fun (y : Nat) => ([(17, .int .i64 (y : Int))] : List (Nat × Value))) (fun y => []) (fun (y : Nat) m => (y ≤ l.length) ∧ (all2 ψ l k = all2 ψ (l.drop y) (k.drop y))) (fun y => l.length - y) (0) ⟨hst3, MLe.refl _, hfr3.sub (.cons rfl <| .cons rfl <| .cons rfl <| .cons rfl <| .cons rfl <| .nil), ⟨Nat.zero_le _, rfl⟩⟩ fun y a4 w4 m4 hh4 => ?_
    have hst4 := hh4.st; have hle4 := hh4.le; have hfr4 := hh4.fr; have hrel := hh4.rel; clear hh4
    replace h_l := h_l.mono hle4
    replace h_k := h_k.mono hle4
    clear hst3 hfr3
    replace hM := hM.trans hle4
    obtain ⟨hyn, hrem⟩ := hrel
    have hlh4 := hle4
    refine seq_any fun _ hK9 => ?_
    refine rp0 hst4 hfr4 (.cons rfl (ob_lss rfl rfl) <| .nil) ?_
    intro a5 w5 m5 hst5 hle5 hk5
    have hfr5 := hk5.fr (T' := [(17, _), (1, _), (2, _), (15, _), (16, _), (18, _)]) (.old rfl rfl <| .old rfl rfl <| .old rfl rfl <| .old rfl rfl <| .old rfl rfl <| .new rfl <| .nil)
    replace h_l := h_l.mono hle5
    replace h_k := h_k.mono hle5
    have hlh5 := hlh4.trans hle5
    replace hM := hM.trans hle5
    clear hst4 hfr4 hk5
    refine hK9 _ _ ?_; clear hK9
    refine seq_any fun _ hK10 => ?_
    refine cond_any hfr5 rfl rfl (fun hb18 => ?_) (fun hb18 => ?_)
    · try simp only [nq1, nq2, nq3, nq4, nq5, nq6, nq7, nq8, nq9, u8_eq] at hb18
      refine wp_skip ?_
      refine hK10 _ _ ?_; clear hK10
      refine seq_any fun _ hK11 => ?_
      refine wp_block ?_
      refine seq_any fun _ hK12 => ?_
      obtain ⟨p13, vs13, x13, ho13, hd13, hm_x13, ht13, hcv13, hl13, hv13⟩ := h_l.nth (k := y) (by omega)
      cases ho13
      obtain ⟨o13, c13, oL13, cL13, rfl, hkd13, hs13, hi13, hj13, hr13⟩ := hv13.open_
      have hbg13 := hkd13.big; have hcp13 := hkd13.cap; have hbs13 := hs13.big; have hcs13 := hs13.cap
      have hrw13 : RwR _ ⟨x13.labels, x13.rv⟩ _ := ⟨_, _, rfl, hs13, hr13⟩
      try rw [hd13] at hrem
      try simp only [all2] at hrem
      replace hst5 := hst5.more (r := .free) trivial List.nodup_nil (by simp [Res.blocks])
      refine ra0 (tch := [(3, 0, (fun v => .blk v _)), (5, 0, (fun v => .blk v _))]) hst5 hfr5 (.cons rfl (ob_move rfl) <| .cons rfl (ob_indexAddr (k := y) rfl rfl Tryz.underlying33 Tryz.sizeOf45 rfl (by omega)) <| .cons rfl (ob_loadS' rfl hcv13 Tryz.isAgg45 Tryz.sizeOf45 rfl rfl) <| .consT rfl rfl (fun _ => rfl) rfl (ob_allocL Tryz.zeroValue45 rfl) <| .cons rfl (ob_assign rfl) <| .consT rfl rfl (fun _ => rfl) rfl (ob_imgT 8 rfl rfl rfl fun y8 => ob_storeF rfl rfl rfl rfl rfl Tryz.sizeOf45 rfl rfl rfl) <| .nil) ?_
      intro a6 w6 m6 hst6 hle6 hk6
      have hfr6 := hk6.fr (T' := [(17, _), (1, _), (2, _), (15, _), (16, _), (7, _)]) (.old rfl rfl <| .old rfl rfl <| .old rfl rfl <| .old rfl rfl <| .old rfl rfl <| .new rfl <| .nil)
      obtain ⟨g14, e14, _⟩ := hk6.ex 8 rfl
      replace hfr6 := hfr6.cons e14
      replace hst6 := hst6.fin (L' := [_]) (.cons e14 <| .cons e14 <| .nil)
      replace h_l := h_l.mono hle6
      replace h_k := h_k.mono hle6
      replace hcv13 := hcv13.mono hle6
      replace hv13 := hv13.mono hle6
      replace hkd13 := hkd13.mono hle6
      replace hs13 := hs13.mono hle6
      replace hrw13 := hrw13.mono hle6
      have hlh6 := hlh5.trans hle6
      replace hM := hM.trans hle6
      clear hst5 hfr5 hk6
      refine hK12 _ _ ?_; clear hK12
      refine seq_any fun _ hK15 => ?_
      obtain ⟨p16, vs16, x16, ho16, hd16, hm_x16, ht16, hcv16, hl16, hv16⟩ := h_k.nth (k := y) (by omega)
      cases ho16
      obtain ⟨o16, c16, oL16, cL16, rfl, hkd16, hs16, hi16, hj16, hr16⟩ := hv16.open_
      have hbg16 := hkd16.big; have hcp16 := hkd16.cap; have hbs16 := hs16.big; have hcs16 := hs16.cap
      have hrw16 : RwR _ ⟨x16.labels, x16.rv⟩ _ := ⟨_, _, rfl, hs16, hr16⟩
      try rw [hd16] at hrem
      try simp only [all2] at hrem
      replace hst6 := hst6.more (r := .free) trivial List.nodup_nil (by simp [Res.blocks])
      refine ra0 (tch := [(4, 1, (fun v => .blk v _)), (5, 1, (fun v => .blk v _))]) hst6 hfr6 (.cons rfl (ob_move rfl) <| .cons rfl (ob_move rfl) <| .cons rfl (ob_indexAddr (k := y) rfl rfl Tryz.underlying33 Tryz.sizeOf45 rfl (by omega)) <| .cons rfl (ob_loadS' rfl hcv16 Tryz.isAgg45 Tryz.sizeOf45 rfl rfl) <| .consT rfl rfl (fun _ => rfl) rfl (ob_allocL Tryz.zeroValue45 rfl) <| .consT rfl rfl (fun _ => rfl) rfl (ob_imgT 9 rfl rfl rfl fun y9 => ob_storeF rfl rfl rfl rfl rfl Tryz.sizeOf45 rfl rfl rfl) <| .nil) ?_
      intro a7 w7 m7 hst7 hle7 hk7
      have hfr7 := hk7.fr (T' := [(17, _), (1, _), (2, _), (15, _), (16, _), (8, _)]) (.old rfl rfl <| .old rfl rfl <| .old rfl rfl <| .old rfl rfl <| .old rfl rfl <| .old rfl rfl <| .nil)
      obtain ⟨g17, e17, _⟩ := hk7.ex 9 rfl
      replace hfr7 := hfr7.cons e17
      replace hst7 := hst7.fin (L' := [_, _]) (.cons e17 <| .cons e17 <| .nil)
      replace h_l := h_l.mono hle7
      replace h_k := h_k.mono hle7
      replace hcv13 := hcv13.mono hle7
      replace hv13 := hv13.mono hle7
      replace hkd13 := hkd13.mono hle7
      replace hs13 := hs13.mono hle7
      replace hrw13 := hrw13.mono hle7
      replace hcv16 := hcv16.mono hle7
      replace hv16 := hv16.mono hle7
      replace hkd16 := hkd16.mono hle7
      replace hs16 := hs16.mono hle7
      replace hrw16 := hrw16.mono hle7
      have hlh7 := hlh6.trans hle7
      replace hM := hM.trans hle7
      clear hst6 hfr6 hk7
      refine hK15 _ _ ?_; clear hK15
      refine seq_any fun _ hK18 => ?_
      refine rp0 hst7 hfr7 (.cons rfl (ob_move rfl) <| .cons rfl (ob_loadLS' (j := 0) rfl rfl Tryz.isAgg45 Tryz.sizeOf45 rfl rfl) <| .cons rfl (ob_loadLS' (j := 1) rfl rfl Tryz.isAgg45 Tryz.sizeOf45 rfl rfl) <| .cons rfl (ob_callE rfl (.cons rfl <| .cons rfl <| .nil) hc (fun w m hK => by have hle_ := KC.le hK; have hA := KC.agree hK; have hM := hM.trans hle_; have h_l := h_l.mono hle_; have h_k := h_k.mono hle_; have hcv13 := hcv13.mono hle_; have hv13 := hv13.mono hle_; have hkd13 := hkd13.mono hle_; have hs13 := hs13.mono hle_; have hrw13 := hrw13.mono hle_; have hcv16 := hcv16.mono hle_; have hv16 := hv16.mono hle_; have hkd16 := hkd16.mono hle_; have hs16 := hs16.mono hle_; have hrw16 := hrw16.mono hle_; exact hφ w m _ _ _ _ hM hA (by assumption) (by assumption) hm_x13 hm_x16)) <| .cons rfl (ob_not rfl) <| .nil) ?_
      intro a8 w8 m8 hst8 hle8 hk8
      have hfr8 := hk8.fr (T' := [(17, _), (1, _), (2, _), (15, _), (16, _), (30, _)]) (.old rfl rfl <| .old rfl rfl <| .old rfl rfl <| .old rfl rfl <| .old rfl rfl <| .new rfl <| .nil)
      have hlh8 := hlh7.trans hle8
      clear hst7 hfr7 hk8
      refine hK18 _ _ ?_; clear hK18
      refine cond_any hfr8 rfl rfl (fun hb30 => ?_) (fun hb30 => ?_)
      · try simp only [nq1, nq2, nq3, nq4, nq5, nq6, nq7, nq8, nq9, u8_eq] at hb30
        refine seq_any fun _ hK19 => ?_
        refine rp0 hst8 hfr8 (.cons rfl (ob_assign rfl) <| .nil) ?_
        intro a9 w9 m9 hst9 hle9 hk9
        have hfr9 := hk9.fr (T' := [(17, _), (6, _)]) (.old rfl rfl <| .new rfl <| .nil)
        have hlh9 := hlh8.trans hle9
        clear hst8 hfr8 hk9
        refine hK19 _ _ ?_; clear hK19
        refine wp_ret ?_
        repeat (with_reducible first | refine then_ret ?_ | refine block_ret ?_)
        exact fn_ret hst9 hfr9 rfl (.tmp rfl <| .nil) (by refine congrArg Value.bool ?_; simp_all)
      · try simp only [nq1, nq2, nq3, nq4, nq5, nq6, nq7, nq8, nq9, u8_eq] at hb30
        refine wp_skip ?_
        refine hK11 _ _ ?_; clear hK11
        refine rp0 hst8 hfr8 (.cons rfl (ob_add rfl rfl ⟨by omega, by omega⟩) <| .cons rfl (ob_move rfl) <| .nil) ?_
        intro a9 w9 m9 hst9 hle9 hk9
        have hfr9 := hk9.fr (T' := [(1, _), (2, _), (15, _), (16, _), (17, _)]) (.old rfl rfl <| .old rfl rfl <| .old rfl rfl <| .old rfl rfl <| .new rfl <| .nil)
        have hlh9 := hlh8.trans hle9
        clear hst8 hfr8 hk9
        have hst9 := hst9.take 0
        exact ⟨y + 1, m9, by show l.length - (y + 1) < l.length - y; omega, ⟨hst9, hlh9, hfr9.sub (.cons rfl <| .cons rfl <| .cons rfl <| .cons rfl <| .cons rfl <| .nil), ⟨by show y + 1 ≤ l.length; omega, by rw [hrem, hb30]; rfl⟩⟩⟩
    · try simp only [nq1, nq2, nq3, nq4, nq5, nq6, nq7, nq8, nq9, u8_eq] at hb18
      have hge : y = l.length := by omega
      rw [List.drop_of_length_le (by omega), List.drop_of_length_le (by omega)] at hrem
      simp only [all2] at hrem
      refine wp_exit ?_
      refine hK6 _ _ ?_; clear hK6
      refine seq_any fun _ hK21 => ?_
      refine rp0 hst5 hfr5 (.cons rfl (ob_assign rfl) <| .nil) ?_
      intro a6 w6 m6 hst6 hle6 hk6
      have hfr6 := hk6.fr (T' := [(17, _), (6, _)]) (.old rfl rfl <| .new rfl <| .nil)
      have hlh6 := hlh5.trans hle6
      clear hst5 hfr5 hk6
      refine hK21 _ _ ?_; clear hK21
      refine wp_ret ?_
      repeat (with_reducible first | refine then_ret ?_ | refine block_ret ?_)
      exact fn_ret hst6 hfr6 rfl (.tmp rfl <| .nil) (by refine congrArg Value.bool ?_; simp_all)

set_option maxHeartbeats 400000 in
theorem with_g {w : World} {m : Mem} {v : Value} {a : List Int} {o_ks : Option Addr} {c_ks : Nat} {ks : List Int} (hA : Agree w m) (hr : (Res.row v (a).length 1 3 ((a).map intV)).holds w m) (h_ks : Ints m o_ks ks.length c_ks ks) (hbig : a.length + ks.length ≤ 1073741824) : FnG Tryz.prog 113 #[v, .slice o_ks ks.length c_ks] (Res.row v (a).length 1 3 ((a).map intV)).blocks w m (fun w' m' v' => Loc (Res.row v (a).length 1 3 ((a).map intV)).blocks w.heap.size [.row v' (ks.foldl withI a).length 1 3 ((ks.foldl withI a).map intV)] w' m' ∧ (MP.sl (ks.foldl withI a).length ((ks.foldl withI a).map intV)).p m' v') := by
  have hrr := hr
  obtain ⟨o0, c0, rfl, hrow0, hcap0, hmx0, hl0⟩ := Res.row_at hrr
  have hb_ks := h_ks.big; have hc_ks := h_ks.cap
  refine fn_enter (vs := [_, _]) Tryz.func113 rfl rfl rfl fun a0 hfr0 => ?_
  have hst0 := st_enter hA (loc_one hr (row_nodup _ _ _ _ _))
  have hM : MLe m m := MLe.refl m
  have hrow_r := hrow0
  refine seq_any fun _ hK1 => ?_
  refine rp0 hst0 hfr0 (.cons rfl (ob_assign rfl) <| .nil) ?_
  intro a1 w1 m1 hst1 hle1 hk1
  have hfr1 := hk1.fr (T' := [(0, _), (1, _)]) (.old rfl rfl <| .old rfl rfl <| .nil)
  replace h_ks := h_ks.mono hle1
  replace hrow_r := hrow_r.mono hle1
  clear hst0 hfr0 hk1
  refine hK1 _ _ ?_; clear hK1
  refine seq_any fun _ hK2 => ?_
  refine seq_any fun _ hK3 => ?_
  refine rp0 hst1 hfr1 (.cons rfl (ob_move rfl) <| .cons rfl (ob_len rfl Tryz.underlying32) <| .cons rfl (ob_move rfl) <| .nil) ?_
  intro a2 w2 m2 hst2 hle2 hk2
  have hfr2 := hk2.fr (T' := [(0, _), (7, _), (8, _), (9, _)]) (.old rfl rfl <| .new rfl <| .new rfl <| .new rfl <| .nil)
  replace h_ks := h_ks.mono hle2
  replace hrow_r := hrow_r.mono hle2
  clear hst1 hfr1 hk2
  refine hK3 _ _ ?_; clear hK3
  refine wp_block ?_
  refine loop_any (T := [(7, _), (8, _)]) (fun (y : Nat × List Int × Option Addr × Nat) => ([(0, .slice y.2.2.1 y.2.1.length y.2.2.2), (9, .int .i64 (y.1 : Int))] : List (Nat × Value))) (fun y => [.row (.slice y.2.2.1 y.2.1.length y.2.2.2) (y.2.1).length 1 3 ((y.2.1).map intV)]) (fun (y : Nat × List Int × Option Addr × Nat) m => (fun (y : Nat) (aa : List Int) (ro : Option Addr) (rp : Nat) => y ≤ ks.length ∧ ks.foldl withI a = (ks.drop y).foldl withI aa ∧ RowAt m ro (aa.map intV) ∧ aa.length ≤ rp ∧ aa.length ≤ a.length + y) y.1 y.2.1 y.2.2.1 y.2.2.2) (fun y => ks.length - y.1) ((0, a, o0, c0)) ⟨hst2, MLe.refl _, hfr2.sub (.cons rfl <| .cons rfl <| .cons rfl <| .cons rfl <| .nil), ⟨Nat.zero_le _, rfl, hrow_r, hcap0, Nat.le_refl _⟩⟩ fun y a3 w3 m3 hh3 => ?_
  have hst3 := hh3.st; have hle3 := hh3.le; have hfr3 := hh3.fr; have hrel := hh3.rel; clear hh3
  replace h_ks := h_ks.mono hle3
  replace hrow_r := hrow_r.mono hle3
  clear hst2 hfr2
  obtain ⟨y, aa, ro, rp⟩ := y
  dsimp only at hrel hfr3 hst3
  obtain ⟨hyn, hrem, hrow_r, hcap_r, haal⟩ := hrel
  have hlh3 := hle3
  refine seq_any fun _ hK5 => ?_
  refine rp0 hst3 hfr3 (.cons rfl (ob_lss rfl rfl) <| .nil) ?_
  intro a4 w4 m4 hst4 hle4 hk4
  have hfr4 := hk4.fr (T' := [(0, _), (9, _), (7, _), (8, _), (10, _)]) (.old rfl rfl <| .old rfl rfl <| .old rfl rfl <| .old rfl rfl <| .new rfl <| .nil)
  replace h_ks := h_ks.mono hle4
  replace hrow_r := hrow_r.mono hle4
  have hlh4 := hlh3.trans hle4
  clear hst3 hfr3 hk4
  refine hK5 _ _ ?_; clear hK5
  refine seq_any fun _ hK6 => ?_
  refine cond_any hfr4 rfl rfl (fun hb10 => ?_) (fun hb10 => ?_)
  · try simp only [nq1, nq2, nq3, nq4, nq5, nq6, nq7, nq8, nq9, u8_eq] at hb10
    refine wp_skip ?_
    refine hK6 _ _ ?_; clear hK6
    refine seq_any fun _ hK7 => ?_
    refine wp_block ?_
    refine seq_any fun _ hK8 => ?_
    obtain ⟨p9, vs9, x9, ho9, hd9, hm_x9, ht9, hcv9, hl9, hv9⟩ := h_ks.nth (k := y) (by omega)
    cases ho9
    subst hv9
    refine rp0 hst4 hfr4 (.cons rfl (ob_indexAddr (k := y) rfl rfl Tryz.underlying32 Tryz.sizeOf3 rfl (by omega)) <| .cons rfl (ob_load1' rfl hcv9 Tryz.isAgg3 rfl) <| .cons rfl (ob_assign rfl) <| .nil) ?_
    intro a5 w5 m5 hst5 hle5 hk5
    have hfr5 := hk5.fr (T' := [(0, _), (9, _), (7, _), (8, _), (6, _)]) (.old rfl rfl <| .old rfl rfl <| .old rfl rfl <| .old rfl rfl <| .new rfl <| .nil)
    replace hrow_r := hrow_r.mono hle5
    have hlh5 := hlh4.trans hle5
    clear hst4 hfr4 hk5
    refine hK8 _ _ ?_; clear hK8
    refine seq_any fun _ hK10 => ?_
    have hiA : Ints m5 ro aa.length rp aa := Ints.of_row (by simpa [intV] using hrow_r) rfl hcap_r (by omega)
    refine rp0 hst5 hfr5 (.cons rfl (ob_move rfl) <| .cons rfl (ob_move rfl) <| .cons rfl (ob_callE rfl (.cons rfl <| .cons rfl <| .nil) Tryz.call79 (fun w m hK => by have hle_ := KC.le hK; have hA := KC.agree hK; have hiA := hiA.mono hle_; exact containsI_c hA hiA)) <| .cons rfl (ob_not rfl) <| .nil) ?_
    intro a6 w6 m6 hst6 hle6 hk6
    have hfr6 := hk6.fr (T' := [(0, _), (9, _), (7, _), (8, _), (6, _), (16, _)]) (.old rfl rfl <| .old rfl rfl <| .old rfl rfl <| .old rfl rfl <| .old rfl rfl <| .new rfl <| .nil)
    replace hrow_r := hrow_r.mono hle6
    have hlh6 := hlh5.trans hle6
    clear hst5 hfr5 hk6
    refine hK10 _ _ ?_; clear hK10
    refine cond_any hfr6 rfl rfl (fun hb16 => ?_) (fun hb16 => ?_)
    · try simp only [nq1, nq2, nq3, nq4, nq5, nq6, nq7, nq8, nq9, u8_eq] at hb16
      have hwi := withI_out hb16
      refine ra0 (tch := [(3, 0, (fun v => .row v _ _ _ _))]) hst6 hfr6 (.cons rfl (ob_move rfl) <| .cons rfl (ob_move rfl) <| .cons rfl (ob_buildSlice (.cons rfl <| .nil) Tryz.underlying32 Tryz.sizeOf3 Tryz.zeroValue3 rfl rfl rfl rfl) <| .consT rfl rfl (fun _ => rfl) rfl (ob_imgT 19 rfl rfl rfl fun y19 => ob_append (size := 1) (bytes := 8) rfl rfl Tryz.underlying32 Tryz.type3 rfl rfl rfl rfl (fun w m hK => .inr ⟨_, rfl, hK.2⟩) rfl (by decide) rfl (by simp only [maxLen]; omega) (by omega)) <| .consA 20 rfl rfl <| .nil) ?_
      intro a7 w7 m7 hst7 hle7 hk7
      have hfr7 := hk7.fr (T' := [(9, _), (7, _), (8, _)]) (.old rfl rfl <| .old rfl rfl <| .old rfl rfl <| .nil)
      obtain ⟨⟨ro2, rp2⟩, e11, hrow2_r, hcap2_r⟩ := hk7.ex 20 rfl
      replace hfr7 := hfr7.cons (hk7.same 0 rfl e11)
      replace hst7 := hst7.fin (L' := [_]) (.cons e11 <| .nil)
      have hlh7 := hlh6.trans hle7
      clear hst6 hfr6 hk7
      have hcap9 : (withI aa x9).length ≤ rp2 := by rw [hwi]; simpa using hcap2_r
      have e9 : aa.map intV ++ [Value.int .i64 x9] = (withI aa x9).map intV := by rw [hwi]; simp
      have e8 : aa.length + 1 = (withI aa x9).length := by rw [hwi]; simp
      have hrow9 : RowAt m7 ro2 ((withI aa x9).map intV) := by rw [← e9]; exact hrow2_r
      change St _ _ _ [.row _ (aa.length + 1) 1 3 (aa.map intV ++ [Value.int .i64 x9])] _ _ at hst7
      rw [e9, e8] at hst7
      rw [e8] at hfr7
      refine hK7 _ _ ?_; clear hK7
      refine rp0 hst7 hfr7 (.cons rfl (ob_add rfl rfl ⟨by omega, by omega⟩) <| .cons rfl (ob_move rfl) <| .nil) ?_
      intro a8 w8 m8 hst8 hle8 hk8
      have hfr8 := hk8.fr (T' := [(7, _), (8, _), (0, _), (9, _)]) (.old rfl rfl <| .old rfl rfl <| .old rfl rfl <| .new rfl <| .nil)
      replace hrow9 := hrow9.mono hle8
      have hlh8 := hlh7.trans hle8
      clear hst7 hfr7 hk8
      exact ⟨(y + 1, withI aa x9, _, _), m8, by show ks.length - (y + 1) < ks.length - y; omega, ⟨hst8, hlh8, hfr8.sub (.cons rfl <| .cons rfl <| .cons rfl <| .cons rfl <| .nil), ⟨by show y + 1 ≤ ks.length; omega, by rw [hrem, hd9]; rfl, hrow9, hcap9, by have := withI_len aa x9; show (withI aa x9).length ≤ a.length + (y + 1); omega⟩⟩⟩
    · try simp only [nq1, nq2, nq3, nq4, nq5, nq6, nq7, nq8, nq9, u8_eq] at hb16
      have hwi := withI_in (l := aa) (by simpa using hb16)
      have hcap9 : (withI aa x9).length ≤ rp := by rw [hwi]; exact hcap_r
      have hrow9 : RowAt m6 ro ((withI aa x9).map intV) := by rw [hwi]; exact hrow_r
      rw [← hwi] at hst6 hfr6
      refine wp_skip ?_
      refine hK7 _ _ ?_; clear hK7
      refine rp0 hst6 hfr6 (.cons rfl (ob_add rfl rfl ⟨by omega, by omega⟩) <| .cons rfl (ob_move rfl) <| .nil) ?_
      intro a7 w7 m7 hst7 hle7 hk7
      have hfr7 := hk7.fr (T' := [(0, _), (7, _), (8, _), (9, _)]) (.old rfl rfl <| .old rfl rfl <| .old rfl rfl <| .new rfl <| .nil)
      replace hrow9 := hrow9.mono hle7
      have hlh7 := hlh6.trans hle7
      clear hst6 hfr6 hk7
      exact ⟨(y + 1, withI aa x9, _, _), m7, by show ks.length - (y + 1) < ks.length - y; omega, ⟨hst7, hlh7, hfr7.sub (.cons rfl <| .cons rfl <| .cons rfl <| .cons rfl <| .nil), ⟨by show y + 1 ≤ ks.length; omega, by rw [hrem, hd9]; rfl, hrow9, hcap9, by have := withI_len aa x9; show (withI aa x9).length ≤ a.length + (y + 1); omega⟩⟩⟩
  · try simp only [nq1, nq2, nq3, nq4, nq5, nq6, nq7, nq8, nq9, u8_eq] at hb10
    have hge : y = ks.length := by omega
    rw [List.drop_of_length_le (by omega)] at hrem
    simp only [List.foldl_nil] at hrem
    refine wp_exit ?_
    refine hK2 _ _ ?_; clear hK2
    refine seq_any fun _ hK12 => ?_
    refine rp0 hst4 hfr4 (.cons rfl (ob_move rfl) <| .cons rfl (ob_assign rfl) <| .nil) ?_
    intro a5 w5 m5 hst5 hle5 hk5
    have hfr5 := hk5.fr (T' := [(0, _), (9, _), (4, _)]) (.old rfl rfl <| .old rfl rfl <| .new rfl <| .nil)
    replace hrow_r := hrow_r.mono hle5
    have hlh5 := hlh4.trans hle5
    clear hst4 hfr4 hk5
    refine hK12 _ _ ?_; clear hK12
    refine wp_ret ?_
    repeat (with_reducible first | refine then_ret ?_ | refine block_ret ?_)
    exact fn_ret hst5 hfr5 rfl (.tmp rfl <| .nil) (⟨by rw [hrem]; exact hst5.loc, (ro, rp), by rw [hrem]; rfl, by rw [hrem]; exact ⟨hrow_r, hcap_r⟩⟩)

theorem with_c {w : World} {m : Mem} {v : Value} {a ks : List Int} {o : Option Addr} {c : Nat} (hA : Agree w m) (hr : (Res.row v (a).length 1 3 ((a).map intV)).holds w m) (hk : Ints m o ks.length c ks) (hbig : a.length + ks.length ≤ 1073741824) :
    Calls Tryz.prog 113 #[v, .slice o ks.length c] w fun e w' => ∃ v' m', e = .returned v' ∧ Touch (.row v (a).length 1 3 ((a).map intV)) (.row v' (ks.foldl withI a).length 1 3 ((ks.foldl withI a).map intV)) w m w' m' ∧ (Kn.ex (MP.sl (ks.foldl withI a).length ((ks.foldl withI a).map intV))).holds m' v' :=
  Calls.mono (with_g hA hr hk hbig) fun e w' ⟨v', m', e1, hE, hL, hv⟩ => ⟨v', m', e1, touch_of hE hL, hv⟩

abbrev walk_G (t : Ty) : Prop := ∀ {w : World} {m : Mem} {g : Nat} {v1 v2 : Value} {a b : List Int} {vs_t : List Value} (hA : Agree w m) (hL : Loc (([.blk (.pointer (some ⟨g, 0, none⟩)) (.cells #[v1, v2] 124), .row v1 (a).length 1 3 ((a).map intV), .row v2 (b).length 1 3 ((b).map intV)]).flatMap Res.blocks) w.heap.size [.blk (.pointer (some ⟨g, 0, none⟩)) (.cells #[v1, v2] 124), .row v1 (a).length 1 3 ((a).map intV), .row v2 (b).length 1 3 ((b).map intV)] w m) (h_t : TyR m t vs_t) (hbig : a.length + b.length + 2 * cntT t ≤ 1073741824), FnG Tryz.prog 95 #[.pointer (some ⟨g, 0, none⟩), .agg vs_t.toArray] (([.blk (.pointer (some ⟨g, 0, none⟩)) (.cells #[v1, v2] 124), .row v1 (a).length 1 3 ((a).map intV), .row v2 (b).length 1 3 ((b).map intV)]).flatMap Res.blocks) w m (fun w' m' _ => ∃ rs', Loc (([.blk (.pointer (some ⟨g, 0, none⟩)) (.cells #[v1, v2] 124), .row v1 (a).length 1 3 ((a).map intV), .row v2 (b).length 1 3 ((b).map intV)]).flatMap Res.blocks) w.heap.size rs' w' m' ∧ ∃ u1 u2, rs' = [.blk (.pointer (some ⟨g, 0, none⟩)) (.cells #[u1, u2] 124), .row u1 ((walkT t (a, b)).1).length 1 3 (((walkT t (a, b)).1).map intV), .row u2 ((walkT t (a, b)).2).length 1 3 (((walkT t (a, b)).2).map intV)])
set_option maxHeartbeats 400000 in
theorem walk_s {t : Ty} (ih : ∀ u ∈ t.args, walk_G u) {w : World} {m : Mem} {g : Nat} {v1 v2 : Value} {a b : List Int} {vs_t : List Value} (hA : Agree w m) (hL : Loc (([.blk (.pointer (some ⟨g, 0, none⟩)) (.cells #[v1, v2] 124), .row v1 (a).length 1 3 ((a).map intV), .row v2 (b).length 1 3 ((b).map intV)]).flatMap Res.blocks) w.heap.size [.blk (.pointer (some ⟨g, 0, none⟩)) (.cells #[v1, v2] 124), .row v1 (a).length 1 3 ((a).map intV), .row v2 (b).length 1 3 ((b).map intV)] w m) (h_t : TyR m t vs_t) (hbig : a.length + b.length + 2 * cntT t ≤ 1073741824) : FnG Tryz.prog 95 #[.pointer (some ⟨g, 0, none⟩), .agg vs_t.toArray] (([.blk (.pointer (some ⟨g, 0, none⟩)) (.cells #[v1, v2] 124), .row v1 (a).length 1 3 ((a).map intV), .row v2 (b).length 1 3 ((b).map intV)]).flatMap Res.blocks) w m (fun w' m' _ => ∃ rs', Loc (([.blk (.pointer (some ⟨g, 0, none⟩)) (.cells #[v1, v2] 124), .row v1 (a).length 1 3 ((a).map intV), .row v2 (b).length 1 3 ((b).map intV)]).flatMap Res.blocks) w.heap.size rs' w' m' ∧ ∃ u1 u2, rs' = [.blk (.pointer (some ⟨g, 0, none⟩)) (.cells #[u1, u2] 124), .row u1 ((walkT t (a, b)).1).length 1 3 (((walkT t (a, b)).1).map intV), .row u2 ((walkT t (a, b)).2).length 1 3 (((walkT t (a, b)).2).map intV)]) := by
  obtain ⟨o1, c1, rfl, -, -, -, -⟩ := Res.row_at (hL.at_ (k := 1) rfl)
  obtain ⟨o2, c2, rfl, -, -, -, -⟩ := Res.row_at (hL.at_ (k := 2) rfl)
  have hce := cntT_eq t
  obtain ⟨o_t, c_t, oL_t, cL_t, rfl, hk_t, hs_t, hi_t, hj_t, hr_t⟩ := h_t.open_
  have hbg_t := hk_t.big; have hcp_t := hk_t.cap; have hbs_t := hs_t.big; have hcs_t := hs_t.cap
  have hrw_t : RwR _ ⟨t.labels, t.rv⟩ _ := ⟨_, _, rfl, hs_t, hr_t⟩
  refine fn_enter (vs := [_, _]) Tryz.func95 rfl rfl rfl fun a0 hfr0 => ?_
  have hst0 := st_enter hA hL
  have hM : MLe m m := MLe.refl m
  refine seq_any fun _ hK1 => ?_
  refine rp0 hst0 hfr0 (.cons rfl (ob_box rfl rfl) <| .nil) ?_
  intro a1 w1 m1 hst1 hle1 hk1
  have hfr1 := hk1.fr (T' := [(0, _)]) (.old rfl rfl <| .nil)
  obtain ⟨g2, e2, hc3⟩ := hk1.ex 3 rfl
  replace hfr1 := hfr1.cons e2
  replace h_t := h_t.mono hle1
  replace hk_t := hk_t.mono hle1
  replace hs_t := hs_t.mono hle1
  replace hrw_t := hrw_t.mono hle1
  replace hM := hM.trans hle1
  clear hst0 hfr0 hk1
  refine hK1 _ _ ?_; clear hK1
  refine seq_any fun _ hK3 => ?_
  refine seq_any fun _ hK4 => ?_
  refine rp0 hst1 hfr1 (.cons rfl (ob_fieldAddrO (off := 0) rfl Tryz.underlying45 rfl rfl Tryz.sizeOf3 rfl) <| .cons rfl (ob_load1 rfl hc3 Tryz.isAgg3 rfl) <| .cons rfl (ob_eql rfl rfl) <| .nil) ?_
  intro a2 w2 m2 hst2 hle2 hk2
  have hfr2 := hk2.fr (T' := [(0, _), (3, _), (8, _)]) (.old rfl rfl <| .old rfl rfl <| .new rfl <| .nil)
  replace h_t := h_t.mono hle2
  replace hk_t := hk_t.mono hle2
  replace hs_t := hs_t.mono hle2
  replace hrw_t := hrw_t.mono hle2
  replace hc3 := hc3.mono hle2
  replace hM := hM.trans hle2
  clear hst1 hfr1 hk2
  refine hK4 _ _ ?_; clear hK4
  refine cond_any hfr2 rfl rfl (fun hb8 => ?_) (fun hb8 => ?_)
  · try simp only [nq1, nq2, nq3, nq4, nq5, nq6, nq7, nq8, nq9, u8_eq] at hb8
    refine region_any (tch := [(8, 1, (fun v => .row v (withI a t.var).length 1 3 ((withI a t.var).map intV))), (11, 0, (fun u => .blk _ (.cells (_ ++ [u] ++ _).toArray _)))]) (fun _ => mixed) hst2 hfr2 (by kernel_rfl) (by kernel_rfl) (by kernel_rfl) (.cons rfl (ob_move rfl) <| .cons rfl (ob_move rfl) <| .cons rfl (ob_nilCheck rfl) <| .cons rfl (ob_fieldAddrO (off := 0) rfl Tryz.underlying124 rfl rfl Tryz.sizeOf32 rfl) <| .cons rfl (ob_loadL (j := 0) rfl rfl Tryz.isAgg32 rfl) <| .cons rfl (ob_fieldAddrO (off := 2) rfl Tryz.underlying45 rfl rfl Tryz.sizeOf3 rfl) <| .cons rfl (ob_load1 rfl hc3 Tryz.isAgg3 rfl) <| .cons rfl (ob_buildSlice (.cons rfl <| .nil) Tryz.underlying32 Tryz.sizeOf3 Tryz.zeroValue3 rfl rfl rfl rfl) <| .consT rfl rfl (fun _ => rfl) rfl (ob_imgT 16 rfl rfl rfl fun y16 => ob_callT rfl (.cons rfl <| .cons rfl <| .nil) Tryz.call113 (κ := .ex (MP.sl (withI a t.var).length ((withI a t.var).map intV))) (fun σ w m hK hr hkn => by have hle_ := KC.le hK; have hA := KC.agree hK; have hM := hM.trans hle_; have hr0_ := hK.2; have h_t := h_t.mono hle_; have hk_t := hk_t.mono hle_; have hs_t := hs_t.mono hle_; have hrw_t := hrw_t.mono hle_; have hc3 := hc3.mono hle_; exact with_c (ks := [t.var]) hA hr (Sl.one hr0_ rfl rfl) (by simp only [List.length_cons, List.length_nil]; omega))) <| .cons rfl (ob_nilCheck rfl) <| .cons rfl (ob_fieldAddrO (off := 0) rfl Tryz.underlying124 rfl rfl Tryz.sizeOf32 rfl) <| .consT rfl rfl (fun _ => rfl) rfl (ob_imgT 17 rfl rfl rfl fun y17 => ob_storeV rfl rfl rfl rfl rfl Tryz.sizeOf32 rfl rfl rfl) <| .nil) ?_
    intro a3 w3 m3 hst3 hle3 hk3
    have hfr3 := hk3.fr (T' := [(0, _), (3, _)]) (.old rfl rfl <| .old rfl rfl <| .nil)
    obtain ⟨⟨Ao2, Ap2⟩, e5, hrow2_A, hcap2_A⟩ := hk3.ex 17 rfl
    replace hst3 := hst3.fin (L' := [_, _, _]) (.cons e5 <| .cons e5 <| .nil)
    replace h_t := h_t.mono hle3
    replace hk_t := hk_t.mono hle3
    replace hs_t := hs_t.mono hle3
    replace hrw_t := hrw_t.mono hle3
    replace hc3 := hc3.mono hle3
    replace hM := hM.trans hle3
    clear hst2 hfr2 hk3
    obtain ⟨aa, haa⟩ : ∃ aa, aa = withI a t.var := ⟨_, rfl⟩
    rw [← haa] at hst3
    refine hK3 _ _ ?_; clear hK3
    refine seq_any fun _ hK6 => ?_
    refine rp0 hst3 hfr3 (.cons rfl (ob_fieldAddrO (off := 3) rfl Tryz.underlying45 rfl rfl Tryz.sizeOf33 rfl) <| .cons rfl (ob_load1 rfl hc3 Tryz.isAgg33 rfl) <| .cons rfl (ob_len rfl Tryz.underlying33) <| .cons rfl (ob_move rfl) <| .nil) ?_
    intro a4 w4 m4 hst4 hle4 hk4
    have hfr4 := hk4.fr (T' := [(0, _), (3, _), (21, _), (22, _), (23, _)]) (.old rfl rfl <| .old rfl rfl <| .new rfl <| .new rfl <| .new rfl <| .nil)
    replace h_t := h_t.mono hle4
    replace hk_t := hk_t.mono hle4
    replace hs_t := hs_t.mono hle4
    replace hrw_t := hrw_t.mono hle4
    replace hc3 := hc3.mono hle4
    replace hrow2_A := hrow2_A.mono hle4
    replace hM := hM.trans hle4
    clear hst3 hfr3 hk4
    refine hK6 _ _ ?_; clear hK6
    refine wp_block ?_
    refine loop_any (T := [(0, _), (3, _), (21, _), (22, _)]) (fun (y : Nat × (List Int × List Int) × (Option Addr × Nat) × (Option Addr × Nat)) => ([(23, .int .i64 (y.1 : Int))] : List (Nat × Value))) (fun y => [.blk (.pointer (some ⟨g, 0, none⟩)) (.cells #[.slice y.2.2.1.1 y.2.1.1.length y.2.2.1.2, .slice y.2.2.2.1 y.2.1.2.length y.2.2.2.2] 124), .row (.slice y.2.2.1.1 y.2.1.1.length y.2.2.1.2) (y.2.1.1).length 1 3 ((y.2.1.1).map intV), .row (.slice y.2.2.2.1 y.2.1.2.length y.2.2.2.2) (y.2.1.2).length 1 3 ((y.2.1.2).map intV)]) (fun (y : Nat × (List Int × List Int) × (Option Addr × Nat) × (Option Addr × Nat)) m => (fun (y : Nat) (s : List Int × List Int) => y ≤ t.args.length ∧ walkT t (a, b) = walkTs t.kind t.rv y (t.args.drop y) s ∧ room s + 2 * cntTs (t.args.drop y) + (if y = 0 then 1 else 0) ≤ 1073741824) y.1 y.2.1) (fun y => t.args.length - y.1) ((0, (aa, b), (_, _), (_, _))) ⟨hst4, MLe.refl _, hfr4.sub (.cons rfl <| .cons rfl <| .cons rfl <| .cons rfl <| .cons rfl <| .nil), ⟨Nat.zero_le _, by rw [walkT_eq]; rw [haa]; simp [hb8], by have := withI_len a t.var; have h7 : (aa).length ≤ a.length + 1 := (by rw [haa]; omega); simp only [room, List.drop_zero, if_true]; omega⟩⟩ fun y a5 w5 m5 hh5 => ?_
    have hst5 := hh5.st; have hle5 := hh5.le; have hfr5 := hh5.fr; have hrel := hh5.rel; clear hh5
    replace h_t := h_t.mono hle5
    replace hk_t := hk_t.mono hle5
    replace hs_t := hs_t.mono hle5
    replace hrw_t := hrw_t.mono hle5
    replace hc3 := hc3.mono hle5
    replace hrow2_A := hrow2_A.mono hle5
    clear hst4 hfr4
    replace hM := hM.trans hle5
    obtain ⟨y, s, ⟨q1, d1⟩, ⟨q2, d2⟩⟩ := y
    dsimp only at hrel hfr5 hst5
    obtain ⟨hyn, hrem, hroom⟩ := hrel
    have hlh5 := hle5
    refine seq_any fun _ hK8 => ?_
    refine rp0 hst5 hfr5 (.cons rfl (ob_lss rfl rfl) <| .nil) ?_
    intro a6 w6 m6 hst6 hle6 hk6
    have hfr6 := hk6.fr (T' := [(23, _), (0, _), (3, _), (21, _), (22, _), (24, _)]) (.old rfl rfl <| .old rfl rfl <| .old rfl rfl <| .old rfl rfl <| .old rfl rfl <| .new rfl <| .nil)
    replace h_t := h_t.mono hle6
    replace hk_t := hk_t.mono hle6
    replace hs_t := hs_t.mono hle6
    replace hrw_t := hrw_t.mono hle6
    replace hc3 := hc3.mono hle6
    replace hrow2_A := hrow2_A.mono hle6
    have hlh6 := hlh5.trans hle6
    replace hM := hM.trans hle6
    clear hst5 hfr5 hk6
    refine hK8 _ _ ?_; clear hK8
    refine seq_any fun _ hK9 => ?_
    refine cond_any hfr6 rfl rfl (fun hb24 => ?_) (fun hb24 => ?_)
    · try simp only [nq1, nq2, nq3, nq4, nq5, nq6, nq7, nq8, nq9, u8_eq] at hb24
      refine wp_skip ?_
      refine hK9 _ _ ?_; clear hK9
      refine seq_any fun _ hK10 => ?_
      refine wp_block ?_
      refine seq_any fun _ hK11 => ?_
      obtain ⟨p12, vs12, x12, ho12, hd12, hm_x12, ht12, hcv12, hl12, hv12⟩ := hk_t.nth (k := y) (by omega)
      cases ho12
      obtain ⟨o12, c12, oL12, cL12, rfl, hkd12, hs12, hi12, hj12, hr12⟩ := hv12.open_
      have hbg12 := hkd12.big; have hcp12 := hkd12.cap; have hbs12 := hs12.big; have hcs12 := hs12.cap
      have hrw12 : RwR _ ⟨x12.labels, x12.rv⟩ _ := ⟨_, _, rfl, hs12, hr12⟩
      replace hst6 := hst6.more (r := .free) trivial List.nodup_nil (by simp [Res.blocks])
      refine ra0 (tch := [(3, 3, (fun v => .blk v _)), (5, 3, (fun v => .blk v _))]) hst6 hfr6 (.cons rfl (ob_move rfl) <| .cons rfl (ob_indexAddr (k := y) rfl rfl Tryz.underlying33 Tryz.sizeOf45 rfl (by omega)) <| .cons rfl (ob_loadS' rfl hcv12 Tryz.isAgg45 Tryz.sizeOf45 rfl rfl) <| .consT rfl rfl (fun _ => rfl) rfl (ob_allocL Tryz.zeroValue45 rfl) <| .cons rfl (ob_assign rfl) <| .consT rfl rfl (fun _ => rfl) rfl (ob_imgT 5 rfl rfl rfl fun y5 => ob_storeF rfl rfl rfl rfl rfl Tryz.sizeOf45 rfl rfl rfl) <| .nil) ?_
      intro a7 w7 m7 hst7 hle7 hk7
      have hfr7 := hk7.fr (T' := [(23, _), (0, _), (3, _), (21, _), (22, _), (4, _)]) (.old rfl rfl <| .old rfl rfl <| .old rfl rfl <| .old rfl rfl <| .old rfl rfl <| .new rfl <| .nil)
      obtain ⟨g13, e13, _⟩ := hk7.ex 5 rfl
      replace hfr7 := hfr7.cons e13
      replace hst7 := hst7.fin (L' := [_, _, _, _]) (.cons e13 <| .cons e13 <| .nil)
      replace h_t := h_t.mono hle7
      replace hk_t := hk_t.mono hle7
      replace hs_t := hs_t.mono hle7
      replace hrw_t := hrw_t.mono hle7
      replace hc3 := hc3.mono hle7
      replace hrow2_A := hrow2_A.mono hle7
      replace hcv12 := hcv12.mono hle7
      replace hv12 := hv12.mono hle7
      replace hkd12 := hkd12.mono hle7
      replace hs12 := hs12.mono hle7
      replace hrw12 := hrw12.mono hle7
      have hlh7 := hlh6.trans hle7
      replace hM := hM.trans hle7
      clear hst6 hfr6 hk7
      rw [hd12, walkTs_cons] at hrem
      rw [hd12, cntTs] at hroom
      refine hK11 _ _ ?_; clear hK11
      refine seq_any fun _ hK14 => ?_
      refine region_cut 2 (by kernel_rfl) ?_
      refine ops_seq (tch := []) hst7 hfr7 (by kernel_rfl) (by kernel_rfl) (by kernel_rfl) (.cons rfl (ob_move rfl) <| .cons rfl (ob_loadLS' (j := 3) rfl rfl Tryz.isAgg45 Tryz.sizeOf45 rfl rfl) <| .nil) ?_
      intro a8 w8 m8 hst8 hle8 hk8
      have hfr8 := hk8.fr (T' := [(23, _), (0, _), (3, _), (21, _), (22, _), (4, _), (5, _), (28, _), (29, _)]) (.old rfl rfl <| .old rfl rfl <| .old rfl rfl <| .old rfl rfl <| .old rfl rfl <| .old rfl rfl <| .old rfl rfl <| .new rfl <| .new rfl <| .nil)
      replace h_t := h_t.mono hle8
      replace hk_t := hk_t.mono hle8
      replace hs_t := hs_t.mono hle8
      replace hrw_t := hrw_t.mono hle8
      replace hc3 := hc3.mono hle8
      replace hrow2_A := hrow2_A.mono hle8
      replace hcv12 := hcv12.mono hle8
      replace hv12 := hv12.mono hle8
      replace hkd12 := hkd12.mono hle8
      replace hs12 := hs12.mono hle8
      replace hrw12 := hrw12.mono hle8
      have hlh8 := hlh7.trans hle8
      replace hM := hM.trans hle8
      clear hst7 hfr7 hk8
      refine call_res [] [_] [_, _, _] hst8 hfr8 rfl (.cons rfl <| .cons rfl <| .nil) Tryz.call95 (ih x12 hm_x12 hst8.agree (hst8.sub (A := []) (B := [_]) (rs := [_, _, _])) hv12 (by simp only [room] at hroom; omega)) ?_
      intro vr9 w9 m9 rs9 hst9 hle9 hp9
      obtain ⟨u1, u2, rfl⟩ := hp9
      simp only [List.nil_append, List.cons_append] at hst9
      obtain ⟨q3, d3, rfl, -, -, -, -⟩ := Res.row_at (hst9.loc.at_ (k := 1) rfl)
      obtain ⟨q4, d4, rfl, -, -, -, -⟩ := Res.row_at (hst9.loc.at_ (k := 2) rfl)
      have h9 := walk_room x12 s
      have h9b : (walkT x12 (s.1, s.2)).1.length + (walkT x12 (s.1, s.2)).2.length ≤ room s + 2 * cntT x12 := walk_room x12 s
      have hfr9 := (hfr8.sub (T' := [(23, _), (0, _), (3, _), (21, _), (22, _), (4, _), (5, _), (28, _), (29, _)]) (.cons rfl <| .cons rfl <| .cons rfl <| .cons rfl <| .cons rfl <| .cons rfl <| .cons rfl <| .cons rfl <| .cons rfl <| .nil)).put (d := 30) (v := vr9) (by kernel_rfl) rfl
      replace h_t := h_t.mono hle9
      replace hk_t := hk_t.mono hle9
      replace hs_t := hs_t.mono hle9
      replace hrw_t := hrw_t.mono hle9
      replace hc3 := hc3.mono hle9
      replace hrow2_A := hrow2_A.mono hle9
      replace hcv12 := hcv12.mono hle9
      replace hv12 := hv12.mono hle9
      replace hkd12 := hkd12.mono hle9
      replace hs12 := hs12.mono hle9
      replace hrw12 := hrw12.mono hle9
      have hlh9 := hlh8.trans hle9
      replace hM := hM.trans hle9
      clear hst8 hfr8
      refine hK14 _ _ ?_; clear hK14
      refine seq_any fun _ hK15 => ?_
      refine rp0 hst9 hfr9 (.cons rfl (ob_move rfl) <| .cons rfl (ob_eql rfl rfl) <| .cons rfl (ob_move rfl) <| .cons rfl (ob_fieldAddrO (off := 0) rfl Tryz.underlying45 rfl rfl Tryz.sizeOf3 rfl) <| .cons rfl (ob_load1 rfl hc3 Tryz.isAgg3 rfl) <| .cons rfl (ob_eql rfl rfl) <| .cons rfl (ob_and rfl rfl rfl) <| .cons rfl (ob_move rfl) <| .cons rfl (ob_fieldAddrO (off := 4) rfl Tryz.underlying45 rfl rfl Tryz.sizeOf43 rfl) <| .cons rfl (ob_fieldAddrO (off := 1) rfl Tryz.underlying43 rfl rfl Tryz.sizeOf3 rfl) <| .cons rfl (ob_load1 rfl (hc3.drop 4) Tryz.isAgg3 rfl) <| .cons rfl (ob_gtr rfl rfl) <| .cons rfl (ob_and rfl rfl rfl) <| .nil) ?_
      intro a10 w10 m10 hst10 hle10 hk10
      have hfr10 := hk10.fr (T' := [(23, _), (0, _), (3, _), (21, _), (22, _), (43, _)]) (.old rfl rfl <| .old rfl rfl <| .old rfl rfl <| .old rfl rfl <| .old rfl rfl <| .new rfl <| .nil)
      replace h_t := h_t.mono hle10
      replace hk_t := hk_t.mono hle10
      replace hs_t := hs_t.mono hle10
      replace hrw_t := hrw_t.mono hle10
      replace hc3 := hc3.mono hle10
      replace hrow2_A := hrow2_A.mono hle10
      replace hcv12 := hcv12.mono hle10
      replace hv12 := hv12.mono hle10
      replace hkd12 := hkd12.mono hle10
      replace hs12 := hs12.mono hle10
      replace hrw12 := hrw12.mono hle10
      have hlh10 := hlh9.trans hle10
      replace hM := hM.trans hle10
      clear hst9 hfr9 hk10
      refine hK15 _ _ ?_; clear hK15
      refine cond_any hfr10 rfl rfl (fun hb43 => ?_) (fun hb43 => ?_)
      · try simp only [nq1, nq2, nq3, nq4, nq5, nq6, nq7, nq8, nq9, u8_eq] at hb43
        rw [if_pos (show y = 0 by omega)] at hroom
        refine region_any (tch := [(9, 2, (fun v => .row v (withI (walkT x12 s).2 t.rv).length 1 3 ((withI (walkT x12 s).2 t.rv).map intV))), (12, 0, (fun u => .blk _ (.cells (_ ++ [u] ++ _).toArray _)))]) (fun _ => mixed) hst10 hfr10 (by kernel_rfl) (by kernel_rfl) (by kernel_rfl) (.cons rfl (ob_move rfl) <| .cons rfl (ob_move rfl) <| .cons rfl (ob_nilCheck rfl) <| .cons rfl (ob_fieldAddrO (off := 1) rfl Tryz.underlying124 rfl rfl Tryz.sizeOf32 rfl) <| .cons rfl (ob_loadL (j := 0) rfl rfl Tryz.isAgg32 rfl) <| .cons rfl (ob_fieldAddrO (off := 4) rfl Tryz.underlying45 rfl rfl Tryz.sizeOf43 rfl) <| .cons rfl (ob_fieldAddrO (off := 1) rfl Tryz.underlying43 rfl rfl Tryz.sizeOf3 rfl) <| .cons rfl (ob_load1 rfl (hc3.drop 4) Tryz.isAgg3 rfl) <| .cons rfl (ob_buildSlice (.cons rfl <| .nil) Tryz.underlying32 Tryz.sizeOf3 Tryz.zeroValue3 rfl rfl rfl rfl) <| .consT rfl rfl (fun _ => rfl) rfl (ob_imgT 52 rfl rfl rfl fun y52 => ob_callT rfl (.cons rfl <| .cons rfl <| .nil) Tryz.call113 (κ := .ex (MP.sl (withI (walkT x12 s).2 t.rv).length ((withI (walkT x12 s).2 t.rv).map intV))) (fun σ w m hK hr hkn => by have hle_ := KC.le hK; have hA := KC.agree hK; have hM := hM.trans hle_; have hr0_ := hK.2; have h_t := h_t.mono hle_; have hk_t := hk_t.mono hle_; have hs_t := hs_t.mono hle_; have hrw_t := hrw_t.mono hle_; have hc3 := hc3.mono hle_; have hrow2_A := hrow2_A.mono hle_; have hcv12 := hcv12.mono hle_; have hv12 := hv12.mono hle_; have hkd12 := hkd12.mono hle_; have hs12 := hs12.mono hle_; have hrw12 := hrw12.mono hle_; exact with_c (ks := [t.rv]) hA hr (Sl.one hr0_ rfl rfl) (by have h9 : (walkT x12 s).1.length + (walkT x12 s).2.length ≤ room s + 2 * cntT x12 := walk_room x12 s; simp only [List.length_cons, List.length_nil]; omega))) <| .cons rfl (ob_nilCheck rfl) <| .cons rfl (ob_fieldAddrO (off := 1) rfl Tryz.underlying124 rfl rfl Tryz.sizeOf32 rfl) <| .consT rfl rfl (fun _ => rfl) rfl (ob_imgT 53 rfl rfl rfl fun y53 => ob_storeV rfl rfl rfl rfl rfl Tryz.sizeOf32 rfl rfl rfl) <| .nil) ?_
        intro a11 w11 m11 hst11 hle11 hk11
        have hfr11 := hk11.fr (T' := [(23, _), (0, _), (3, _), (21, _), (22, _)]) (.old rfl rfl <| .old rfl rfl <| .old rfl rfl <| .old rfl rfl <| .old rfl rfl <| .nil)
        obtain ⟨⟨Bo2, Bp2⟩, e16, hrow2_B, hcap2_B⟩ := hk11.ex 53 rfl
        replace hst11 := hst11.fin (L' := [_, _, _, _]) (.cons e16 <| .cons e16 <| .nil)
        have hlh11 := hlh10.trans hle11
        clear hst10 hfr10 hk11
        refine hK10 _ _ ?_; clear hK10
        refine rp0 hst11 hfr11 (.cons rfl (ob_add rfl rfl ⟨by omega, by omega⟩) <| .cons rfl (ob_move rfl) <| .nil) ?_
        intro a12 w12 m12 hst12 hle12 hk12
        have hfr12 := hk12.fr (T' := [(0, _), (3, _), (21, _), (22, _), (23, _)]) (.old rfl rfl <| .old rfl rfl <| .old rfl rfl <| .old rfl rfl <| .new rfl <| .nil)
        have hlh12 := hlh11.trans hle12
        clear hst11 hfr11 hk12
        have hst12 := hst12.take 3
        exact ⟨(y + 1, ((walkT x12 s).1, withI (walkT x12 s).2 t.rv), (q3, d3), (Bo2, Bp2)), m12, by show t.args.length - (y + 1) < t.args.length - y; omega, ⟨hst12, hlh12, hfr12.sub (.cons rfl <| .cons rfl <| .cons rfl <| .cons rfl <| .cons rfl <| .nil), ⟨by show y + 1 ≤ t.args.length; omega, by rw [hrem]; first | rw [if_pos (show y = 0 ∧ t.kind = 5 ∧ 0 < t.rv by omega)] | rw [if_neg (show ¬ (y = 0 ∧ t.kind = 5 ∧ 0 < t.rv) by omega)], by have h9 : (walkT x12 s).1.length + (walkT x12 s).2.length ≤ room s + 2 * cntT x12 := walk_room x12 s; have h8 := withI_len (walkT x12 s).2 t.rv; show (walkT x12 s).1.length + (withI (walkT x12 s).2 t.rv).length + 2 * cntTs (t.args.drop (y + 1)) + (if y + 1 = 0 then 1 else 0) ≤ 1073741824; rw [if_neg (Nat.succ_ne_zero y)]; omega⟩⟩⟩
      · try simp only [nq1, nq2, nq3, nq4, nq5, nq6, nq7, nq8, nq9, u8_eq] at hb43
        refine wp_skip ?_
        refine hK10 _ _ ?_; clear hK10
        refine rp0 hst10 hfr10 (.cons rfl (ob_add rfl rfl ⟨by omega, by omega⟩) <| .cons rfl (ob_move rfl) <| .nil) ?_
        intro a11 w11 m11 hst11 hle11 hk11
        have hfr11 := hk11.fr (T' := [(0, _), (3, _), (21, _), (22, _), (23, _)]) (.old rfl rfl <| .old rfl rfl <| .old rfl rfl <| .old rfl rfl <| .new rfl <| .nil)
        have hlh11 := hlh10.trans hle11
        clear hst10 hfr10 hk11
        have hst11 := hst11.take 3
        exact ⟨(y + 1, ((walkT x12 s).1, (walkT x12 s).2), (q3, d3), (q4, d4)), m11, by show t.args.length - (y + 1) < t.args.length - y; omega, ⟨hst11, hlh11, hfr11.sub (.cons rfl <| .cons rfl <| .cons rfl <| .cons rfl <| .cons rfl <| .nil), ⟨by show y + 1 ≤ t.args.length; omega, by rw [hrem]; first | rw [if_pos (show y = 0 ∧ t.kind = 5 ∧ 0 < t.rv by omega)] | rw [if_neg (show ¬ (y = 0 ∧ t.kind = 5 ∧ 0 < t.rv) by omega)], by have h9 : (walkT x12 s).1.length + (walkT x12 s).2.length ≤ room s + 2 * cntT x12 := walk_room x12 s; have h8 := withI_len (walkT x12 s).2 t.rv; show (walkT x12 s).1.length + ((walkT x12 s).2).length + 2 * cntTs (t.args.drop (y + 1)) + (if y + 1 = 0 then 1 else 0) ≤ 1073741824; rw [if_neg (Nat.succ_ne_zero y)]; omega⟩⟩⟩
    · try simp only [nq1, nq2, nq3, nq4, nq5, nq6, nq7, nq8, nq9, u8_eq] at hb24
      have hge : y = t.args.length := by omega
      rw [List.drop_of_length_le (by omega), walkTs] at hrem
      refine wp_exit ?_
      repeat (with_reducible first | refine then_exit ?_ | refine block_exit ?_ | refine block_normal ?_)
      exact fn_end hst6 hfr6 rfl (.nil) (⟨_, hst6.loc, _, _, by rw [hrem]⟩)
  · try simp only [nq1, nq2, nq3, nq4, nq5, nq6, nq7, nq8, nq9, u8_eq] at hb8
    refine wp_skip ?_
    refine hK3 _ _ ?_; clear hK3
    refine seq_any fun _ hK18 => ?_
    refine rp0 hst2 hfr2 (.cons rfl (ob_fieldAddrO (off := 3) rfl Tryz.underlying45 rfl rfl Tryz.sizeOf33 rfl) <| .cons rfl (ob_load1 rfl hc3 Tryz.isAgg33 rfl) <| .cons rfl (ob_len rfl Tryz.underlying33) <| .cons rfl (ob_move rfl) <| .nil) ?_
    intro a3 w3 m3 hst3 hle3 hk3
    have hfr3 := hk3.fr (T' := [(0, _), (3, _), (21, _), (22, _), (23, _)]) (.old rfl rfl <| .old rfl rfl <| .new rfl <| .new rfl <| .new rfl <| .nil)
    replace h_t := h_t.mono hle3
    replace hk_t := hk_t.mono hle3
    replace hs_t := hs_t.mono hle3
    replace hrw_t := hrw_t.mono hle3
    replace hc3 := hc3.mono hle3
    replace hM := hM.trans hle3
    clear hst2 hfr2 hk3
    refine hK18 _ _ ?_; clear hK18
    refine wp_block ?_
    refine loop_any (T := [(0, _), (3, _), (21, _), (22, _)]) (fun (y : Nat × (List Int × List Int) × (Option Addr × Nat) × (Option Addr × Nat)) => ([(23, .int .i64 (y.1 : Int))] : List (Nat × Value))) (fun y => [.blk (.pointer (some ⟨g, 0, none⟩)) (.cells #[.slice y.2.2.1.1 y.2.1.1.length y.2.2.1.2, .slice y.2.2.2.1 y.2.1.2.length y.2.2.2.2] 124), .row (.slice y.2.2.1.1 y.2.1.1.length y.2.2.1.2) (y.2.1.1).length 1 3 ((y.2.1.1).map intV), .row (.slice y.2.2.2.1 y.2.1.2.length y.2.2.2.2) (y.2.1.2).length 1 3 ((y.2.1.2).map intV)]) (fun (y : Nat × (List Int × List Int) × (Option Addr × Nat) × (Option Addr × Nat)) m => (fun (y : Nat) (s : List Int × List Int) => y ≤ t.args.length ∧ walkT t (a, b) = walkTs t.kind t.rv y (t.args.drop y) s ∧ room s + 2 * cntTs (t.args.drop y) + (if y = 0 then 1 else 0) ≤ 1073741824) y.1 y.2.1) (fun y => t.args.length - y.1) ((0, (a, b), (_, _), (_, _))) ⟨hst3, MLe.refl _, hfr3.sub (.cons rfl <| .cons rfl <| .cons rfl <| .cons rfl <| .cons rfl <| .nil), ⟨Nat.zero_le _, by rw [walkT_eq]; simp [hb8], by have := withI_len a t.var; have h7 : (a).length ≤ a.length + 1 := (by omega); simp only [room, List.drop_zero, if_true]; omega⟩⟩ fun y a4 w4 m4 hh4 => ?_
    have hst4 := hh4.st; have hle4 := hh4.le; have hfr4 := hh4.fr; have hrel := hh4.rel; clear hh4
    replace h_t := h_t.mono hle4
    replace hk_t := hk_t.mono hle4
    replace hs_t := hs_t.mono hle4
    replace hrw_t := hrw_t.mono hle4
    replace hc3 := hc3.mono hle4
    clear hst3 hfr3
    replace hM := hM.trans hle4
    obtain ⟨y, s, ⟨q1, d1⟩, ⟨q2, d2⟩⟩ := y
    dsimp only at hrel hfr4 hst4
    obtain ⟨hyn, hrem, hroom⟩ := hrel
    have hlh4 := hle4
    refine seq_any fun _ hK20 => ?_
    refine rp0 hst4 hfr4 (.cons rfl (ob_lss rfl rfl) <| .nil) ?_
    intro a5 w5 m5 hst5 hle5 hk5
    have hfr5 := hk5.fr (T' := [(23, _), (0, _), (3, _), (21, _), (22, _), (24, _)]) (.old rfl rfl <| .old rfl rfl <| .old rfl rfl <| .old rfl rfl <| .old rfl rfl <| .new rfl <| .nil)
    replace h_t := h_t.mono hle5
    replace hk_t := hk_t.mono hle5
    replace hs_t := hs_t.mono hle5
    replace hrw_t := hrw_t.mono hle5
    replace hc3 := hc3.mono hle5
    have hlh5 := hlh4.trans hle5
    replace hM := hM.trans hle5
    clear hst4 hfr4 hk5
    refine hK20 _ _ ?_; clear hK20
    refine seq_any fun _ hK21 => ?_
    refine cond_any hfr5 rfl rfl (fun hb24 => ?_) (fun hb24 => ?_)
    · try simp only [nq1, nq2, nq3, nq4, nq5, nq6, nq7, nq8, nq9, u8_eq] at hb24
      refine wp_skip ?_
      refine hK21 _ _ ?_; clear hK21
      refine seq_any fun _ hK22 => ?_
      refine wp_block ?_
      refine seq_any fun _ hK23 => ?_
      obtain ⟨p24, vs24, x24, ho24, hd24, hm_x24, ht24, hcv24, hl24, hv24⟩ := hk_t.nth (k := y) (by omega)
      cases ho24
      obtain ⟨o24, c24, oL24, cL24, rfl, hkd24, hs24, hi24, hj24, hr24⟩ := hv24.open_
      have hbg24 := hkd24.big; have hcp24 := hkd24.cap; have hbs24 := hs24.big; have hcs24 := hs24.cap
      have hrw24 : RwR _ ⟨x24.labels, x24.rv⟩ _ := ⟨_, _, rfl, hs24, hr24⟩
      replace hst5 := hst5.more (r := .free) trivial List.nodup_nil (by simp [Res.blocks])
      refine ra0 (tch := [(3, 3, (fun v => .blk v _)), (5, 3, (fun v => .blk v _))]) hst5 hfr5 (.cons rfl (ob_move rfl) <| .cons rfl (ob_indexAddr (k := y) rfl rfl Tryz.underlying33 Tryz.sizeOf45 rfl (by omega)) <| .cons rfl (ob_loadS' rfl hcv24 Tryz.isAgg45 Tryz.sizeOf45 rfl rfl) <| .consT rfl rfl (fun _ => rfl) rfl (ob_allocL Tryz.zeroValue45 rfl) <| .cons rfl (ob_assign rfl) <| .consT rfl rfl (fun _ => rfl) rfl (ob_imgT 5 rfl rfl rfl fun y5 => ob_storeF rfl rfl rfl rfl rfl Tryz.sizeOf45 rfl rfl rfl) <| .nil) ?_
      intro a6 w6 m6 hst6 hle6 hk6
      have hfr6 := hk6.fr (T' := [(23, _), (0, _), (3, _), (21, _), (22, _), (4, _)]) (.old rfl rfl <| .old rfl rfl <| .old rfl rfl <| .old rfl rfl <| .old rfl rfl <| .new rfl <| .nil)
      obtain ⟨g25, e25, _⟩ := hk6.ex 5 rfl
      replace hfr6 := hfr6.cons e25
      replace hst6 := hst6.fin (L' := [_, _, _, _]) (.cons e25 <| .cons e25 <| .nil)
      replace h_t := h_t.mono hle6
      replace hk_t := hk_t.mono hle6
      replace hs_t := hs_t.mono hle6
      replace hrw_t := hrw_t.mono hle6
      replace hc3 := hc3.mono hle6
      replace hcv24 := hcv24.mono hle6
      replace hv24 := hv24.mono hle6
      replace hkd24 := hkd24.mono hle6
      replace hs24 := hs24.mono hle6
      replace hrw24 := hrw24.mono hle6
      have hlh6 := hlh5.trans hle6
      replace hM := hM.trans hle6
      clear hst5 hfr5 hk6
      rw [hd24, walkTs_cons] at hrem
      rw [hd24, cntTs] at hroom
      refine hK23 _ _ ?_; clear hK23
      refine seq_any fun _ hK26 => ?_
      refine region_cut 2 (by kernel_rfl) ?_
      refine ops_seq (tch := []) hst6 hfr6 (by kernel_rfl) (by kernel_rfl) (by kernel_rfl) (.cons rfl (ob_move rfl) <| .cons rfl (ob_loadLS' (j := 3) rfl rfl Tryz.isAgg45 Tryz.sizeOf45 rfl rfl) <| .nil) ?_
      intro a7 w7 m7 hst7 hle7 hk7
      have hfr7 := hk7.fr (T' := [(23, _), (0, _), (3, _), (21, _), (22, _), (4, _), (5, _), (28, _), (29, _)]) (.old rfl rfl <| .old rfl rfl <| .old rfl rfl <| .old rfl rfl <| .old rfl rfl <| .old rfl rfl <| .old rfl rfl <| .new rfl <| .new rfl <| .nil)
      replace h_t := h_t.mono hle7
      replace hk_t := hk_t.mono hle7
      replace hs_t := hs_t.mono hle7
      replace hrw_t := hrw_t.mono hle7
      replace hc3 := hc3.mono hle7
      replace hcv24 := hcv24.mono hle7
      replace hv24 := hv24.mono hle7
      replace hkd24 := hkd24.mono hle7
      replace hs24 := hs24.mono hle7
      replace hrw24 := hrw24.mono hle7
      have hlh7 := hlh6.trans hle7
      replace hM := hM.trans hle7
      clear hst6 hfr6 hk7
      refine call_res [] [_] [_, _, _] hst7 hfr7 rfl (.cons rfl <| .cons rfl <| .nil) Tryz.call95 (ih x24 hm_x24 hst7.agree (hst7.sub (A := []) (B := [_]) (rs := [_, _, _])) hv24 (by simp only [room] at hroom; omega)) ?_
      intro vr8 w8 m8 rs8 hst8 hle8 hp8
      obtain ⟨u1, u2, rfl⟩ := hp8
      simp only [List.nil_append, List.cons_append] at hst8
      obtain ⟨q3, d3, rfl, -, -, -, -⟩ := Res.row_at (hst8.loc.at_ (k := 1) rfl)
      obtain ⟨q4, d4, rfl, -, -, -, -⟩ := Res.row_at (hst8.loc.at_ (k := 2) rfl)
      have h9 := walk_room x24 s
      have h9b : (walkT x24 (s.1, s.2)).1.length + (walkT x24 (s.1, s.2)).2.length ≤ room s + 2 * cntT x24 := walk_room x24 s
      have hfr8 := (hfr7.sub (T' := [(23, _), (0, _), (3, _), (21, _), (22, _), (4, _), (5, _), (28, _), (29, _)]) (.cons rfl <| .cons rfl <| .cons rfl <| .cons rfl <| .cons rfl <| .cons rfl <| .cons rfl <| .cons rfl <| .cons rfl <| .nil)).put (d := 30) (v := vr8) (by kernel_rfl) rfl
      replace h_t := h_t.mono hle8
      replace hk_t := hk_t.mono hle8
      replace hs_t := hs_t.mono hle8
      replace hrw_t := hrw_t.mono hle8
      replace hc3 := hc3.mono hle8
      replace hcv24 := hcv24.mono hle8
      replace hv24 := hv24.mono hle8
      replace hkd24 := hkd24.mono hle8
      replace hs24 := hs24.mono hle8
      replace hrw24 := hrw24.mono hle8
      have hlh8 := hlh7.trans hle8
      replace hM := hM.trans hle8
      clear hst7 hfr7
      refine hK26 _ _ ?_; clear hK26
      refine seq_any fun _ hK27 => ?_
      refine rp0 hst8 hfr8 (.cons rfl (ob_move rfl) <| .cons rfl (ob_eql rfl rfl) <| .cons rfl (ob_move rfl) <| .cons rfl (ob_fieldAddrO (off := 0) rfl Tryz.underlying45 rfl rfl Tryz.sizeOf3 rfl) <| .cons rfl (ob_load1 rfl hc3 Tryz.isAgg3 rfl) <| .cons rfl (ob_eql rfl rfl) <| .cons rfl (ob_and rfl rfl rfl) <| .cons rfl (ob_move rfl) <| .cons rfl (ob_fieldAddrO (off := 4) rfl Tryz.underlying45 rfl rfl Tryz.sizeOf43 rfl) <| .cons rfl (ob_fieldAddrO (off := 1) rfl Tryz.underlying43 rfl rfl Tryz.sizeOf3 rfl) <| .cons rfl (ob_load1 rfl (hc3.drop 4) Tryz.isAgg3 rfl) <| .cons rfl (ob_gtr rfl rfl) <| .cons rfl (ob_and rfl rfl rfl) <| .nil) ?_
      intro a9 w9 m9 hst9 hle9 hk9
      have hfr9 := hk9.fr (T' := [(23, _), (0, _), (3, _), (21, _), (22, _), (43, _)]) (.old rfl rfl <| .old rfl rfl <| .old rfl rfl <| .old rfl rfl <| .old rfl rfl <| .new rfl <| .nil)
      replace h_t := h_t.mono hle9
      replace hk_t := hk_t.mono hle9
      replace hs_t := hs_t.mono hle9
      replace hrw_t := hrw_t.mono hle9
      replace hc3 := hc3.mono hle9
      replace hcv24 := hcv24.mono hle9
      replace hv24 := hv24.mono hle9
      replace hkd24 := hkd24.mono hle9
      replace hs24 := hs24.mono hle9
      replace hrw24 := hrw24.mono hle9
      have hlh9 := hlh8.trans hle9
      replace hM := hM.trans hle9
      clear hst8 hfr8 hk9
      refine hK27 _ _ ?_; clear hK27
      refine cond_any hfr9 rfl rfl (fun hb43 => ?_) (fun hb43 => ?_)
      · try simp only [nq1, nq2, nq3, nq4, nq5, nq6, nq7, nq8, nq9, u8_eq] at hb43
        rw [if_pos (show y = 0 by omega)] at hroom
        refine region_any (tch := [(9, 2, (fun v => .row v (withI (walkT x24 s).2 t.rv).length 1 3 ((withI (walkT x24 s).2 t.rv).map intV))), (12, 0, (fun u => .blk _ (.cells (_ ++ [u] ++ _).toArray _)))]) (fun _ => mixed) hst9 hfr9 (by kernel_rfl) (by kernel_rfl) (by kernel_rfl) (.cons rfl (ob_move rfl) <| .cons rfl (ob_move rfl) <| .cons rfl (ob_nilCheck rfl) <| .cons rfl (ob_fieldAddrO (off := 1) rfl Tryz.underlying124 rfl rfl Tryz.sizeOf32 rfl) <| .cons rfl (ob_loadL (j := 0) rfl rfl Tryz.isAgg32 rfl) <| .cons rfl (ob_fieldAddrO (off := 4) rfl Tryz.underlying45 rfl rfl Tryz.sizeOf43 rfl) <| .cons rfl (ob_fieldAddrO (off := 1) rfl Tryz.underlying43 rfl rfl Tryz.sizeOf3 rfl) <| .cons rfl (ob_load1 rfl (hc3.drop 4) Tryz.isAgg3 rfl) <| .cons rfl (ob_buildSlice (.cons rfl <| .nil) Tryz.underlying32 Tryz.sizeOf3 Tryz.zeroValue3 rfl rfl rfl rfl) <| .consT rfl rfl (fun _ => rfl) rfl (ob_imgT 52 rfl rfl rfl fun y52 => ob_callT rfl (.cons rfl <| .cons rfl <| .nil) Tryz.call113 (κ := .ex (MP.sl (withI (walkT x24 s).2 t.rv).length ((withI (walkT x24 s).2 t.rv).map intV))) (fun σ w m hK hr hkn => by have hle_ := KC.le hK; have hA := KC.agree hK; have hM := hM.trans hle_; have hr0_ := hK.2; have h_t := h_t.mono hle_; have hk_t := hk_t.mono hle_; have hs_t := hs_t.mono hle_; have hrw_t := hrw_t.mono hle_; have hc3 := hc3.mono hle_; have hcv24 := hcv24.mono hle_; have hv24 := hv24.mono hle_; have hkd24 := hkd24.mono hle_; have hs24 := hs24.mono hle_; have hrw24 := hrw24.mono hle_; exact with_c (ks := [t.rv]) hA hr (Sl.one hr0_ rfl rfl) (by have h9 : (walkT x24 s).1.length + (walkT x24 s).2.length ≤ room s + 2 * cntT x24 := walk_room x24 s; simp only [List.length_cons, List.length_nil]; omega))) <| .cons rfl (ob_nilCheck rfl) <| .cons rfl (ob_fieldAddrO (off := 1) rfl Tryz.underlying124 rfl rfl Tryz.sizeOf32 rfl) <| .consT rfl rfl (fun _ => rfl) rfl (ob_imgT 53 rfl rfl rfl fun y53 => ob_storeV rfl rfl rfl rfl rfl Tryz.sizeOf32 rfl rfl rfl) <| .nil) ?_
        intro a10 w10 m10 hst10 hle10 hk10
        have hfr10 := hk10.fr (T' := [(23, _), (0, _), (3, _), (21, _), (22, _)]) (.old rfl rfl <| .old rfl rfl <| .old rfl rfl <| .old rfl rfl <| .old rfl rfl <| .nil)
        obtain ⟨⟨Bo2, Bp2⟩, e28, hrow2_B, hcap2_B⟩ := hk10.ex 53 rfl
        replace hst10 := hst10.fin (L' := [_, _, _, _]) (.cons e28 <| .cons e28 <| .nil)
        have hlh10 := hlh9.trans hle10
        clear hst9 hfr9 hk10
        refine hK22 _ _ ?_; clear hK22
        refine rp0 hst10 hfr10 (.cons rfl (ob_add rfl rfl ⟨by omega, by omega⟩) <| .cons rfl (ob_move rfl) <| .nil) ?_
        intro a11 w11 m11 hst11 hle11 hk11
        have hfr11 := hk11.fr (T' := [(0, _), (3, _), (21, _), (22, _), (23, _)]) (.old rfl rfl <| .old rfl rfl <| .old rfl rfl <| .old rfl rfl <| .new rfl <| .nil)
        have hlh11 := hlh10.trans hle11
        clear hst10 hfr10 hk11
        have hst11 := hst11.take 3
        exact ⟨(y + 1, ((walkT x24 s).1, withI (walkT x24 s).2 t.rv), (q3, d3), (Bo2, Bp2)), m11, by show t.args.length - (y + 1) < t.args.length - y; omega, ⟨hst11, hlh11, hfr11.sub (.cons rfl <| .cons rfl <| .cons rfl <| .cons rfl <| .cons rfl <| .nil), ⟨by show y + 1 ≤ t.args.length; omega, by rw [hrem]; first | rw [if_pos (show y = 0 ∧ t.kind = 5 ∧ 0 < t.rv by omega)] | rw [if_neg (show ¬ (y = 0 ∧ t.kind = 5 ∧ 0 < t.rv) by omega)], by have h9 : (walkT x24 s).1.length + (walkT x24 s).2.length ≤ room s + 2 * cntT x24 := walk_room x24 s; have h8 := withI_len (walkT x24 s).2 t.rv; show (walkT x24 s).1.length + (withI (walkT x24 s).2 t.rv).length + 2 * cntTs (t.args.drop (y + 1)) + (if y + 1 = 0 then 1 else 0) ≤ 1073741824; rw [if_neg (Nat.succ_ne_zero y)]; omega⟩⟩⟩
      · try simp only [nq1, nq2, nq3, nq4, nq5, nq6, nq7, nq8, nq9, u8_eq] at hb43
        refine wp_skip ?_
        refine hK22 _ _ ?_; clear hK22
        refine rp0 hst9 hfr9 (.cons rfl (ob_add rfl rfl ⟨by omega, by omega⟩) <| .cons rfl (ob_move rfl) <| .nil) ?_
        intro a10 w10 m10 hst10 hle10 hk10
        have hfr10 := hk10.fr (T' := [(0, _), (3, _), (21, _), (22, _), (23, _)]) (.old rfl rfl <| .old rfl rfl <| .old rfl rfl <| .old rfl rfl <| .new rfl <| .nil)
        have hlh10 := hlh9.trans hle10
        clear hst9 hfr9 hk10
        have hst10 := hst10.take 3
        exact ⟨(y + 1, ((walkT x24 s).1, (walkT x24 s).2), (q3, d3), (q4, d4)), m10, by show t.args.length - (y + 1) < t.args.length - y; omega, ⟨hst10, hlh10, hfr10.sub (.cons rfl <| .cons rfl <| .cons rfl <| .cons rfl <| .cons rfl <| .nil), ⟨by show y + 1 ≤ t.args.length; omega, by rw [hrem]; first | rw [if_pos (show y = 0 ∧ t.kind = 5 ∧ 0 < t.rv by omega)] | rw [if_neg (show ¬ (y = 0 ∧ t.kind = 5 ∧ 0 < t.rv) by omega)], by have h9 : (walkT x24 s).1.length + (walkT x24 s).2.length ≤ room s + 2 * cntT x24 := walk_room x24 s; have h8 := withI_len (walkT x24 s).2 t.rv; show (walkT x24 s).1.length + ((walkT x24 s).2).length + 2 * cntTs (t.args.drop (y + 1)) + (if y + 1 = 0 then 1 else 0) ≤ 1073741824; rw [if_neg (Nat.succ_ne_zero y)]; omega⟩⟩⟩
    · try simp only [nq1, nq2, nq3, nq4, nq5, nq6, nq7, nq8, nq9, u8_eq] at hb24
      have hge : y = t.args.length := by omega
      rw [List.drop_of_length_le (by omega), walkTs] at hrem
      refine wp_exit ?_
      repeat (with_reducible first | refine then_exit ?_ | refine block_exit ?_ | refine block_normal ?_)
      exact fn_end hst5 hfr5 rfl (.nil) (⟨_, hst5.loc, _, _, by rw [hrem]⟩)
theorem walk_c (t : Ty) : walk_G t := Ty.rec_ (p := walk_G) (fun t ih => walk_s ih) t

set_option maxHeartbeats 400000 in
theorem samerow_c {w : World} {m : Mem} {a : Rw} {vs_a : List Value} {b : Rw} {vs_b : List Value} (hA : Agree w m) (h_a : RwR m a vs_a) (h_b : RwR m b vs_b) : FnV Tryz.prog 76 #[.agg vs_a.toArray, .agg vs_b.toArray] w m (fun _ _ v => v = .bool (decide (a.var = b.var) && decide (a.labels = b.labels))) := by
  obtain ⟨o_a, c_a, rfl, hs_a, hr_a⟩ := h_a.open_
  have hbs_a := hs_a.big; have hcs_a := hs_a.cap
  obtain ⟨o_b, c_b, rfl, hs_b, hr_b⟩ := h_b.open_
  have hbs_b := hs_b.big; have hcs_b := hs_b.cap
  refine fn_enter (vs := [_, _]) Tryz.func76 rfl rfl rfl fun a0 hfr0 => ?_
  have hst0 := st_enter hA (loc_nil [] _ w m)
  have hM : MLe m m := MLe.refl m
  refine seq_any fun _ hK1 => ?_
  refine rp0 hst0 hfr0 (.cons rfl (ob_box rfl rfl) <| .cons rfl (ob_box rfl rfl) <| .cons rfl (ob_assign rfl) <| .nil) ?_
  intro a1 w1 m1 hst1 hle1 hk1
  have hfr1 := hk1.fr (T' := []) (.nil)
  obtain ⟨g2, e2, hc2⟩ := hk1.ex 2 rfl
  replace hfr1 := hfr1.cons e2
  obtain ⟨g3, e3, hc3⟩ := hk1.ex 3 rfl
  replace hfr1 := hfr1.cons e3
  replace h_a := h_a.mono hle1
  replace hs_a := hs_a.mono hle1
  replace h_b := h_b.mono hle1
  replace hs_b := hs_b.mono hle1
  clear hst0 hfr0 hk1
  refine hK1 _ _ ?_; clear hK1
  refine seq_any fun _ hK4 => ?_
  refine rp0 hst1 hfr1 (.cons rfl (ob_fieldAddrO (off := 1) rfl Tryz.underlying43 rfl rfl Tryz.sizeOf3 rfl) <| .cons rfl (ob_load1 rfl hc2 Tryz.isAgg3 rfl) <| .cons rfl (ob_fieldAddrO (off := 1) rfl Tryz.underlying43 rfl rfl Tryz.sizeOf3 rfl) <| .cons rfl (ob_load1 rfl hc3 Tryz.isAgg3 rfl) <| .cons rfl (ob_eql rfl rfl) <| .cons rfl (ob_move rfl) <| .cons rfl (ob_fieldAddrO (off := 0) rfl Tryz.underlying43 rfl rfl Tryz.sizeOf41 rfl) <| .cons rfl (ob_load1 rfl hc2 Tryz.isAgg41 rfl) <| .cons rfl (ob_fieldAddrO (off := 0) rfl Tryz.underlying43 rfl rfl Tryz.sizeOf41 rfl) <| .cons rfl (ob_load1 rfl hc3 Tryz.isAgg41 rfl) <| .cons rfl (ob_callE rfl (.cons rfl <| .cons rfl <| .nil) Tryz.call94 (fun w m hK => by have hle_ := KC.le hK; have hA := KC.agree hK; have h_a := h_a.mono hle_; have hs_a := hs_a.mono hle_; have h_b := h_b.mono hle_; have hs_b := hs_b.mono hle_; have hc2 := hc2.mono hle_; have hc3 := hc3.mono hle_; exact equalS_c hA (by first | assumption | omega | simp_all) (by first | assumption | omega | simp_all))) <| .cons rfl (ob_and rfl rfl rfl) <| .cons rfl (ob_assign rfl) <| .nil) ?_
  intro a2 w2 m2 hst2 hle2 hk2
  have hfr2 := hk2.fr (T' := [(4, _)]) (.new rfl <| .nil)
  clear hst1 hfr1 hk2
  refine hK4 _ _ ?_; clear hK4
  refine wp_ret ?_
  repeat (with_reducible first | refine then_ret ?_ | refine block_ret ?_)
  exact fn_ret hst2 hfr2 rfl (.tmp rfl <| .nil) (rfl)

abbrev same_G (t : Ty) : Prop := ∀ {w : World} {m : Mem} {vs_t : List Value} {u : Ty} {vs_u : List Value} (hA : Agree w m) (h_t : TyR m t vs_t) (h_u : TyR m u vs_u), FnV Tryz.prog 54 #[.agg vs_t.toArray, .agg vs_u.toArray] w m (fun _ _ v => v = .bool (sameT t u))
set_option maxHeartbeats 400000 in
theorem same_s {t : Ty} (ih : ∀ u ∈ t.args, same_G u) {w : World} {m : Mem} {vs_t : List Value} {u : Ty} {vs_u : List Value} (hA : Agree w m) (h_t : TyR m t vs_t) (h_u : TyR m u vs_u) : FnV Tryz.prog 54 #[.agg vs_t.toArray, .agg vs_u.toArray] w m (fun _ _ v => v = .bool (sameT t u)) := by
  obtain ⟨o_t, c_t, oL_t, cL_t, rfl, hk_t, hs_t, hi_t, hj_t, hr_t⟩ := h_t.open_
  have hbg_t := hk_t.big; have hcp_t := hk_t.cap; have hbs_t := hs_t.big; have hcs_t := hs_t.cap
  have hrw_t : RwR _ ⟨t.labels, t.rv⟩ _ := ⟨_, _, rfl, hs_t, hr_t⟩
  obtain ⟨o_u, c_u, oL_u, cL_u, rfl, hk_u, hs_u, hi_u, hj_u, hr_u⟩ := h_u.open_
  have hbg_u := hk_u.big; have hcp_u := hk_u.cap; have hbs_u := hs_u.big; have hcs_u := hs_u.cap
  have hrw_u : RwR _ ⟨u.labels, u.rv⟩ _ := ⟨_, _, rfl, hs_u, hr_u⟩
  refine fn_enter (vs := [_, _]) Tryz.func54 rfl rfl rfl fun a0 hfr0 => ?_
  have hst0 := st_enter hA (loc_nil [] _ w m)
  have hM : MLe m m := MLe.refl m
  refine seq_any fun _ hK1 => ?_
  refine rp0 hst0 hfr0 (.cons rfl (ob_box rfl rfl) <| .cons rfl (ob_box rfl rfl) <| .cons rfl (ob_assign rfl) <| .nil) ?_
  intro a1 w1 m1 hst1 hle1 hk1
  have hfr1 := hk1.fr (T' := []) (.nil)
  obtain ⟨g2, e2, hc2⟩ := hk1.ex 2 rfl
  replace hfr1 := hfr1.cons e2
  obtain ⟨g3, e3, hc3⟩ := hk1.ex 3 rfl
  replace hfr1 := hfr1.cons e3
  replace hk_t := hk_t.mono hle1
  replace hrw_t := hrw_t.mono hle1
  replace hk_u := hk_u.mono hle1
  replace hrw_u := hrw_u.mono hle1
  clear hst0 hfr0 hk1
  refine hK1 _ _ ?_; clear hK1
  refine seq_any fun _ hK4 => ?_
  refine rp0 hst1 hfr1 (.cons rfl (ob_fieldAddrO (off := 0) rfl Tryz.underlying45 rfl rfl Tryz.sizeOf3 rfl) <| .cons rfl (ob_load1 rfl hc2 Tryz.isAgg3 rfl) <| .cons rfl (ob_fieldAddrO (off := 0) rfl Tryz.underlying45 rfl rfl Tryz.sizeOf3 rfl) <| .cons rfl (ob_load1 rfl hc3 Tryz.isAgg3 rfl) <| .cons rfl (ob_eql rfl rfl) <| .cons rfl (ob_move rfl) <| .cons rfl (ob_fieldAddrO (off := 1) rfl Tryz.underlying45 rfl rfl Tryz.sizeOf9 rfl) <| .cons rfl (ob_load1 rfl hc2 Tryz.isAgg9 rfl) <| .cons rfl (ob_fieldAddrO (off := 1) rfl Tryz.underlying45 rfl rfl Tryz.sizeOf9 rfl) <| .cons rfl (ob_load1 rfl hc3 Tryz.isAgg9 rfl) <| .cons rfl (ob_seql rfl rfl) <| .cons rfl (ob_and rfl rfl rfl) <| .cons rfl (ob_move rfl) <| .cons rfl (ob_fieldAddrO (off := 2) rfl Tryz.underlying45 rfl rfl Tryz.sizeOf3 rfl) <| .cons rfl (ob_load1 rfl hc2 Tryz.isAgg3 rfl) <| .cons rfl (ob_fieldAddrO (off := 2) rfl Tryz.underlying45 rfl rfl Tryz.sizeOf3 rfl) <| .cons rfl (ob_load1 rfl hc3 Tryz.isAgg3 rfl) <| .cons rfl (ob_eql rfl rfl) <| .cons rfl (ob_and rfl rfl rfl) <| .cons rfl (ob_move rfl) <| .cons rfl (ob_fieldAddrO (off := 4) rfl Tryz.underlying45 rfl rfl Tryz.sizeOf43 rfl) <| .cons rfl (ob_loadS rfl hc2 Tryz.isAgg43 Tryz.sizeOf43 rfl rfl) <| .cons rfl (ob_fieldAddrO (off := 4) rfl Tryz.underlying45 rfl rfl Tryz.sizeOf43 rfl) <| .cons rfl (ob_loadS rfl hc3 Tryz.isAgg43 Tryz.sizeOf43 rfl rfl) <| .cons rfl (ob_callE rfl (.cons rfl <| .cons rfl <| .nil) Tryz.call76 (fun w m hK => by have hle_ := KC.le hK; have hA := KC.agree hK; have hrw_t := hrw_t.mono hle_; have hrw_u := hrw_u.mono hle_; exact samerow_c (a := ⟨t.labels, t.rv⟩) (b := ⟨u.labels, u.rv⟩) hA hrw_t hrw_u)) <| .cons rfl (ob_and rfl rfl rfl) <| .cons rfl (ob_move rfl) <| .cons rfl (ob_fieldAddrO (off := 3) rfl Tryz.underlying45 rfl rfl Tryz.sizeOf33 rfl) <| .cons rfl (ob_load1 rfl hc2 Tryz.isAgg33 rfl) <| .cons rfl (ob_fieldAddrO (off := 3) rfl Tryz.underlying45 rfl rfl Tryz.sizeOf33 rfl) <| .cons rfl (ob_load1 rfl hc3 Tryz.isAgg33 rfl) <| .cons rfl (ob_callE rfl (.cons rfl <| .cons rfl <| .cons rfl <| .nil) Tryz.call77 (fun w m hK => by have hle_ := KC.le hK; have hA := KC.agree hK; have hk_t := hk_t.mono hle_; have hk_u := hk_u.mono hle_; exact equalfT_c (ψ := sameT) (cap := []) hA hk_t hk_u Tryz.call54 (fun w m2 u1 u2 vs us hm ha hv hu h1 h2 => ih u1 h1 ha hv hu))) <| .cons rfl (ob_and rfl rfl rfl) <| .cons rfl (ob_assign rfl) <| .nil) ?_
  intro a2 w2 m2 hst2 hle2 hk2
  have hfr2 := hk2.fr (T' := [(4, _)]) (.new rfl <| .nil)
  clear hst1 hfr1 hk2
  refine hK4 _ _ ?_; clear hK4
  refine wp_ret ?_
  repeat (with_reducible first | refine then_ret ?_ | refine block_ret ?_)
  exact fn_ret hst2 hfr2 rfl (.tmp rfl <| .nil) (by refine congrArg Value.bool ?_; rw [sameT_eq, sameTs_all2])
theorem same_c (t : Ty) : same_G t := Ty.rec_ (p := same_G) (fun t ih => same_s ih) t

set_option maxHeartbeats 400000 in
theorem vars_c {w : World} {m : Mem} {t : Ty} {vs_t : List Value} (hA : Agree w m) (h_t : TyR m t vs_t) (hb : cntT t ≤ 100000000) : FnV Tryz.prog 78 #[.agg vs_t.toArray] w m (fun _ m v => (MP.two (walkT t ([], [])).1 (walkT t ([], [])).2).p m v) := by
  obtain ⟨o_t, c_t, oL_t, cL_t, rfl, hk_t, hs_t, hi_t, hj_t, hr_t⟩ := h_t.open_
  have hbg_t := hk_t.big; have hcp_t := hk_t.cap; have hbs_t := hs_t.big; have hcs_t := hs_t.cap
  have hrw_t : RwR _ ⟨t.labels, t.rv⟩ _ := ⟨_, _, rfl, hs_t, hr_t⟩
  refine fn_enter (vs := [_]) Tryz.func78 rfl rfl rfl fun a0 hfr0 => ?_
  have hst0 := st_enter hA (loc_nil [] _ w m)
  have hM : MLe m m := MLe.refl m
  refine seq_any fun _ hK1 => ?_
  refine rp0 hst0 hfr0 (.cons rfl (ob_box rfl rfl) <| .cons rfl (ob_assign rfl) <| .cons rfl (ob_assign rfl) <| .nil) ?_
  intro a1 w1 m1 hst1 hle1 hk1
  have hfr1 := hk1.fr (T' := []) (.nil)
  obtain ⟨g2, e2, hc1⟩ := hk1.ex 1 rfl
  replace hfr1 := hfr1.cons e2
  replace h_t := h_t.mono hle1
  clear hst0 hfr0 hk1
  refine hK1 _ _ ?_; clear hK1
  refine seq_any fun _ hK3 => ?_
  replace hst1 := hst1.more (r := .free) trivial List.nodup_nil (by simp [Res.blocks])
  refine ra0 (tch := [(0, 0, (fun v => .blk v _))]) hst1 hfr1 (.consT rfl rfl (fun _ => rfl) rfl (ob_allocL Tryz.zeroValue124 rfl) <| .nil) ?_
  intro a2 w2 m2 hst2 hle2 hk2
  have hfr2 := hk2.fr (T' := [(1, _)]) (.old rfl rfl <| .nil)
  obtain ⟨gv, e4, _⟩ := hk2.ex 4 rfl
  replace hfr2 := hfr2.cons e4
  replace hst2 := hst2.fin (L' := [_]) (.cons e4 <| .nil)
  replace h_t := h_t.mono hle2
  replace hc1 := hc1.mono hle2
  clear hst1 hfr1 hk2
  have hst2 := (hst2.more (r := .row (.slice none 0 0) 0 1 3 []) ⟨rfl, .inl ⟨rfl, rfl⟩⟩ List.nodup_nil (by simp [Res.blocks, rowBlock])).more (r := .row (.slice none 0 0) 0 1 3 []) ⟨rfl, .inl ⟨rfl, rfl⟩⟩ List.nodup_nil (by simp [Res.blocks, rowBlock])
  refine hK3 _ _ ?_; clear hK3
  refine seq_any fun _ hK5 => ?_
  refine region_cut 1 (by kernel_rfl) ?_
  refine ops_seq (tch := []) hst2 hfr2 (by kernel_rfl) (by kernel_rfl) (by kernel_rfl) (.cons rfl (ob_loadS' rfl hc1 Tryz.isAgg45 Tryz.sizeOf45 rfl rfl) <| .nil) ?_
  intro a3 w3 m3 hst3 hle3 hk3
  have hfr3 := hk3.fr (T' := [(1, _), (4, _), (5, _)]) (.old rfl rfl <| .old rfl rfl <| .new rfl <| .nil)
  replace h_t := h_t.mono hle3
  clear hst2 hfr2 hk3
  refine call_res [] [] [_, _, _] hst3 hfr3 rfl (.cons rfl <| .cons rfl <| .nil) Tryz.call95 (walk_c t (v1 := .slice none 0 0) (v2 := .slice none 0 0) (a := []) (b := []) hst3.agree (hst3.sub (A := []) (B := []) (rs := [_, _, _])) h_t (by simp only [List.length_nil]; omega)) ?_
  intro vr4 w4 m4 rs4 hst4 hle4 hp4
  obtain ⟨u1, u2, rfl⟩ := hp4
  simp only [List.nil_append, List.cons_append] at hst4
  obtain ⟨q3, d3, rfl, hq3, hd3, he3, -⟩ := Res.row_at (hst4.loc.at_ (k := 1) rfl)
  obtain ⟨q4, d4, rfl, hq4, hd4, he4, -⟩ := Res.row_at (hst4.loc.at_ (k := 2) rfl)
  have hfr4 := (hfr3.sub (T' := [(1, _), (4, _), (5, _)]) (.cons rfl <| .cons rfl <| .cons rfl <| .nil)).put (d := 6) (v := vr4) (by kernel_rfl) rfl
  clear hst3 hfr3
  refine hK5 _ _ ?_; clear hK5
  refine seq_any fun _ hK6 => ?_
  refine region_plain (fun _ => mixed) hst4 hfr4 (by kernel_rfl) (by kernel_rfl) (.cons rfl (ob_fieldAddrO (off := 0) rfl Tryz.underlying124 rfl rfl Tryz.sizeOf32 rfl) <| .cons rfl (ob_loadL (j := 0) rfl rfl Tryz.isAgg32 rfl) <| .cons rfl (ob_fieldAddrO (off := 1) rfl Tryz.underlying124 rfl rfl Tryz.sizeOf32 rfl) <| .cons rfl (ob_loadL (j := 0) rfl rfl Tryz.isAgg32 rfl) <| .cons rfl (ob_assign rfl) <| .cons rfl (ob_assign rfl) <| .nil) ?_
  intro a5 w5 m5 hst5 hle5 hk5
  have hfr5 := hk5.fr (T' := [(2, _), (3, _)]) (.new rfl <| .new rfl <| .nil)
  replace hq3 := hq3.mono hle5
  replace hq4 := hq4.mono hle5
  clear hst4 hfr4 hk5
  refine hK6 _ _ ?_; clear hK6
  refine wp_ret ?_
  repeat (with_reducible first | refine then_ret ?_ | refine block_ret ?_)
  exact fn_ret hst5 hfr5 rfl (.tmp rfl <| .tmp rfl <| .nil) (⟨((q3, d3), (q4, d4)), rfl, Ints.of_rowI hq3 hd3 he3, Ints.of_rowI hq4 hd4 he4⟩)


end Go.Proofs.YtlidonjpgigocaaGreat
