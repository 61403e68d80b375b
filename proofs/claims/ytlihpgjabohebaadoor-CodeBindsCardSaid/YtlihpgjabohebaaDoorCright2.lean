/-
  Code: what may be, walked. Conditions: those of each theorem.
-/
import Derived.Test.YtlihpgjabohebaaDoorCright
namespace Go.Proofs.YtlihpgjabohebaaDoor
set_option linter.all false
set_option maxRecDepth 4000
open Go.RowKit
/-- Where an element stands first; -1: nowhere. -/
def idxA {α : Type} [DecidableEq α] : Nat → List α → α → Int
  | _, [], _ => -1
  | i, x :: l, s => if s = x then (i : Int) else idxA (i + 1) l s
theorem idxA_pos {α : Type} [DecidableEq α] (s : α) : ∀ (l : List α) (i : Nat), decide (0 ≤ idxA i l s) = decide (s ∈ l)
  | [], i => by simp [idxA]
  | x :: l, i => by
    simp only [idxA, List.mem_cons]
    by_cases h : s = x
    · simp [h]
    · simp only [h, if_false, false_or]; exact idxA_pos s l (i + 1)
theorem idxA_mem {α : Type} [DecidableEq α] (s : α) (l : List α) (i : Nat) : 0 ≤ idxA i l s ↔ s ∈ l := by
  have h := idxA_pos s l i
  rwa [decide_eq_decide] at h
/-- Both are the same, one by one. -/
def all2 {α : Type} (ψ : α → α → Bool) : List α → List α → Bool
  | [], [] => true
  | x :: xs, y :: ys => ψ x y && all2 ψ xs ys
  | [], _ :: _ => false
  | _ :: _, [] => false
theorem all2_len {α : Type} {ψ : α → α → Bool} : ∀ {xs ys : List α}, xs.length ≠ ys.length → all2 ψ xs ys = false
  | [], [], h => absurd rfl h
  | [], _ :: _, _ => rfl
  | _ :: _, [], _ => rfl
  | x :: xs, y :: ys, h => by simp only [all2]; rw [all2_len (by simpa using h)]; simp
theorem all2_eq {α : Type} [DecidableEq α] : ∀ (xs ys : List α), all2 (fun a b => decide (a = b)) xs ys = decide (xs = ys)
  | [], [] => rfl
  | [], _ :: _ => by simp [all2]
  | _ :: _, [] => by simp [all2]
  | x :: xs, y :: ys => by simp [all2, all2_eq xs ys]

set_option maxHeartbeats 400000 in
theorem indexS_c {w : World} {m : Mem} {o_l : Option Addr} {c_l : Nat} {l : List Str} {s : Str} (hA : Agree w m) (h_l : Strs m o_l l.length c_l l) : FnV Tryd.prog 65 #[.slice o_l l.length c_l, S s] w m (fun _ _ v => v = .int .i64 (idxA 0 l s)) := by
  have hb_l := h_l.big; have hc_l := h_l.cap
  refine fn_enter (vs := [_, _]) Tryd.func65 rfl rfl rfl fun a0 hfr0 => ?_
  have hst0 := st_enter hA (loc_nil [] _ w m)
  have hM : MLe m m := MLe.refl m
  refine seq_any fun _ hK1 => ?_
  refine rp0 hst0 hfr0 (.cons rfl (ob_assign rfl) <| .nil) ?_
  intro a1 w1 m1 hst1 hle1 hk1
  have hfr1 := hk1.fr (T' := [(0, _), (1, _)]) (.old rfl rfl <| .old rfl rfl <| .nil)
  replace h_l := h_l.mono hle1
  clear hst0 hfr0 hk1
  refine hK1 _ _ ?_; clear hK1
  refine seq_any fun _ hK2 => ?_
  refine seq_any fun _ hK3 => ?_
  refine rp0 hst1 hfr1 (.cons rfl (ob_move rfl) <| .cons rfl (ob_len rfl Tryd.underlying29) <| .cons rfl (ob_move rfl) <| .nil) ?_
  intro a2 w2 m2 hst2 hle2 hk2
  have hfr2 := hk2.fr (T' := [(0, _), (1, _), (7, _), (8, _)]) (.old rfl rfl <| .old rfl rfl <| .new rfl <| .new rfl <| .nil)
  replace h_l := h_l.mono hle2
  clear hst1 hfr1 hk2
  refine hK3 _ _ ?_; clear hK3
  refine wp_block ?_
  refine loop_any (T := [(0, _), (1, _), (7, _)]) (fun (y : Nat) => ([(8, .int .i64 (y : Int))] : List (Nat × Value))) (fun _ => _) (fun (y : Nat) m => (y ≤ l.length) ∧ (idxA 0 l s = idxA y (l.drop y) s)) (fun y => l.length - y) (0) ⟨hst2, MLe.refl _, hfr2.sub (.cons rfl <| .cons rfl <| .cons rfl <| .cons rfl <| .nil), ⟨Nat.zero_le _, rfl⟩⟩ fun y a3 w3 m3 hh3 => ?_
  have hst3 := hh3.st; have hle3 := hh3.le; have hfr3 := hh3.fr; have hrel := hh3.rel; clear hh3
  replace h_l := h_l.mono hle3
  clear hst2 hfr2
  obtain ⟨hyn, hrem⟩ := hrel
  have hlh3 := hle3
  refine seq_any fun _ hK5 => ?_
  refine rp0 hst3 hfr3 (.cons rfl (ob_lss rfl rfl) <| .nil) ?_
  intro a4 w4 m4 hst4 hle4 hk4
  have hfr4 := hk4.fr (T' := [(8, _), (0, _), (1, _), (7, _), (9, _)]) (.old rfl rfl <| .old rfl rfl <| .old rfl rfl <| .old rfl rfl <| .new rfl <| .nil)
  replace h_l := h_l.mono hle4
  have hlh4 := hlh3.trans hle4
  clear hst3 hfr3 hk4
  refine hK5 _ _ ?_; clear hK5
  refine seq_any fun _ hK6 => ?_
  refine cond_any hfr4 rfl rfl (fun hb9 => ?_) (fun hb9 => ?_)
  · try simp only [nq1, nq2, nq3, nq4, nq5, nq6, nq7, nq8, nq9, u8_eq] at hb9
    refine wp_skip ?_
    refine hK6 _ _ ?_; clear hK6
    refine seq_any fun _ hK7 => ?_
    refine wp_block ?_
    refine seq_any fun _ hK8 => ?_
    refine rp0 hst4 hfr4 (.cons rfl (ob_move rfl) <| .cons rfl (ob_assign rfl) <| .nil) ?_
    intro a5 w5 m5 hst5 hle5 hk5
    have hfr5 := hk5.fr (T' := [(8, _), (0, _), (1, _), (7, _), (5, _)]) (.old rfl rfl <| .old rfl rfl <| .old rfl rfl <| .old rfl rfl <| .new rfl <| .nil)
    replace h_l := h_l.mono hle5
    have hlh5 := hlh4.trans hle5
    clear hst4 hfr4 hk5
    refine hK8 _ _ ?_; clear hK8
    refine seq_any fun _ hK9 => ?_
    obtain ⟨p10, vs10, x10, ho10, hd10, hm_x10, ht10, hcv10, hl10, hv10⟩ := h_l.nth (k := y) (by omega)
    cases ho10
    subst hv10
    try rw [hd10] at hrem
    try simp only [idxA] at hrem
    refine rp0 hst5 hfr5 (.cons rfl (ob_move rfl) <| .cons rfl (ob_move rfl) <| .cons rfl (ob_move rfl) <| .cons rfl (ob_indexAddr (k := y) rfl rfl Tryd.underlying29 Tryd.sizeOf9 rfl (by omega)) <| .cons rfl (ob_load1' rfl hcv10 Tryd.isAgg9 rfl) <| .cons rfl (ob_seql rfl rfl) <| .nil) ?_
    intro a6 w6 m6 hst6 hle6 hk6
    have hfr6 := hk6.fr (T' := [(8, _), (0, _), (1, _), (7, _), (5, _), (16, _)]) (.old rfl rfl <| .old rfl rfl <| .old rfl rfl <| .old rfl rfl <| .old rfl rfl <| .new rfl <| .nil)
    have hlh6 := hlh5.trans hle6
    clear hst5 hfr5 hk6
    refine hK9 _ _ ?_; clear hK9
    refine cond_any hfr6 rfl rfl (fun hb16 => ?_) (fun hb16 => ?_)
    · try simp only [nq1, nq2, nq3, nq4, nq5, nq6, nq7, nq8, nq9, u8_eq] at hb16
      refine seq_any fun _ hK11 => ?_
      refine rp0 hst6 hfr6 (.cons rfl (ob_move rfl) <| .cons rfl (ob_assign rfl) <| .nil) ?_
      intro a7 w7 m7 hst7 hle7 hk7
      have hfr7 := hk7.fr (T' := [(8, _), (4, _)]) (.old rfl rfl <| .new rfl <| .nil)
      have hlh7 := hlh6.trans hle7
      clear hst6 hfr6 hk7
      refine hK11 _ _ ?_; clear hK11
      refine wp_ret ?_
      repeat (with_reducible first | refine then_ret ?_ | refine block_ret ?_)
      exact fn_ret hst7 hfr7 rfl (.tmp rfl <| .nil) (by refine congrArg (Value.int _) ?_; simp_all)
    · try simp only [nq1, nq2, nq3, nq4, nq5, nq6, nq7, nq8, nq9, u8_eq] at hb16
      refine wp_skip ?_
      refine hK7 _ _ ?_; clear hK7
      refine rp0 hst6 hfr6 (.cons rfl (ob_add rfl rfl ⟨by omega, by omega⟩) <| .cons rfl (ob_move rfl) <| .nil) ?_
      intro a7 w7 m7 hst7 hle7 hk7
      have hfr7 := hk7.fr (T' := [(0, _), (1, _), (7, _), (8, _)]) (.old rfl rfl <| .old rfl rfl <| .old rfl rfl <| .new rfl <| .nil)
      have hlh7 := hlh6.trans hle7
      clear hst6 hfr6 hk7
      exact ⟨y + 1, m7, by show l.length - (y + 1) < l.length - y; omega, ⟨hst7, hlh7, hfr7.sub (.cons rfl <| .cons rfl <| .cons rfl <| .cons rfl <| .nil), ⟨by show y + 1 ≤ l.length; omega, by simp_all⟩⟩⟩
  · try simp only [nq1, nq2, nq3, nq4, nq5, nq6, nq7, nq8, nq9, u8_eq] at hb9
    have hge : y = l.length := by omega
    rw [List.drop_of_length_le (by omega)] at hrem
    simp only [idxA] at hrem
    refine wp_exit ?_
    refine hK2 _ _ ?_; clear hK2
    refine seq_any fun _ hK13 => ?_
    refine rp0 hst4 hfr4 (.cons rfl (ob_assign rfl) <| .nil) ?_
    intro a5 w5 m5 hst5 hle5 hk5
    have hfr5 := hk5.fr (T' := [(8, _), (4, _)]) (.old rfl rfl <| .new rfl <| .nil)
    have hlh5 := hlh4.trans hle5
    clear hst4 hfr4 hk5
    refine hK13 _ _ ?_; clear hK13
    refine wp_ret ?_
    repeat (with_reducible first | refine then_ret ?_ | refine block_ret ?_)
    exact fn_ret hst5 hfr5 rfl (.tmp rfl <| .nil) (by refine congrArg (Value.int _) ?_; simp_all)

set_option maxHeartbeats 400000 in
theorem containsS_c {w : World} {m : Mem} {o_l : Option Addr} {c_l : Nat} {l : List Str} {s : Str} (hA : Agree w m) (h_l : Strs m o_l l.length c_l l) : FnV Tryd.prog 47 #[.slice o_l l.length c_l, S s] w m (fun _ _ v => v = .bool (decide (s ∈ l))) := by
  have hb_l := h_l.big; have hc_l := h_l.cap
  refine fn_enter (vs := [_, _]) Tryd.func47 rfl rfl rfl fun a0 hfr0 => ?_
  have hst0 := st_enter hA (loc_nil [] _ w m)
  have hM : MLe m m := MLe.refl m
  refine seq_any fun _ hK1 => ?_
  refine rp0 hst0 hfr0 (.cons rfl (ob_assign rfl) <| .nil) ?_
  intro a1 w1 m1 hst1 hle1 hk1
  have hfr1 := hk1.fr (T' := [(0, _), (1, _)]) (.old rfl rfl <| .old rfl rfl <| .nil)
  replace h_l := h_l.mono hle1
  clear hst0 hfr0 hk1
  refine hK1 _ _ ?_; clear hK1
  refine seq_any fun _ hK2 => ?_
  refine rp0 hst1 hfr1 (.cons rfl (ob_move rfl) <| .cons rfl (ob_move rfl) <| .cons rfl (ob_callE rfl (.cons rfl <| .cons rfl <| .nil) Tryd.call65 (fun w m hK => by have hle_ := KC.le hK; have hA := KC.agree hK; have h_l := h_l.mono hle_; exact indexS_c hA (by first | assumption | omega | simp_all))) <| .cons rfl (ob_geq rfl rfl) <| .cons rfl (ob_assign rfl) <| .nil) ?_
  intro a2 w2 m2 hst2 hle2 hk2
  have hfr2 := hk2.fr (T' := [(4, _)]) (.new rfl <| .nil)
  clear hst1 hfr1 hk2
  refine hK2 _ _ ?_; clear hK2
  refine wp_ret ?_
  repeat (with_reducible first | refine then_ret ?_ | refine block_ret ?_)
  exact fn_ret hst2 hfr2 rfl (.tmp rfl <| .nil) (by refine congrArg Value.bool ?_; exact decide_eq_decide.2 (idxA_mem s l 0))

set_option maxHeartbeats 400000 in
theorem indexfCd_c {w : World} {m : Mem} {o_l : Option Addr} {c_l : Nat} {l : List Cd} {cid : Nat} {cap : List Value} {φ : Cd → Bool} (hA : Agree w m) (h_l : Cds m o_l l.length c_l l) (hc : ∀ args w, (callFunc cid args).run Tryd.prog w = .ok (.enter cid args) w) (hφ : ∀ w m' (t : Cd) vs, MLe m m' → Agree w m' → CdR m' t vs → t ∈ l → FnV Tryd.prog cid ([Value.agg vs.toArray] ++ cap).toArray w m' (fun _ _ v => v = .bool (φ t))) : FnV Tryd.prog 42 #[.slice o_l l.length c_l, .func (.func cid) #[] cap.toArray] w m (fun _ _ v => ∃ i : Int, v = .int .i64 i ∧ decide (0 ≤ i) = l.any φ) := by
  have hb_l := h_l.big; have hc_l := h_l.cap
  refine fn_enter (vs := [_, _]) Tryd.func42 rfl rfl rfl fun a0 hfr0 => ?_
  have hst0 := st_enter hA (loc_nil [] _ w m)
  have hM : MLe m m := MLe.refl m
  refine seq_any fun _ hK1 => ?_
  refine rp0 hst0 hfr0 (.cons rfl (ob_assign rfl) <| .nil) ?_
  intro a1 w1 m1 hst1 hle1 hk1
  have hfr1 := hk1.fr (T' := [(0, _), (1, _)]) (.old rfl rfl <| .old rfl rfl <| .nil)
  replace h_l := h_l.mono hle1
  replace hM := hM.trans hle1
  clear hst0 hfr0 hk1
  refine hK1 _ _ ?_; clear hK1
  refine seq_any fun _ hK2 => ?_
  refine seq_any fun _ hK3 => ?_
  refine rp0 hst1 hfr1 (.cons rfl (ob_move rfl) <| .cons rfl (ob_len rfl Tryd.underlying22) <| .cons rfl (ob_move rfl) <| .nil) ?_
  intro a2 w2 m2 hst2 hle2 hk2
  have hfr2 := hk2.fr (T' := [(0, _), (1, _), (7, _), (8, _)]) (.old rfl rfl <| .old rfl rfl <| .new rfl <| .new rfl <| .nil)
  replace h_l := h_l.mono hle2
  replace hM := hM.trans hle2
  clear hst1 hfr1 hk2
  refine hK3 _ _ ?_; clear hK3
  refine wp_block ?_
  refine loop_any (T := [(0, _), (1, _), (7, _)]) (fun (y : Nat) => ([(8, .int .i64 (y : Int))] : List (Nat × Value))) (fun _ => _) (fun (y : Nat) m => (y ≤ l.length) ∧ (l.any φ = (l.drop y).any φ)) (fun y => l.length - y) (0) ⟨hst2, MLe.refl _, hfr2.sub (.cons rfl <| .cons rfl <| .cons rfl <| .cons rfl <| .nil), ⟨Nat.zero_le _, rfl⟩⟩ fun y a3 w3 m3 hh3 => ?_
  have hst3 := hh3.st; have hle3 := hh3.le; have hfr3 := hh3.fr; have hrel := hh3.rel; clear hh3
  replace h_l := h_l.mono hle3
  clear hst2 hfr2
  replace hM := hM.trans hle3
  obtain ⟨hyn, hrem⟩ := hrel
  have hlh3 := hle3
  refine seq_any fun _ hK5 => ?_
  refine rp0 hst3 hfr3 (.cons rfl (ob_lss rfl rfl) <| .nil) ?_
  intro a4 w4 m4 hst4 hle4 hk4
  have hfr4 := hk4.fr (T' := [(8, _), (0, _), (1, _), (7, _), (9, _)]) (.old rfl rfl <| .old rfl rfl <| .old rfl rfl <| .old rfl rfl <| .new rfl <| .nil)
  replace h_l := h_l.mono hle4
  have hlh4 := hlh3.trans hle4
  replace hM := hM.trans hle4
  clear hst3 hfr3 hk4
  refine hK5 _ _ ?_; clear hK5
  refine seq_any fun _ hK6 => ?_
  refine cond_any hfr4 rfl rfl (fun hb9 => ?_) (fun hb9 => ?_)
  · try simp only [nq1, nq2, nq3, nq4, nq5, nq6, nq7, nq8, nq9, u8_eq] at hb9
    refine wp_skip ?_
    refine hK6 _ _ ?_; clear hK6
    refine seq_any fun _ hK7 => ?_
    refine wp_block ?_
    refine seq_any fun _ hK8 => ?_
    refine rp0 hst4 hfr4 (.cons rfl (ob_move rfl) <| .cons rfl (ob_assign rfl) <| .nil) ?_
    intro a5 w5 m5 hst5 hle5 hk5
    have hfr5 := hk5.fr (T' := [(8, _), (0, _), (1, _), (7, _), (5, _)]) (.old rfl rfl <| .old rfl rfl <| .old rfl rfl <| .old rfl rfl <| .new rfl <| .nil)
    replace h_l := h_l.mono hle5
    have hlh5 := hlh4.trans hle5
    replace hM := hM.trans hle5
    clear hst4 hfr4 hk5
    refine hK8 _ _ ?_; clear hK8
    refine seq_any fun _ hK9 => ?_
    obtain ⟨p10, vs10, x10, ho10, hd10, hm_x10, ht10, hcv10, hl10, hv10⟩ := h_l.nth (k := y) (by omega)
    cases ho10
    obtain ⟨⟨oK10, cK10, oA10, cA10⟩, rfl, ⟨hik10, hin10⟩, hkk10, haa10⟩ := hv10.open_
    dsimp only at hkk10 haa10
    have hbg10 := hkk10.big; have hcp10 := hkk10.cap; have hbh10 := haa10.big; have hcq10 := haa10.cap
    try rw [hd10] at hrem
    try simp only [List.any_cons, List.any_nil] at hrem
    refine rp0 hst5 hfr5 (.cons rfl (ob_move rfl) <| .cons rfl (ob_move rfl) <| .cons rfl (ob_move rfl) <| .cons rfl (ob_indexAddr (k := y) rfl rfl Tryd.underlying22 Tryd.sizeOf25 rfl (by omega)) <| .cons rfl (ob_loadS' rfl hcv10 Tryd.isAgg25 Tryd.sizeOf25 rfl rfl) <| .cons rfl (ob_callE rfl (.cons rfl <| .nil) hc (fun w m hK => by have hle_ := KC.le hK; have hA := KC.agree hK; have hM := hM.trans hle_; have h_l := h_l.mono hle_; have hcv10 := hcv10.mono hle_; have hv10 := hv10.mono hle_; have hkk10 := hkk10.mono hle_; have haa10 := haa10.mono hle_; exact hφ w m _ _ hM hA (by assumption) hm_x10)) <| .nil) ?_
    intro a6 w6 m6 hst6 hle6 hk6
    have hfr6 := hk6.fr (T' := [(8, _), (0, _), (1, _), (7, _), (5, _), (16, _)]) (.old rfl rfl <| .old rfl rfl <| .old rfl rfl <| .old rfl rfl <| .old rfl rfl <| .new rfl <| .nil)
    have hlh6 := hlh5.trans hle6
    clear hst5 hfr5 hk6
    refine hK9 _ _ ?_; clear hK9
    refine cond_any hfr6 rfl rfl (fun hb16 => ?_) (fun hb16 => ?_)
    · try simp only [nq1, nq2, nq3, nq4, nq5, nq6, nq7, nq8, nq9, u8_eq] at hb16
      have hres : decide ((0 : Int) ≤ (y : Int)) = l.any φ := by rw [hrem, hb16]; simp
      refine seq_any fun _ hK11 => ?_
      refine rp0 hst6 hfr6 (.cons rfl (ob_move rfl) <| .cons rfl (ob_assign rfl) <| .nil) ?_
      intro a7 w7 m7 hst7 hle7 hk7
      have hfr7 := hk7.fr (T' := [(8, _), (4, _)]) (.old rfl rfl <| .new rfl <| .nil)
      have hlh7 := hlh6.trans hle7
      clear hst6 hfr6 hk7
      refine hK11 _ _ ?_; clear hK11
      refine wp_ret ?_
      repeat (with_reducible first | refine then_ret ?_ | refine block_ret ?_)
      exact fn_ret hst7 hfr7 rfl (.tmp rfl <| .nil) (⟨_, rfl, by first | exact hres | (rw [hrem]; rfl)⟩)
    · try simp only [nq1, nq2, nq3, nq4, nq5, nq6, nq7, nq8, nq9, u8_eq] at hb16
      refine wp_skip ?_
      refine hK7 _ _ ?_; clear hK7
      refine rp0 hst6 hfr6 (.cons rfl (ob_add rfl rfl ⟨by omega, by omega⟩) <| .cons rfl (ob_move rfl) <| .nil) ?_
      intro a7 w7 m7 hst7 hle7 hk7
      have hfr7 := hk7.fr (T' := [(0, _), (1, _), (7, _), (8, _)]) (.old rfl rfl <| .old rfl rfl <| .old rfl rfl <| .new rfl <| .nil)
      have hlh7 := hlh6.trans hle7
      clear hst6 hfr6 hk7
      exact ⟨y + 1, m7, by show l.length - (y + 1) < l.length - y; omega, ⟨hst7, hlh7, hfr7.sub (.cons rfl <| .cons rfl <| .cons rfl <| .cons rfl <| .nil), ⟨by show y + 1 ≤ l.length; omega, by rw [hrem, hb16]; rfl⟩⟩⟩
  · try simp only [nq1, nq2, nq3, nq4, nq5, nq6, nq7, nq8, nq9, u8_eq] at hb9
    have hge : y = l.length := by omega
    rw [List.drop_of_length_le (by omega)] at hrem
    simp only [List.any_cons, List.any_nil] at hrem
    refine wp_exit ?_
    refine hK2 _ _ ?_; clear hK2
    refine seq_any fun _ hK13 => ?_
    refine rp0 hst4 hfr4 (.cons rfl (ob_assign rfl) <| .nil) ?_
    intro a5 w5 m5 hst5 hle5 hk5
    have hfr5 := hk5.fr (T' := [(8, _), (4, _)]) (.old rfl rfl <| .new rfl <| .nil)
    have hlh5 := hlh4.trans hle5
    clear hst4 hfr4 hk5
    refine hK13 _ _ ?_; clear hK13
    refine wp_ret ?_
    repeat (with_reducible first | refine then_ret ?_ | refine block_ret ?_)
    exact fn_ret hst5 hfr5 rfl (.tmp rfl <| .nil) (⟨_, rfl, by first | exact hres | (rw [hrem]; rfl)⟩)

set_option maxHeartbeats 400000 in
theorem containsfCd_c {w : World} {m : Mem} {o_l : Option Addr} {c_l : Nat} {l : List Cd} {cid : Nat} {cap : List Value} {φ : Cd → Bool} (hA : Agree w m) (h_l : Cds m o_l l.length c_l l) (hc : ∀ args w, (callFunc cid args).run Tryd.prog w = .ok (.enter cid args) w) (hφ : ∀ w m' (t : Cd) vs, MLe m m' → Agree w m' → CdR m' t vs → t ∈ l → FnV Tryd.prog cid ([Value.agg vs.toArray] ++ cap).toArray w m' (fun _ _ v => v = .bool (φ t))) : FnV Tryd.prog 28 #[.slice o_l l.length c_l, .func (.func cid) #[] cap.toArray] w m (fun _ _ v => v = .bool (l.any φ)) := by
  have hb_l := h_l.big; have hc_l := h_l.cap
  refine fn_enter (vs := [_, _]) Tryd.func28 rfl rfl rfl fun a0 hfr0 => ?_
  have hst0 := st_enter hA (loc_nil [] _ w m)
  have hM : MLe m m := MLe.refl m
  refine seq_any fun _ hK1 => ?_
  refine rp0 hst0 hfr0 (.cons rfl (ob_assign rfl) <| .nil) ?_
  intro a1 w1 m1 hst1 hle1 hk1
  have hfr1 := hk1.fr (T' := [(0, _), (1, _)]) (.old rfl rfl <| .old rfl rfl <| .nil)
  replace h_l := h_l.mono hle1
  replace hM := hM.trans hle1
  clear hst0 hfr0 hk1
  refine hK1 _ _ ?_; clear hK1
  refine seq_any fun _ hK2 => ?_
  refine ra0 (tch := []) hst1 hfr1 (.cons rfl (ob_move rfl) <| .cons rfl (ob_move rfl) <| .cons rfl (ob_call (φ := MP.mem (fun i : Int => .int .i64 i) (fun i _ => decide (0 ≤ i) = l.any φ) (fun _ h => h)) rfl (.cons rfl <| .cons rfl <| .nil) Tryd.call42 (fun w m hK => by have hle_ := KC.le hK; have hA := KC.agree hK; have hM := hM.trans hle_; have h_l := h_l.mono hle_; exact FnG.mono (indexfCd_c (φ := φ) hA h_l hc (fun w m2 t vs hm ha hv ht => hφ w m2 t vs (hM.trans hm) ha hv ht)) fun _ _ _ _ h => h)) <| .cons rfl (ob_imgV 7 rfl rfl rfl fun y7 => ob_geq rfl rfl) <| .consA 8 rfl rfl <| .nil) ?_
  intro a2 w2 m2 hst2 hle2 hk2
  have hfr2 := hk2.fr (T' := []) (.nil)
  obtain ⟨i, e3, hi⟩ := hk2.ex 8 rfl
  replace hfr2 := hfr2.cons (hk2.same 4 rfl e3)
  clear hst1 hfr1 hk2
  refine hK2 _ _ ?_; clear hK2
  refine wp_ret ?_
  repeat (with_reducible first | refine then_ret ?_ | refine block_ret ?_)
  exact fn_ret hst2 hfr2 rfl (.tmp rfl <| .nil) (by dsimp only at hi; rw [← hi]; rfl)

set_option maxHeartbeats 400000 in
theorem kids_c {w : World} {m : Mem} {s : Str} (hA : Agree w m)  : FnV Tryd.prog 40 #[S s] w m (fun _ _ v => v = .int .i64 (primN s)) := by
  refine fn_enter (vs := [_]) Tryd.func40 rfl rfl rfl fun a0 hfr0 => ?_
  have hst0 := st_enter hA (loc_nil [] _ w m)
  have hM : MLe m m := MLe.refl m
  refine seq_any fun _ hK1 => ?_
  refine rp0 hst0 hfr0 (.cons rfl (ob_assign rfl) <| .nil) ?_
  intro a1 w1 m1 hst1 hle1 hk1
  have hfr1 := hk1.fr (T' := [(0, _)]) (.old rfl rfl <| .nil)
  clear hst0 hfr0 hk1
  refine hK1 _ _ ?_; clear hK1
  refine seq_any fun _ hK2 => ?_
  refine seq_any fun _ hK3 => ?_
  refine rp0 hst1 hfr1 (.cons rfl (ob_move rfl) <| .nil) ?_
  intro a2 w2 m2 hst2 hle2 hk2
  have hfr2 := hk2.fr (T' := [(3, _)]) (.new rfl <| .nil)
  clear hst1 hfr1 hk2
  refine hK3 _ _ ?_; clear hK3
  refine wp_block ?_
  refine seq_any fun _ hK4 => ?_
  refine seq_any fun _ hK5 => ?_
  refine rp0 hst2 hfr2 (.cons rfl (ob_seql rfl rfl) <| .cons rfl (ob_assign rfl) <| .nil) ?_
  intro a3 w3 m3 hst3 hle3 hk3
  have hfr3 := hk3.fr (T' := [(3, _), (4, _)]) (.old rfl rfl <| .new rfl <| .nil)
  clear hst2 hfr2 hk3
  refine hK5 _ _ ?_; clear hK5
  refine cond_any hfr3 rfl rfl (fun hb4 => ?_) (fun hb4 => ?_)
  · try simp only [nq1, nq2, nq3, nq4, nq5, nq6, nq7, nq8, nq9, u8_eq] at hb4
    refine wp_skip ?_
    refine hK4 _ _ ?_; clear hK4
    refine cond_any hfr3 rfl rfl (fun hb4x => ?_) (fun hb4x => ?_)
    · try simp only [nq1, nq2, nq3, nq4, nq5, nq6, nq7, nq8, nq9, u8_eq] at hb4x
      refine seq_any fun _ hK6 => ?_
      refine rp0 hst3 hfr3 (.cons rfl (ob_assign rfl) <| .nil) ?_
      intro a4 w4 m4 hst4 hle4 hk4
      have hfr4 := hk4.fr (T' := [(2, _)]) (.new rfl <| .nil)
      clear hst3 hfr3 hk4
      refine hK6 _ _ ?_; clear hK6
      refine wp_ret ?_
      repeat (with_reducible first | refine then_ret ?_ | refine block_ret ?_)
      exact fn_ret hst4 hfr4 rfl (.tmp rfl <| .nil) (by refine congrArg (Value.int _) ?_; unfold primN; simp_all)
    · exfalso; try simp only [nq1, nq2, nq3, nq4, nq5, nq6, nq7, nq8, nq9, u8_eq] at hb4x
      first | exact absurd hb4x hb4 | exact absurd hb4 hb4x | simp_all
  · try simp only [nq1, nq2, nq3, nq4, nq5, nq6, nq7, nq8, nq9, u8_eq] at hb4
    refine seq_any fun _ hK8 => ?_
    refine rp0 hst3 hfr3 (.cons rfl (ob_seql rfl rfl) <| .cons rfl (ob_assign rfl) <| .nil) ?_
    intro a4 w4 m4 hst4 hle4 hk4
    have hfr4 := hk4.fr (T' := [(3, _), (4, _)]) (.old rfl rfl <| .new rfl <| .nil)
    clear hst3 hfr3 hk4
    refine hK8 _ _ ?_; clear hK8
    refine cond_any hfr4 rfl rfl (fun hb4 => ?_) (fun hb4 => ?_)
    · try simp only [nq1, nq2, nq3, nq4, nq5, nq6, nq7, nq8, nq9, u8_eq] at hb4
      refine wp_skip ?_
      refine hK4 _ _ ?_; clear hK4
      refine cond_any hfr4 rfl rfl (fun hb4x => ?_) (fun hb4x => ?_)
      · try simp only [nq1, nq2, nq3, nq4, nq5, nq6, nq7, nq8, nq9, u8_eq] at hb4x
        refine seq_any fun _ hK9 => ?_
        refine rp0 hst4 hfr4 (.cons rfl (ob_assign rfl) <| .nil) ?_
        intro a5 w5 m5 hst5 hle5 hk5
        have hfr5 := hk5.fr (T' := [(2, _)]) (.new rfl <| .nil)
        clear hst4 hfr4 hk5
        refine hK9 _ _ ?_; clear hK9
        refine wp_ret ?_
        repeat (with_reducible first | refine then_ret ?_ | refine block_ret ?_)
        exact fn_ret hst5 hfr5 rfl (.tmp rfl <| .nil) (by refine congrArg (Value.int _) ?_; unfold primN; simp_all)
      · exfalso; try simp only [nq1, nq2, nq3, nq4, nq5, nq6, nq7, nq8, nq9, u8_eq] at hb4x
        first | exact absurd hb4x hb4 | exact absurd hb4 hb4x | simp_all
    · try simp only [nq1, nq2, nq3, nq4, nq5, nq6, nq7, nq8, nq9, u8_eq] at hb4
      refine seq_any fun _ hK11 => ?_
      refine rp0 hst4 hfr4 (.cons rfl (ob_seql rfl rfl) <| .cons rfl (ob_assign rfl) <| .nil) ?_
      intro a5 w5 m5 hst5 hle5 hk5
      have hfr5 := hk5.fr (T' := [(3, _), (4, _)]) (.old rfl rfl <| .new rfl <| .nil)
      clear hst4 hfr4 hk5
      refine hK11 _ _ ?_; clear hK11
      refine cond_any hfr5 rfl rfl (fun hb4 => ?_) (fun hb4 => ?_)
      · try simp only [nq1, nq2, nq3, nq4, nq5, nq6, nq7, nq8, nq9, u8_eq] at hb4
        refine wp_skip ?_
        refine hK4 _ _ ?_; clear hK4
        refine cond_any hfr5 rfl rfl (fun hb4x => ?_) (fun hb4x => ?_)
        · try simp only [nq1, nq2, nq3, nq4, nq5, nq6, nq7, nq8, nq9, u8_eq] at hb4x
          refine seq_any fun _ hK12 => ?_
          refine rp0 hst5 hfr5 (.cons rfl (ob_assign rfl) <| .nil) ?_
          intro a6 w6 m6 hst6 hle6 hk6
          have hfr6 := hk6.fr (T' := [(2, _)]) (.new rfl <| .nil)
          clear hst5 hfr5 hk6
          refine hK12 _ _ ?_; clear hK12
          refine wp_ret ?_
          repeat (with_reducible first | refine then_ret ?_ | refine block_ret ?_)
          exact fn_ret hst6 hfr6 rfl (.tmp rfl <| .nil) (by refine congrArg (Value.int _) ?_; unfold primN; simp_all)
        · exfalso; try simp only [nq1, nq2, nq3, nq4, nq5, nq6, nq7, nq8, nq9, u8_eq] at hb4x
          first | exact absurd hb4x hb4 | exact absurd hb4 hb4x | simp_all
      · try simp only [nq1, nq2, nq3, nq4, nq5, nq6, nq7, nq8, nq9, u8_eq] at hb4
        refine seq_any fun _ hK14 => ?_
        refine rp0 hst5 hfr5 (.cons rfl (ob_seql rfl rfl) <| .cons rfl (ob_assign rfl) <| .nil) ?_
        intro a6 w6 m6 hst6 hle6 hk6
        have hfr6 := hk6.fr (T' := [(3, _), (4, _)]) (.old rfl rfl <| .new rfl <| .nil)
        clear hst5 hfr5 hk6
        refine hK14 _ _ ?_; clear hK14
        refine cond_any hfr6 rfl rfl (fun hb4 => ?_) (fun hb4 => ?_)
        · try simp only [nq1, nq2, nq3, nq4, nq5, nq6, nq7, nq8, nq9, u8_eq] at hb4
          refine wp_skip ?_
          refine hK4 _ _ ?_; clear hK4
          refine cond_any hfr6 rfl rfl (fun hb4x => ?_) (fun hb4x => ?_)
          · try simp only [nq1, nq2, nq3, nq4, nq5, nq6, nq7, nq8, nq9, u8_eq] at hb4x
            refine seq_any fun _ hK15 => ?_
            refine rp0 hst6 hfr6 (.cons rfl (ob_assign rfl) <| .nil) ?_
            intro a7 w7 m7 hst7 hle7 hk7
            have hfr7 := hk7.fr (T' := [(2, _)]) (.new rfl <| .nil)
            clear hst6 hfr6 hk7
            refine hK15 _ _ ?_; clear hK15
            refine wp_ret ?_
            repeat (with_reducible first | refine then_ret ?_ | refine block_ret ?_)
            exact fn_ret hst7 hfr7 rfl (.tmp rfl <| .nil) (by refine congrArg (Value.int _) ?_; unfold primN; simp_all)
          · exfalso; try simp only [nq1, nq2, nq3, nq4, nq5, nq6, nq7, nq8, nq9, u8_eq] at hb4x
            first | exact absurd hb4x hb4 | exact absurd hb4 hb4x | simp_all
        · try simp only [nq1, nq2, nq3, nq4, nq5, nq6, nq7, nq8, nq9, u8_eq] at hb4
          refine seq_any fun _ hK17 => ?_
          refine rp0 hst6 hfr6 (.cons rfl (ob_seql rfl rfl) <| .cons rfl (ob_assign rfl) <| .nil) ?_
          intro a7 w7 m7 hst7 hle7 hk7
          have hfr7 := hk7.fr (T' := [(3, _), (4, _)]) (.old rfl rfl <| .new rfl <| .nil)
          clear hst6 hfr6 hk7
          refine hK17 _ _ ?_; clear hK17
          refine cond_any hfr7 rfl rfl (fun hb4 => ?_) (fun hb4 => ?_)
          · try simp only [nq1, nq2, nq3, nq4, nq5, nq6, nq7, nq8, nq9, u8_eq] at hb4
            refine wp_skip ?_
            refine hK4 _ _ ?_; clear hK4
            refine cond_any hfr7 rfl rfl (fun hb4x => ?_) (fun hb4x => ?_)
            · try simp only [nq1, nq2, nq3, nq4, nq5, nq6, nq7, nq8, nq9, u8_eq] at hb4x
              refine seq_any fun _ hK18 => ?_
              refine rp0 hst7 hfr7 (.cons rfl (ob_assign rfl) <| .nil) ?_
              intro a8 w8 m8 hst8 hle8 hk8
              have hfr8 := hk8.fr (T' := [(2, _)]) (.new rfl <| .nil)
              clear hst7 hfr7 hk8
              refine hK18 _ _ ?_; clear hK18
              refine wp_ret ?_
              repeat (with_reducible first | refine then_ret ?_ | refine block_ret ?_)
              exact fn_ret hst8 hfr8 rfl (.tmp rfl <| .nil) (by refine congrArg (Value.int _) ?_; unfold primN; simp_all)
            · exfalso; try simp only [nq1, nq2, nq3, nq4, nq5, nq6, nq7, nq8, nq9, u8_eq] at hb4x
              first | exact absurd hb4x hb4 | exact absurd hb4 hb4x | simp_all
          · try simp only [nq1, nq2, nq3, nq4, nq5, nq6, nq7, nq8, nq9, u8_eq] at hb4
            refine seq_any fun _ hK20 => ?_
            refine rp0 hst7 hfr7 (.cons rfl (ob_seql rfl rfl) <| .cons rfl (ob_assign rfl) <| .nil) ?_
            intro a8 w8 m8 hst8 hle8 hk8
            have hfr8 := hk8.fr (T' := [(3, _), (4, _)]) (.old rfl rfl <| .new rfl <| .nil)
            clear hst7 hfr7 hk8
            refine hK20 _ _ ?_; clear hK20
            refine cond_any hfr8 rfl rfl (fun hb4 => ?_) (fun hb4 => ?_)
            · try simp only [nq1, nq2, nq3, nq4, nq5, nq6, nq7, nq8, nq9, u8_eq] at hb4
              refine wp_skip ?_
              refine hK4 _ _ ?_; clear hK4
              refine cond_any hfr8 rfl rfl (fun hb4x => ?_) (fun hb4x => ?_)
              · try simp only [nq1, nq2, nq3, nq4, nq5, nq6, nq7, nq8, nq9, u8_eq] at hb4x
                refine seq_any fun _ hK21 => ?_
                refine rp0 hst8 hfr8 (.cons rfl (ob_assign rfl) <| .nil) ?_
                intro a9 w9 m9 hst9 hle9 hk9
                have hfr9 := hk9.fr (T' := [(2, _)]) (.new rfl <| .nil)
                clear hst8 hfr8 hk9
                refine hK21 _ _ ?_; clear hK21
                refine wp_ret ?_
                repeat (with_reducible first | refine then_ret ?_ | refine block_ret ?_)
                exact fn_ret hst9 hfr9 rfl (.tmp rfl <| .nil) (by refine congrArg (Value.int _) ?_; unfold primN; simp_all)
              · exfalso; try simp only [nq1, nq2, nq3, nq4, nq5, nq6, nq7, nq8, nq9, u8_eq] at hb4x
                first | exact absurd hb4x hb4 | exact absurd hb4 hb4x | simp_all
            · try simp only [nq1, nq2, nq3, nq4, nq5, nq6, nq7, nq8, nq9, u8_eq] at hb4
              refine rp0 hst8 hfr8 (.cons rfl (ob_seql rfl rfl) <| .cons rfl (ob_assign rfl) <| .nil) ?_
              intro a9 w9 m9 hst9 hle9 hk9
              have hfr9 := hk9.fr (T' := [(3, _), (4, _)]) (.old rfl rfl <| .new rfl <| .nil)
              clear hst8 hfr8 hk9
              refine hK4 _ _ ?_; clear hK4
              refine cond_any hfr9 rfl rfl (fun hb4 => ?_) (fun hb4 => ?_)
              · try simp only [nq1, nq2, nq3, nq4, nq5, nq6, nq7, nq8, nq9, u8_eq] at hb4
                refine seq_any fun _ hK23 => ?_
                refine rp0 hst9 hfr9 (.cons rfl (ob_assign rfl) <| .nil) ?_
                intro a10 w10 m10 hst10 hle10 hk10
                have hfr10 := hk10.fr (T' := [(2, _)]) (.new rfl <| .nil)
                clear hst9 hfr9 hk10
                refine hK23 _ _ ?_; clear hK23
                refine wp_ret ?_
                repeat (with_reducible first | refine then_ret ?_ | refine block_ret ?_)
                exact fn_ret hst10 hfr10 rfl (.tmp rfl <| .nil) (by refine congrArg (Value.int _) ?_; unfold primN; simp_all)
              · try simp only [nq1, nq2, nq3, nq4, nq5, nq6, nq7, nq8, nq9, u8_eq] at hb4
                refine seq_any fun _ hK25 => ?_
                refine seq_any fun _ hK26 => ?_
                refine rp0 hst9 hfr9 (.cons rfl (ob_seql rfl rfl) <| .cons rfl (ob_assign rfl) <| .nil) ?_
                intro a10 w10 m10 hst10 hle10 hk10
                have hfr10 := hk10.fr (T' := [(3, _), (12, _)]) (.old rfl rfl <| .new rfl <| .nil)
                clear hst9 hfr9 hk10
                refine hK26 _ _ ?_; clear hK26
                refine cond_any hfr10 rfl rfl (fun hb12 => ?_) (fun hb12 => ?_)
                · try simp only [nq1, nq2, nq3, nq4, nq5, nq6, nq7, nq8, nq9, u8_eq] at hb12
                  refine wp_skip ?_
                  refine hK25 _ _ ?_; clear hK25
                  refine cond_any hfr10 rfl rfl (fun hb12x => ?_) (fun hb12x => ?_)
                  · try simp only [nq1, nq2, nq3, nq4, nq5, nq6, nq7, nq8, nq9, u8_eq] at hb12x
                    refine seq_any fun _ hK27 => ?_
                    refine rp0 hst10 hfr10 (.cons rfl (ob_assign rfl) <| .nil) ?_
                    intro a11 w11 m11 hst11 hle11 hk11
                    have hfr11 := hk11.fr (T' := [(2, _)]) (.new rfl <| .nil)
                    clear hst10 hfr10 hk11
                    refine hK27 _ _ ?_; clear hK27
                    refine wp_ret ?_
                    repeat (with_reducible first | refine then_ret ?_ | refine block_ret ?_)
                    exact fn_ret hst11 hfr11 rfl (.tmp rfl <| .nil) (by refine congrArg (Value.int _) ?_; unfold primN; simp_all)
                  · exfalso; try simp only [nq1, nq2, nq3, nq4, nq5, nq6, nq7, nq8, nq9, u8_eq] at hb12x
                    first | exact absurd hb12x hb12 | exact absurd hb12 hb12x | simp_all
                · try simp only [nq1, nq2, nq3, nq4, nq5, nq6, nq7, nq8, nq9, u8_eq] at hb12
                  refine seq_any fun _ hK29 => ?_
                  refine rp0 hst10 hfr10 (.cons rfl (ob_seql rfl rfl) <| .cons rfl (ob_assign rfl) <| .nil) ?_
                  intro a11 w11 m11 hst11 hle11 hk11
                  have hfr11 := hk11.fr (T' := [(3, _), (12, _)]) (.old rfl rfl <| .new rfl <| .nil)
                  clear hst10 hfr10 hk11
                  refine hK29 _ _ ?_; clear hK29
                  refine cond_any hfr11 rfl rfl (fun hb12 => ?_) (fun hb12 => ?_)
                  · try simp only [nq1, nq2, nq3, nq4, nq5, nq6, nq7, nq8, nq9, u8_eq] at hb12
                    refine wp_skip ?_
                    refine hK25 _ _ ?_; clear hK25
                    refine cond_any hfr11 rfl rfl (fun hb12x => ?_) (fun hb12x => ?_)
                    · try simp only [nq1, nq2, nq3, nq4, nq5, nq6, nq7, nq8, nq9, u8_eq] at hb12x
                      refine seq_any fun _ hK30 => ?_
                      refine rp0 hst11 hfr11 (.cons rfl (ob_assign rfl) <| .nil) ?_
                      intro a12 w12 m12 hst12 hle12 hk12
                      have hfr12 := hk12.fr (T' := [(2, _)]) (.new rfl <| .nil)
                      clear hst11 hfr11 hk12
                      refine hK30 _ _ ?_; clear hK30
                      refine wp_ret ?_
                      repeat (with_reducible first | refine then_ret ?_ | refine block_ret ?_)
                      exact fn_ret hst12 hfr12 rfl (.tmp rfl <| .nil) (by refine congrArg (Value.int _) ?_; unfold primN; simp_all)
                    · exfalso; try simp only [nq1, nq2, nq3, nq4, nq5, nq6, nq7, nq8, nq9, u8_eq] at hb12x
                      first | exact absurd hb12x hb12 | exact absurd hb12 hb12x | simp_all
                  · try simp only [nq1, nq2, nq3, nq4, nq5, nq6, nq7, nq8, nq9, u8_eq] at hb12
                    refine rp0 hst11 hfr11 (.cons rfl (ob_seql rfl rfl) <| .cons rfl (ob_assign rfl) <| .nil) ?_
                    intro a12 w12 m12 hst12 hle12 hk12
                    have hfr12 := hk12.fr (T' := [(3, _), (12, _)]) (.old rfl rfl <| .new rfl <| .nil)
                    clear hst11 hfr11 hk12
                    refine hK25 _ _ ?_; clear hK25
                    refine cond_any hfr12 rfl rfl (fun hb12 => ?_) (fun hb12 => ?_)
                    · try simp only [nq1, nq2, nq3, nq4, nq5, nq6, nq7, nq8, nq9, u8_eq] at hb12
                      refine seq_any fun _ hK32 => ?_
                      refine rp0 hst12 hfr12 (.cons rfl (ob_assign rfl) <| .nil) ?_
                      intro a13 w13 m13 hst13 hle13 hk13
                      have hfr13 := hk13.fr (T' := [(2, _)]) (.new rfl <| .nil)
                      clear hst12 hfr12 hk13
                      refine hK32 _ _ ?_; clear hK32
                      refine wp_ret ?_
                      repeat (with_reducible first | refine then_ret ?_ | refine block_ret ?_)
                      exact fn_ret hst13 hfr13 rfl (.tmp rfl <| .nil) (by refine congrArg (Value.int _) ?_; unfold primN; simp_all)
                    · try simp only [nq1, nq2, nq3, nq4, nq5, nq6, nq7, nq8, nq9, u8_eq] at hb12
                      refine seq_any fun _ hK34 => ?_
                      refine rp0 hst12 hfr12 (.cons rfl (ob_seql rfl rfl) <| .cons rfl (ob_assign rfl) <| .nil) ?_
                      intro a13 w13 m13 hst13 hle13 hk13
                      have hfr13 := hk13.fr (T' := [(16, _)]) (.new rfl <| .nil)
                      clear hst12 hfr12 hk13
                      refine hK34 _ _ ?_; clear hK34
                      refine cond_any hfr13 rfl rfl (fun hb16 => ?_) (fun hb16 => ?_)
                      · try simp only [nq1, nq2, nq3, nq4, nq5, nq6, nq7, nq8, nq9, u8_eq] at hb16
                        refine seq_any fun _ hK35 => ?_
                        refine rp0 hst13 hfr13 (.cons rfl (ob_assign rfl) <| .nil) ?_
                        intro a14 w14 m14 hst14 hle14 hk14
                        have hfr14 := hk14.fr (T' := [(2, _)]) (.new rfl <| .nil)
                        clear hst13 hfr13 hk14
                        refine hK35 _ _ ?_; clear hK35
                        refine wp_ret ?_
                        repeat (with_reducible first | refine then_ret ?_ | refine block_ret ?_)
                        exact fn_ret hst14 hfr14 rfl (.tmp rfl <| .nil) (by refine congrArg (Value.int _) ?_; unfold primN; simp_all)
                      · try simp only [nq1, nq2, nq3, nq4, nq5, nq6, nq7, nq8, nq9, u8_eq] at hb16
                        refine wp_skip ?_
                        refine hK2 _ _ ?_; clear hK2
                        refine seq_any fun _ hK37 => ?_
                        refine rp0 hst13 hfr13 (.cons rfl (ob_assign rfl) <| .nil) ?_
                        intro a14 w14 m14 hst14 hle14 hk14
                        have hfr14 := hk14.fr (T' := [(2, _)]) (.new rfl <| .nil)
                        clear hst13 hfr13 hk14
                        refine hK37 _ _ ?_; clear hK37
                        refine wp_ret ?_
                        repeat (with_reducible first | refine then_ret ?_ | refine block_ret ?_)
                        exact fn_ret hst14 hfr14 rfl (.tmp rfl <| .nil) (by refine congrArg (Value.int _) ?_; unfold primN; simp_all)

set_option maxHeartbeats 400000 in
theorem named_c {w : World} {m : Mem} {o_l : Option Addr} {c_l : Nat} {l : List Str} (hA : Agree w m) (h_l : Strs m o_l l.length c_l l) : FnV Tryd.prog 41 #[.slice o_l l.length c_l] w m (fun _ _ v => v = .bool (nameOk l)) := by
  have hb_l := h_l.big; have hc_l := h_l.cap
  refine fn_enter (vs := [_]) Tryd.func41 rfl rfl rfl fun a0 hfr0 => ?_
  have hst0 := st_enter hA (loc_nil [] _ w m)
  have hM : MLe m m := MLe.refl m
  refine seq_any fun _ hK1 => ?_
  refine rp0 hst0 hfr0 (.cons rfl (ob_assign rfl) <| .nil) ?_
  intro a1 w1 m1 hst1 hle1 hk1
  have hfr1 := hk1.fr (T' := [(0, _)]) (.old rfl rfl <| .nil)
  replace h_l := h_l.mono hle1
  clear hst0 hfr0 hk1
  refine hK1 _ _ ?_; clear hK1
  refine seq_any fun _ hK2 => ?_
  refine rp0 hst1 hfr1 (.cons rfl (ob_move rfl) <| .cons rfl (ob_callE rfl (.cons rfl <| .cons rfl <| .nil) Tryd.call47 (fun w m hK => by have hle_ := KC.le hK; have hA := KC.agree hK; have h_l := h_l.mono hle_; exact containsS_c (l := l) (s := []) hA h_l)) <| .cons rfl (ob_not rfl) <| .cons rfl (ob_assign rfl) <| .nil) ?_
  intro a2 w2 m2 hst2 hle2 hk2
  have hfr2 := hk2.fr (T' := [(2, _)]) (.new rfl <| .nil)
  clear hst1 hfr1 hk2
  refine hK2 _ _ ?_; clear hK2
  refine wp_ret ?_
  repeat (with_reducible first | refine then_ret ?_ | refine block_ret ?_)
  exact fn_ret hst2 hfr2 rfl (.tmp rfl <| .nil) (rfl)

set_option maxHeartbeats 400000 in
theorem atom_c {w : World} {m : Mem} {t : Cd} {vs_t : List Value} (hA : Agree w m) (h_t : CdR m t vs_t) : FnV Tryd.prog 30 #[.agg vs_t.toArray] w m (fun _ _ v => v = .bool (atomC t)) := by
  obtain ⟨⟨oK_t, cK_t, oA_t, cA_t⟩, rfl, ⟨hik_t, hin_t⟩, hkk_t, haa_t⟩ := h_t.open_
  dsimp only at hkk_t haa_t
  have hbg_t := hkk_t.big; have hcp_t := hkk_t.cap; have hbh_t := haa_t.big; have hcq_t := haa_t.cap
  refine fn_enter (vs := [_]) Tryd.func30 rfl rfl rfl fun a0 hfr0 => ?_
  have hst0 := st_enter hA (loc_nil [] _ w m)
  have hM : MLe m m := MLe.refl m
  refine seq_any fun _ hK1 => ?_
  refine rp0 hst0 hfr0 (.cons rfl (ob_box rfl rfl) <| .cons rfl (ob_assign rfl) <| .nil) ?_
  intro a1 w1 m1 hst1 hle1 hk1
  have hfr1 := hk1.fr (T' := []) (.nil)
  obtain ⟨g2, e2, hc1⟩ := hk1.ex 1 rfl
  replace hfr1 := hfr1.cons e2
  clear hst0 hfr0 hk1
  refine hK1 _ _ ?_; clear hK1
  refine seq_any fun _ hK3 => ?_
  refine rp0 hst1 hfr1 (.cons rfl (ob_fieldAddrO (off := 0) rfl Tryd.underlying25 rfl rfl Tryd.sizeOf3 rfl) <| .cons rfl (ob_load1 rfl hc1 Tryd.isAgg3 rfl) <| .cons rfl (ob_geq rfl rfl) <| .cons rfl (ob_move rfl) <| .cons rfl (ob_fieldAddrO (off := 0) rfl Tryd.underlying25 rfl rfl Tryd.sizeOf3 rfl) <| .cons rfl (ob_load1 rfl hc1 Tryd.isAgg3 rfl) <| .cons rfl (ob_leq rfl rfl) <| .cons rfl (ob_and rfl rfl rfl) <| .cons rfl (ob_assign rfl) <| .nil) ?_
  intro a2 w2 m2 hst2 hle2 hk2
  have hfr2 := hk2.fr (T' := [(2, _)]) (.new rfl <| .nil)
  clear hst1 hfr1 hk2
  refine hK3 _ _ ?_; clear hK3
  refine wp_ret ?_
  repeat (with_reducible first | refine then_ret ?_ | refine block_ret ?_)
  exact fn_ret hst2 hfr2 rfl (.tmp rfl <| .nil) (by refine congrArg Value.bool ?_; rfl)

set_option maxHeartbeats 400000 in
theorem right1_c {w : World} {m : Mem} {t : Cd} {vs_t : List Value} (hA : Agree w m) (h_t : CdR m t vs_t) : FnV Tryd.prog 29 #[.agg vs_t.toArray] w m (fun _ _ v => v = .bool (!atomC t)) := by
  obtain ⟨⟨oK_t, cK_t, oA_t, cA_t⟩, rfl, ⟨hik_t, hin_t⟩, hkk_t, haa_t⟩ := h_t.open_
  dsimp only at hkk_t haa_t
  have hbg_t := hkk_t.big; have hcp_t := hkk_t.cap; have hbh_t := haa_t.big; have hcq_t := haa_t.cap
  refine fn_enter (vs := [_]) Tryd.func29 rfl rfl rfl fun a0 hfr0 => ?_
  have hst0 := st_enter hA (loc_nil [] _ w m)
  have hM : MLe m m := MLe.refl m
  refine seq_any fun _ hK1 => ?_
  refine rp0 hst0 hfr0 (.cons rfl (ob_box rfl rfl) <| .cons rfl (ob_assign rfl) <| .nil) ?_
  intro a1 w1 m1 hst1 hle1 hk1
  have hfr1 := hk1.fr (T' := []) (.nil)
  obtain ⟨g2, e2, hc1⟩ := hk1.ex 1 rfl
  replace hfr1 := hfr1.cons e2
  replace h_t := h_t.mono hle1
  clear hst0 hfr0 hk1
  refine hK1 _ _ ?_; clear hK1
  refine seq_any fun _ hK3 => ?_
  refine rp0 hst1 hfr1 (.cons rfl (ob_loadS' rfl hc1 Tryd.isAgg25 Tryd.sizeOf25 rfl rfl) <| .cons rfl (ob_callE rfl (.cons rfl <| .nil) Tryd.call30 (fun w m hK => by have hle_ := KC.le hK; have hA := KC.agree hK; have h_t := h_t.mono hle_; exact atom_c hA h_t)) <| .cons rfl (ob_not rfl) <| .cons rfl (ob_assign rfl) <| .nil) ?_
  intro a2 w2 m2 hst2 hle2 hk2
  have hfr2 := hk2.fr (T' := [(2, _)]) (.new rfl <| .nil)
  clear hst1 hfr1 hk2
  refine hK3 _ _ ?_; clear hK3
  refine wp_ret ?_
  repeat (with_reducible first | refine then_ret ?_ | refine block_ret ?_)
  exact fn_ret hst2 hfr2 rfl (.tmp rfl <| .nil) (rfl)

set_option maxHeartbeats 1600000 in
theorem shapes_c {w : World} {m : Mem} {t : Cd} {vs_t : List Value} (hA : Agree w m) (h_t : CdR m t vs_t) : FnV Tryd.prog 26 #[.agg vs_t.toArray] w m (fun _ _ v => v = .tuple #[(shG t).v, .bool (shB t && !(decide (t.kind = 11) && decide ((shG t).kids < 0)))]) := by
  obtain ⟨⟨oK_t, cK_t, oA_t, cA_t⟩, rfl, ⟨hik_t, hin_t⟩, hkk_t, haa_t⟩ := h_t.open_
  dsimp only at hkk_t haa_t
  have hbg_t := hkk_t.big; have hcp_t := hkk_t.cap; have hbh_t := haa_t.big; have hcq_t := haa_t.cap
  refine fn_enter (vs := [_]) Tryd.func26 rfl rfl rfl fun a0 hfr0 => ?_
  have hst0 := st_enter hA (loc_nil [] _ w m)
  have hM : MLe m m := MLe.refl m
  refine seq_any fun _ hK1 => ?_
  replace hst0 := hst0.more (r := .free) trivial List.nodup_nil (by simp [Res.blocks])
  refine ra0 (tch := [(1, 0, (fun v => .blk v _))]) hst0 hfr0 (.cons rfl (ob_box rfl rfl) <| .consT rfl rfl (fun _ => rfl) rfl (ob_allocL Tryd.zeroValue45 rfl) <| .cons rfl (ob_assign rfl) <| .nil) ?_
  intro a1 w1 m1 hst1 hle1 hk1
  have hfr1 := hk1.fr (T' := []) (.nil)
  obtain ⟨g2, e2, hc1⟩ := hk1.ex 1 rfl
  replace hfr1 := hfr1.cons e2
  obtain ⟨g3, e3, _⟩ := hk1.ex 2 rfl
  replace hfr1 := hfr1.cons e3
  replace hst1 := hst1.fin (L' := [_]) (.cons e3 <| .nil)
  clear hst0 hfr0 hk1
  refine hK1 _ _ ?_; clear hK1
  refine seq_any fun _ hK4 => ?_
  replace hst1 := hst1.more (r := .free) trivial List.nodup_nil (by simp [Res.blocks])
  refine region_uno (tch := [(41, 1, (fun v => .blk v _)), (42, 1, (fun v => .blk v _))]) (fun n : Int => Value.int .i64 n) 0 7 [(2, (1 : Int), .agg #[.int .i64 0, .int .i64 0, .bool true, .bool false, .bool false, .bool false]), (4, (2 : Int), .agg #[.int .i64 0, .int .i64 0, .bool false, .bool false, .bool true, .bool false]), (6, (3 : Int), .agg #[.int .i64 0, .int .i64 0, .bool false, .bool false, .bool true, .bool false]), (8, (4 : Int), .agg #[.int .i64 0, .int .i64 0, .bool false, .bool false, .bool false, .bool false]), (10, (5 : Int), .agg #[.int .i64 1, .int .i64 0, .bool true, .bool false, .bool false, .bool false]), (12, (6 : Int), .agg #[.int .i64 2, .int .i64 (-1), .bool false, .bool false, .bool false, .bool false]), (14, (7 : Int), .agg #[.int .i64 2, .int .i64 0, .bool true, .bool false, .bool false, .bool false]), (16, (8 : Int), .agg #[.int .i64 2, .int .i64 0, .bool true, .bool false, .bool false, .bool false]), (18, (9 : Int), .agg #[.int .i64 2, .int .i64 0, .bool true, .bool true, .bool false, .bool false]), (20, (10 : Int), .agg #[.int .i64 3, .int .i64 1, .bool false, .bool false, .bool false, .bool false]), (25, (11 : Int), .agg #[.int .i64 (primN t.name), .int .i64 (-1), .bool true, .bool false, .bool false, .bool false]), (27, (12 : Int), .agg #[.int .i64 (-1), .int .i64 (-1), .bool true, .bool false, .bool false, .bool false]), (29, (13 : Int), .agg #[.int .i64 1, .int .i64 1, .bool false, .bool false, .bool false, .bool true]), (31, (14 : Int), .agg #[.int .i64 1, .int .i64 (-1), .bool true, .bool false, .bool false, .bool false]), (33, (15 : Int), .agg #[.int .i64 1, .int .i64 0, .bool true, .bool false, .bool false, .bool true])] mixed hst1 hfr1 (by kernel_rfl) (by kernel_rfl) (by kernel_rfl) ((by simp only [List.map_cons, List.map_nil]; decide)) rfl rfl (by kernel_rfl) (.make rfl rfl rfl rfl (fun _ _ => rfl) (ob_makeMapK (fun n : Int => Value.int .i64 n)) <| .cons rfl rfl (ob_buildS (.cons rfl <| .nil) Tryd.underlying45 Tryd.zeroValue45 (.cons Tryd.sizeOf3 <| .cons Tryd.sizeOf3 <| .cons Tryd.sizeOf4 <| .cons Tryd.sizeOf4 <| .cons Tryd.sizeOf4 <| .cons Tryd.sizeOf4 <| .nil) rfl) <| .put rfl (.head _) rfl rfl (fun _ _ => rfl) (fun es => ob_insertF keys_I rfl rfl rfl Tryd.underlying60 Tryd.underlying3) <| .cons rfl rfl (ob_buildS (.cons rfl <| .nil) Tryd.underlying45 Tryd.zeroValue45 (.cons Tryd.sizeOf3 <| .cons Tryd.sizeOf3 <| .cons Tryd.sizeOf4 <| .cons Tryd.sizeOf4 <| .cons Tryd.sizeOf4 <| .cons Tryd.sizeOf4 <| .nil) rfl) <| .put rfl (.tail _ (.head _)) rfl rfl (fun _ _ => rfl) (fun es => ob_insertF keys_I rfl rfl rfl Tryd.underlying60 Tryd.underlying3) <| .cons rfl rfl (ob_buildS (.cons rfl <| .nil) Tryd.underlying45 Tryd.zeroValue45 (.cons Tryd.sizeOf3 <| .cons Tryd.sizeOf3 <| .cons Tryd.sizeOf4 <| .cons Tryd.sizeOf4 <| .cons Tryd.sizeOf4 <| .cons Tryd.sizeOf4 <| .nil) rfl) <| .put rfl (.tail _ (.tail _ (.head _))) rfl rfl (fun _ _ => rfl) (fun es => ob_insertF keys_I rfl rfl rfl Tryd.underlying60 Tryd.underlying3) <| .cons rfl rfl (ob_buildS (.nil) Tryd.underlying45 Tryd.zeroValue45 (.cons Tryd.sizeOf3 <| .cons Tryd.sizeOf3 <| .cons Tryd.sizeOf4 <| .cons Tryd.sizeOf4 <| .cons Tryd.sizeOf4 <| .cons Tryd.sizeOf4 <| .nil) rfl) <| .put rfl (.tail _ (.tail _ (.tail _ (.head _)))) rfl rfl (fun _ _ => rfl) (fun es => ob_insertF keys_I rfl rfl rfl Tryd.underlying60 Tryd.underlying3) <| .cons rfl rfl (ob_buildS (.cons rfl <| .cons rfl <| .nil) Tryd.underlying45 Tryd.zeroValue45 (.cons Tryd.sizeOf3 <| .cons Tryd.sizeOf3 <| .cons Tryd.sizeOf4 <| .cons Tryd.sizeOf4 <| .cons Tryd.sizeOf4 <| .cons Tryd.sizeOf4 <| .nil) rfl) <| .put rfl (.tail _ (.tail _ (.tail _ (.tail _ (.head _))))) rfl rfl (fun _ _ => rfl) (fun es => ob_insertF keys_I rfl rfl rfl Tryd.underlying60 Tryd.underlying3) <| .cons rfl rfl (ob_buildS (.cons rfl <| .cons rfl <| .nil) Tryd.underlying45 Tryd.zeroValue45 (.cons Tryd.sizeOf3 <| .cons Tryd.sizeOf3 <| .cons Tryd.sizeOf4 <| .cons Tryd.sizeOf4 <| .cons Tryd.sizeOf4 <| .cons Tryd.sizeOf4 <| .nil) rfl) <| .put rfl (.tail _ (.tail _ (.tail _ (.tail _ (.tail _ (.head _)))))) rfl rfl (fun _ _ => rfl) (fun es => ob_insertF keys_I rfl rfl rfl Tryd.underlying60 Tryd.underlying3) <| .cons rfl rfl (ob_buildS (.cons rfl <| .cons rfl <| .nil) Tryd.underlying45 Tryd.zeroValue45 (.cons Tryd.sizeOf3 <| .cons Tryd.sizeOf3 <| .cons Tryd.sizeOf4 <| .cons Tryd.sizeOf4 <| .cons Tryd.sizeOf4 <| .cons Tryd.sizeOf4 <| .nil) rfl) <| .put rfl (.tail _ (.tail _ (.tail _ (.tail _ (.tail _ (.tail _ (.head _))))))) rfl rfl (fun _ _ => rfl) (fun es => ob_insertF keys_I rfl rfl rfl Tryd.underlying60 Tryd.underlying3) <| .cons rfl rfl (ob_buildS (.cons rfl <| .cons rfl <| .nil) Tryd.underlying45 Tryd.zeroValue45 (.cons Tryd.sizeOf3 <| .cons Tryd.sizeOf3 <| .cons Tryd.sizeOf4 <| .cons Tryd.sizeOf4 <| .cons Tryd.sizeOf4 <| .cons Tryd.sizeOf4 <| .nil) rfl) <| .put rfl (.tail _ (.tail _ (.tail _ (.tail _ (.tail _ (.tail _ (.tail _ (.head _)))))))) rfl rfl (fun _ _ => rfl) (fun es => ob_insertF keys_I rfl rfl rfl Tryd.underlying60 Tryd.underlying3) <| .cons rfl rfl (ob_buildS (.cons rfl <| .cons rfl <| .cons rfl <| .nil) Tryd.underlying45 Tryd.zeroValue45 (.cons Tryd.sizeOf3 <| .cons Tryd.sizeOf3 <| .cons Tryd.sizeOf4 <| .cons Tryd.sizeOf4 <| .cons Tryd.sizeOf4 <| .cons Tryd.sizeOf4 <| .nil) rfl) <| .put rfl (.tail _ (.tail _ (.tail _ (.tail _ (.tail _ (.tail _ (.tail _ (.tail _ (.head _))))))))) rfl rfl (fun _ _ => rfl) (fun es => ob_insertF keys_I rfl rfl rfl Tryd.underlying60 Tryd.underlying3) <| .cons rfl rfl (ob_buildS (.cons rfl <| .cons rfl <| .nil) Tryd.underlying45 Tryd.zeroValue45 (.cons Tryd.sizeOf3 <| .cons Tryd.sizeOf3 <| .cons Tryd.sizeOf4 <| .cons Tryd.sizeOf4 <| .cons Tryd.sizeOf4 <| .cons Tryd.sizeOf4 <| .nil) rfl) <| .put rfl (.tail _ (.tail _ (.tail _ (.tail _ (.tail _ (.tail _ (.tail _ (.tail _ (.tail _ (.head _)))))))))) rfl rfl (fun _ _ => rfl) (fun es => ob_insertF keys_I rfl rfl rfl Tryd.underlying60 Tryd.underlying3) <| .cons rfl rfl (ob_fieldAddrO (off := 1) rfl Tryd.underlying25 rfl rfl Tryd.sizeOf9 rfl) <| .cons rfl rfl (ob_load1 rfl hc1 Tryd.isAgg9 rfl) <| .cons rfl rfl (ob_callE rfl (.cons rfl <| .nil) Tryd.call40 (fun w m hK => by have hle_ := KC.le hK; have hA := KC.agree hK; exact kids_c (s := t.name) hA)) <| .cons rfl rfl (ob_buildS (.cons rfl <| .cons rfl <| .cons rfl <| .nil) Tryd.underlying45 Tryd.zeroValue45 (.cons Tryd.sizeOf3 <| .cons Tryd.sizeOf3 <| .cons Tryd.sizeOf4 <| .cons Tryd.sizeOf4 <| .cons Tryd.sizeOf4 <| .cons Tryd.sizeOf4 <| .nil) rfl) <| .put rfl (.tail _ (.tail _ (.tail _ (.tail _ (.tail _ (.tail _ (.tail _ (.tail _ (.tail _ (.tail _ (.head _))))))))))) rfl rfl (fun _ _ => rfl) (fun es => ob_insertF keys_I rfl rfl rfl Tryd.underlying60 Tryd.underlying3) <| .cons rfl rfl (ob_buildS (.cons rfl <| .cons rfl <| .cons rfl <| .nil) Tryd.underlying45 Tryd.zeroValue45 (.cons Tryd.sizeOf3 <| .cons Tryd.sizeOf3 <| .cons Tryd.sizeOf4 <| .cons Tryd.sizeOf4 <| .cons Tryd.sizeOf4 <| .cons Tryd.sizeOf4 <| .nil) rfl) <| .put rfl (.tail _ (.tail _ (.tail _ (.tail _ (.tail _ (.tail _ (.tail _ (.tail _ (.tail _ (.tail _ (.tail _ (.head _)))))))))))) rfl rfl (fun _ _ => rfl) (fun es => ob_insertF keys_I rfl rfl rfl Tryd.underlying60 Tryd.underlying3) <| .cons rfl rfl (ob_buildS (.cons rfl <| .cons rfl <| .cons rfl <| .nil) Tryd.underlying45 Tryd.zeroValue45 (.cons Tryd.sizeOf3 <| .cons Tryd.sizeOf3 <| .cons Tryd.sizeOf4 <| .cons Tryd.sizeOf4 <| .cons Tryd.sizeOf4 <| .cons Tryd.sizeOf4 <| .nil) rfl) <| .put rfl (.tail _ (.tail _ (.tail _ (.tail _ (.tail _ (.tail _ (.tail _ (.tail _ (.tail _ (.tail _ (.tail _ (.tail _ (.head _))))))))))))) rfl rfl (fun _ _ => rfl) (fun es => ob_insertF keys_I rfl rfl rfl Tryd.underlying60 Tryd.underlying3) <| .cons rfl rfl (ob_buildS (.cons rfl <| .cons rfl <| .cons rfl <| .nil) Tryd.underlying45 Tryd.zeroValue45 (.cons Tryd.sizeOf3 <| .cons Tryd.sizeOf3 <| .cons Tryd.sizeOf4 <| .cons Tryd.sizeOf4 <| .cons Tryd.sizeOf4 <| .cons Tryd.sizeOf4 <| .nil) rfl) <| .put rfl (.tail _ (.tail _ (.tail _ (.tail _ (.tail _ (.tail _ (.tail _ (.tail _ (.tail _ (.tail _ (.tail _ (.tail _ (.tail _ (.head _)))))))))))))) rfl rfl (fun _ _ => rfl) (fun es => ob_insertF keys_I rfl rfl rfl Tryd.underlying60 Tryd.underlying3) <| .cons rfl rfl (ob_buildS (.cons rfl <| .cons rfl <| .cons rfl <| .nil) Tryd.underlying45 Tryd.zeroValue45 (.cons Tryd.sizeOf3 <| .cons Tryd.sizeOf3 <| .cons Tryd.sizeOf4 <| .cons Tryd.sizeOf4 <| .cons Tryd.sizeOf4 <| .cons Tryd.sizeOf4 <| .nil) rfl) <| .put rfl (.tail _ (.tail _ (.tail _ (.tail _ (.tail _ (.tail _ (.tail _ (.tail _ (.tail _ (.tail _ (.tail _ (.tail _ (.tail _ (.tail _ (.head _))))))))))))))) rfl rfl (fun _ _ => rfl) (fun es => ob_insertF keys_I rfl rfl rfl Tryd.underlying60 Tryd.underlying3) <| .consA 7 rfl rfl rfl <| .cons rfl rfl (ob_fieldAddrO (off := 0) rfl Tryd.underlying25 rfl rfl Tryd.sizeOf3 rfl) <| .cons rfl rfl (ob_load1 rfl hc1 Tryd.isAgg3 rfl) <| .look rfl rfl rfl (ob_lookupU keys_I rfl rfl rfl Tryd.underlying60 Tryd.underlying3 Tryd.zeroValue45 ((sh_look t rfl))) <| .cons rfl rfl (ob_move rfl) <| .cons rfl rfl (ob_extract rfl rfl) <| .cons rfl rfl (ob_extract rfl rfl) <| .consT rfl rfl rfl (fun _ => rfl) rfl (ob_allocL Tryd.zeroValue45 rfl) <| .consT rfl rfl rfl (fun _ => rfl) rfl (ob_imgT 4 rfl rfl rfl fun y4 => ob_storeF rfl rfl rfl rfl rfl Tryd.sizeOf45 rfl rfl rfl) <| .cons rfl rfl (ob_assign rfl) <| .nil) ?_
  intro a2 w2 m2 hst2 hle2 hk2
  have hfr2 := hk2.fr (T' := [(1, _), (2, _), (5, _)]) (.old rfl rfl <| .old rfl rfl <| .new rfl <| .nil)
  obtain ⟨y5, e5, hy5⟩ := hk2.ex 7 rfl
  obtain ⟨g6, e6, _⟩ := hk2.ex 4 rfl
  replace hfr2 := hfr2.cons e6
  replace hst2 := hst2.fin (L' := [_, _]) (.cons e6 <| .cons e6 <| .nil)
  try simp only [List.take_succ_cons, List.take_zero, List.drop_succ_cons, List.drop_zero, List.cons_append, List.nil_append, List.append_nil, List.length_cons, List.length_nil, Nat.zero_add, Nat.reduceAdd] at hst2
  replace hc1 := hc1.mono hle2
  clear hst1 hfr1 hk2
  refine hK4 _ _ ?_; clear hK4
  refine seq_any fun _ hK7 => ?_
  refine seq_any fun _ hK8 => ?_
  refine rp0 hst2 hfr2 (.cons rfl (ob_fieldAddrO (off := 0) rfl Tryd.underlying25 rfl rfl Tryd.sizeOf3 rfl) <| .cons rfl (ob_load1 rfl hc1 Tryd.isAgg3 rfl) <| .cons rfl (ob_eql rfl rfl) <| .cons rfl (ob_move rfl) <| .cons rfl (ob_fieldAddrO (off := 0) rfl Tryd.underlying45 rfl rfl Tryd.sizeOf3 rfl) <| .cons rfl (ob_loadL (j := 1) rfl rfl Tryd.isAgg3 rfl) <| .cons rfl (ob_lss rfl rfl) <| .cons rfl (ob_and rfl rfl rfl) <| .nil) ?_
  intro a3 w3 m3 hst3 hle3 hk3
  have hfr3 := hk3.fr (T' := [(2, _), (5, _), (4, _), (39, _)]) (.old rfl rfl <| .old rfl rfl <| .old rfl rfl <| .new rfl <| .nil)
  clear hst2 hfr2 hk3
  refine hK8 _ _ ?_; clear hK8
  refine cond_any hfr3 rfl rfl (fun hb39 => ?_) (fun hb39 => ?_)
  · try simp only [nq1, nq2, nq3, nq4, nq5, nq6, nq7, nq8, nq9, u8_eq] at hb39
    refine seq_any fun _ hK9 => ?_
    refine ra0 (tch := [(1, 0, (fun _ => .blk _ _))]) hst3 hfr3 (.cons rfl (ob_loadLA (j := 1) rfl rfl Tryd.isAgg45 Tryd.sizeOf45 rfl) <| .consT rfl rfl (fun _ => rfl) rfl (ob_store' rfl rfl rfl Tryd.sizeOf45 rfl rfl rfl) <| .cons rfl (ob_assign rfl) <| .nil) ?_
    intro a4 w4 m4 hst4 hle4 hk4
    have hfr4 := hk4.fr (T' := [(2, _), (3, _)]) (.old rfl rfl <| .new rfl <| .nil)
    replace hst4 := hst4.fin (L' := [_, _]) (.cons rfl <| .nil)
    try simp only [List.take_succ_cons, List.take_zero, List.drop_succ_cons, List.drop_zero, List.cons_append, List.nil_append, List.append_nil, List.length_cons, List.length_nil, Nat.zero_add, Nat.reduceAdd] at hst4
    clear hst3 hfr3 hk4
    refine hK9 _ _ ?_; clear hK9
    refine wp_ret ?_
    repeat (with_reducible first | refine then_ret ?_ | refine block_ret ?_)
    exact fn_ret hst4 hfr4 rfl (.cell rfl (load_blk (blk_heap (hst4.loc.at_ (k := 0) rfl)) Tryd.isAgg45 Tryd.sizeOf45) <| .tmp rfl <| .nil) (by rw [show (shB t && !(decide (t.kind = 11) && decide ((shG t).kids < 0))) = false from by simp [hb39]]; rfl)
  · try simp only [nq1, nq2, nq3, nq4, nq5, nq6, nq7, nq8, nq9, u8_eq] at hb39
    refine wp_skip ?_
    refine hK7 _ _ ?_; clear hK7
    refine seq_any fun _ hK11 => ?_
    refine ra0 (tch := [(2, 0, (fun _ => .blk _ _))]) hst3 hfr3 (.cons rfl (ob_loadLA (j := 1) rfl rfl Tryd.isAgg45 Tryd.sizeOf45 rfl) <| .cons rfl (ob_move rfl) <| .consT rfl rfl (fun _ => rfl) rfl (ob_store' rfl rfl rfl Tryd.sizeOf45 rfl rfl rfl) <| .cons rfl (ob_assign rfl) <| .nil) ?_
    intro a4 w4 m4 hst4 hle4 hk4
    have hfr4 := hk4.fr (T' := [(2, _), (3, _)]) (.old rfl rfl <| .new rfl <| .nil)
    replace hst4 := hst4.fin (L' := [_, _]) (.cons rfl <| .nil)
    try simp only [List.take_succ_cons, List.take_zero, List.drop_succ_cons, List.drop_zero, List.cons_append, List.nil_append, List.append_nil, List.length_cons, List.length_nil, Nat.zero_add, Nat.reduceAdd] at hst4
    clear hst3 hfr3 hk4
    refine hK11 _ _ ?_; clear hK11
    refine wp_ret ?_
    repeat (with_reducible first | refine then_ret ?_ | refine block_ret ?_)
    exact fn_ret hst4 hfr4 rfl (.cell rfl (load_blk (blk_heap (hst4.loc.at_ (k := 0) rfl)) Tryd.isAgg45 Tryd.sizeOf45) <| .tmp rfl <| .nil) (by rw [show (shB t && !(decide (t.kind = 11) && decide ((shG t).kids < 0))) = shB t from by rcases hb39 with h | h <;> simp [h]]; rfl)

set_option maxHeartbeats 1600000 in
theorem arms_c {w : World} {m : Mem} {t : Cd} {vs_t : List Value} (hA : Agree w m) (h_t : CdR m t vs_t) : FnV Tryd.prog 27 #[.agg vs_t.toArray] w m (fun _ _ v => v = .bool (armsOk t.kind 0 t.arms)) := by
  obtain ⟨⟨oK_t, cK_t, oA_t, cA_t⟩, rfl, ⟨hik_t, hin_t⟩, hkk_t, haa_t⟩ := h_t.open_
  dsimp only at hkk_t haa_t
  have hbg_t := hkk_t.big; have hcp_t := hkk_t.cap; have hbh_t := haa_t.big; have hcq_t := haa_t.cap
  refine fn_enter (vs := [_]) Tryd.func27 rfl rfl rfl fun a0 hfr0 => ?_
  have hst0 := st_enter hA (loc_nil [] _ w m)
  have hM : MLe m m := MLe.refl m
  refine seq_any fun _ hK1 => ?_
  refine rp0 hst0 hfr0 (.cons rfl (ob_box rfl rfl) <| .cons rfl (ob_assign rfl) <| .nil) ?_
  intro a1 w1 m1 hst1 hle1 hk1
  have hfr1 := hk1.fr (T' := []) (.nil)
  obtain ⟨g2, e2, hc1⟩ := hk1.ex 1 rfl
  replace hfr1 := hfr1.cons e2
  replace h_t := h_t.mono hle1
  replace hkk_t := hkk_t.mono hle1
  replace haa_t := haa_t.mono hle1
  clear hst0 hfr0 hk1
  refine hK1 _ _ ?_; clear hK1
  refine seq_any fun _ hK3 => ?_
  refine seq_any fun _ hK4 => ?_
  refine rp0 hst1 hfr1 (.cons rfl (ob_fieldAddrO (off := 5) rfl Tryd.underlying25 rfl rfl Tryd.sizeOf23 rfl) <| .cons rfl (ob_load1 rfl hc1 Tryd.isAgg23 rfl) <| .cons rfl (ob_len rfl Tryd.underlying23) <| .cons rfl (ob_move rfl) <| .nil) ?_
  intro a2 w2 m2 hst2 hle2 hk2
  have hfr2 := hk2.fr (T' := [(1, _), (7, _), (8, _), (9, _)]) (.old rfl rfl <| .new rfl <| .new rfl <| .new rfl <| .nil)
  replace h_t := h_t.mono hle2
  replace hkk_t := hkk_t.mono hle2
  replace haa_t := haa_t.mono hle2
  replace hc1 := hc1.mono hle2
  clear hst1 hfr1 hk2
  refine hK4 _ _ ?_; clear hK4
  refine wp_block ?_
  refine loop_any (T := [(1, _), (7, _), (8, _)]) (fun (y : Nat) => ([(9, .int .i64 (y : Int))] : List (Nat × Value))) (fun _ => _) (fun (y : Nat) m => (y ≤ t.arms.length) ∧ (armsOk t.kind 0 t.arms = armsOk t.kind y (t.arms.drop y))) (fun y => t.arms.length - y) (0) ⟨hst2, MLe.refl _, hfr2.sub (.cons rfl <| .cons rfl <| .cons rfl <| .cons rfl <| .nil), ⟨Nat.zero_le _, rfl⟩⟩ fun y a3 w3 m3 hh3 => ?_
  have hst3 := hh3.st; have hle3 := hh3.le; have hfr3 := hh3.fr; have hrel := hh3.rel; clear hh3
  replace h_t := h_t.mono hle3
  replace hkk_t := hkk_t.mono hle3
  replace haa_t := haa_t.mono hle3
  replace hc1 := hc1.mono hle3
  clear hst2 hfr2
  obtain ⟨hyn, hrem⟩ := hrel
  have hlh3 := hle3
  refine seq_any fun _ hK6 => ?_
  refine rp0 hst3 hfr3 (.cons rfl (ob_lss rfl rfl) <| .nil) ?_
  intro a4 w4 m4 hst4 hle4 hk4
  have hfr4 := hk4.fr (T' := [(9, _), (1, _), (7, _), (8, _), (10, _)]) (.old rfl rfl <| .old rfl rfl <| .old rfl rfl <| .old rfl rfl <| .new rfl <| .nil)
  replace h_t := h_t.mono hle4
  replace hkk_t := hkk_t.mono hle4
  replace haa_t := haa_t.mono hle4
  replace hc1 := hc1.mono hle4
  have hlh4 := hlh3.trans hle4
  clear hst3 hfr3 hk4
  refine hK6 _ _ ?_; clear hK6
  refine seq_any fun _ hK7 => ?_
  refine cond_any hfr4 rfl rfl (fun hb10 => ?_) (fun hb10 => ?_)
  · try simp only [nq1, nq2, nq3, nq4, nq5, nq6, nq7, nq8, nq9, u8_eq] at hb10
    refine wp_skip ?_
    refine hK7 _ _ ?_; clear hK7
    refine seq_any fun _ hK8 => ?_
    refine wp_block ?_
    refine seq_any fun _ hK9 => ?_
    obtain ⟨p10, vs10, x10, ho10, hd10, hm_x10, ht10, hcv10, hl10, hv10⟩ := haa_t.nth (k := y) (by omega)
    cases ho10
    obtain ⟨oV10, cV10, bs10, rfl, hva10, hbd10⟩ := hv10.open_
    have hbv10 := hva10.big; have hcv10_ := hva10.cap
    obtain ⟨⟨oK10b, cK10b, oA10b, cA10b⟩, rfl, ⟨hik10b, hin10b⟩, hkk10b, haa10b⟩ := hbd10.open_
    dsimp only at hkk10b haa10b
    have hbg10b := hkk10b.big; have hcp10b := hkk10b.cap; have hbh10b := haa10b.big; have hcq10b := haa10b.cap
    try rw [hd10] at hrem
    try simp only [armsOk] at hrem
    replace hst4 := hst4.more (r := .free) trivial List.nodup_nil (by simp [Res.blocks])
    refine ra0 (tch := [(3, 0, (fun v => .blk v _)), (5, 0, (fun v => .blk v _))]) hst4 hfr4 (.cons rfl (ob_move rfl) <| .cons rfl (ob_indexAddr (k := y) rfl rfl Tryd.underlying23 Tryd.sizeOf35 rfl (by omega)) <| .cons rfl (ob_loadS' rfl hcv10 Tryd.isAgg35 Tryd.sizeOf35 rfl rfl) <| .consT rfl rfl (fun _ => rfl) rfl (ob_allocL Tryd.zeroValue35 rfl) <| .cons rfl (ob_assign rfl) <| .consT rfl rfl (fun _ => rfl) rfl (ob_imgT 4 rfl rfl rfl fun y4 => ob_storeF rfl rfl rfl rfl rfl Tryd.sizeOf35 rfl rfl rfl) <| .nil) ?_
    intro a5 w5 m5 hst5 hle5 hk5
    have hfr5 := hk5.fr (T' := [(9, _), (1, _), (7, _), (8, _), (3, _)]) (.old rfl rfl <| .old rfl rfl <| .old rfl rfl <| .old rfl rfl <| .new rfl <| .nil)
    obtain ⟨g11, e11, _⟩ := hk5.ex 4 rfl
    replace hfr5 := hfr5.cons e11
    replace hst5 := hst5.fin (L' := [_]) (.cons e11 <| .cons e11 <| .nil)
    try simp only [List.take_succ_cons, List.take_zero, List.drop_succ_cons, List.drop_zero, List.cons_append, List.nil_append, List.append_nil, List.length_cons, List.length_nil, Nat.zero_add, Nat.reduceAdd] at hst5
    replace h_t := h_t.mono hle5
    replace hkk_t := hkk_t.mono hle5
    replace haa_t := haa_t.mono hle5
    replace hc1 := hc1.mono hle5
    replace hcv10 := hcv10.mono hle5
    replace hv10 := hv10.mono hle5
    replace hva10 := hva10.mono hle5
    replace hbd10 := hbd10.mono hle5
    replace hkk10b := hkk10b.mono hle5
    replace haa10b := haa10b.mono hle5
    have hlh5 := hlh4.trans hle5
    clear hst4 hfr4 hk5
    refine hK9 _ _ ?_; clear hK9
    refine seq_any fun _ hK12 => ?_
    refine rp0 hst5 hfr5 (.cons rfl (ob_assign rfl) <| .nil) ?_
    intro a6 w6 m6 hst6 hle6 hk6
    have hfr6 := hk6.fr (T' := [(9, _), (1, _), (7, _), (8, _), (3, _), (4, _), (5, _)]) (.old rfl rfl <| .old rfl rfl <| .old rfl rfl <| .old rfl rfl <| .old rfl rfl <| .old rfl rfl <| .new rfl <| .nil)
    replace h_t := h_t.mono hle6
    replace hkk_t := hkk_t.mono hle6
    replace haa_t := haa_t.mono hle6
    replace hc1 := hc1.mono hle6
    replace hcv10 := hcv10.mono hle6
    replace hv10 := hv10.mono hle6
    replace hva10 := hva10.mono hle6
    replace hbd10 := hbd10.mono hle6
    replace hkk10b := hkk10b.mono hle6
    replace haa10b := haa10b.mono hle6
    have hlh6 := hlh5.trans hle6
    clear hst5 hfr5 hk6
    refine hK12 _ _ ?_; clear hK12
    refine seq_any fun _ hK13 => ?_
    refine wp_block ?_
    refine seq_any fun _ hK14 => ?_
    refine rp0 hst6 hfr6 (.cons rfl (ob_fieldAddrO (off := 1) rfl Tryd.underlying35 rfl rfl Tryd.sizeOf29 rfl) <| .cons rfl (ob_loadL (j := 0) rfl rfl Tryd.isAgg29 rfl) <| .cons rfl (ob_callE rfl (.cons rfl <| .nil) Tryd.call41 (fun w m hK => by have hle_ := KC.le hK; have hA := KC.agree hK; have h_t := h_t.mono hle_; have hkk_t := hkk_t.mono hle_; have haa_t := haa_t.mono hle_; have hc1 := hc1.mono hle_; have hcv10 := hcv10.mono hle_; have hv10 := hv10.mono hle_; have hva10 := hva10.mono hle_; have hbd10 := hbd10.mono hle_; have hkk10b := hkk10b.mono hle_; have haa10b := haa10b.mono hle_; exact named_c hA (by first | assumption | omega | simp_all))) <| .cons rfl (ob_not rfl) <| .cons rfl (ob_move rfl) <| .cons rfl (ob_fieldAddrO (off := 0) rfl Tryd.underlying35 rfl rfl Tryd.sizeOf9 rfl) <| .cons rfl (ob_loadL (j := 0) rfl rfl Tryd.isAgg9 rfl) <| .cons rfl (ob_seql rfl rfl) <| .cons rfl (ob_or rfl rfl rfl) <| .cons rfl (ob_assign rfl) <| .nil) ?_
    intro a7 w7 m7 hst7 hle7 hk7
    have hfr7 := hk7.fr (T' := [(9, _), (1, _), (7, _), (8, _), (3, _), (4, _), (5, _), (14, _)]) (.old rfl rfl <| .old rfl rfl <| .old rfl rfl <| .old rfl rfl <| .old rfl rfl <| .old rfl rfl <| .old rfl rfl <| .new rfl <| .nil)
    replace hc1 := hc1.mono hle7
    have hlh7 := hlh6.trans hle7
    clear hst6 hfr6 hk7
    refine hK14 _ _ ?_; clear hK14
    refine cond_any hfr7 rfl rfl (fun hb14 => ?_) (fun hb14 => ?_)
    · try simp only [nq1, nq2, nq3, nq4, nq5, nq6, nq7, nq8, nq9, u8_eq] at hb14
      refine seq_any fun _ hK15 => ?_
      refine rp0 hst7 hfr7 (.cons rfl (ob_assign rfl) <| .nil) ?_
      intro a8 w8 m8 hst8 hle8 hk8
      have hfr8 := hk8.fr (T' := [(9, _), (2, _)]) (.old rfl rfl <| .new rfl <| .nil)
      have hlh8 := hlh7.trans hle8
      clear hst7 hfr7 hk8
      refine hK15 _ _ ?_; clear hK15
      refine wp_ret ?_
      repeat (with_reducible first | refine then_ret ?_ | refine block_ret ?_)
      exact fn_ret hst8 hfr8 rfl (.tmp rfl <| .nil) (by rw [hrem, show armOk t.kind y x10 = false from by unfold armOk; first | (simp_all; done) | (simp_all; omega) | grind]; rfl)
    · try simp only [nq1, nq2, nq3, nq4, nq5, nq6, nq7, nq8, nq9, u8_eq] at hb14
      refine seq_any fun _ hK17 => ?_
      refine rp0 hst7 hfr7 (.cons rfl (ob_fieldAddrO (off := 0) rfl Tryd.underlying25 rfl rfl Tryd.sizeOf3 rfl) <| .cons rfl (ob_load1 rfl hc1 Tryd.isAgg3 rfl) <| .cons rfl (ob_eql rfl rfl) <| .cons rfl (ob_assign rfl) <| .nil) ?_
      intro a8 w8 m8 hst8 hle8 hk8
      have hfr8 := hk8.fr (T' := [(9, _), (1, _), (7, _), (8, _), (3, _), (4, _), (5, _), (24, _)]) (.old rfl rfl <| .old rfl rfl <| .old rfl rfl <| .old rfl rfl <| .old rfl rfl <| .old rfl rfl <| .old rfl rfl <| .new rfl <| .nil)
      replace hc1 := hc1.mono hle8
      have hlh8 := hlh7.trans hle8
      clear hst7 hfr7 hk8
      refine hK17 _ _ ?_; clear hK17
      refine cond_any hfr8 rfl rfl (fun hb24 => ?_) (fun hb24 => ?_)
      · try simp only [nq1, nq2, nq3, nq4, nq5, nq6, nq7, nq8, nq9, u8_eq] at hb24
        refine rp0 hst8 hfr8 (.cons rfl (ob_fieldAddrO (off := 1) rfl Tryd.underlying35 rfl rfl Tryd.sizeOf29 rfl) <| .cons rfl (ob_loadL (j := 0) rfl rfl Tryd.isAgg29 rfl) <| .cons rfl (ob_len rfl Tryd.underlying29) <| .cons rfl (ob_assign rfl) <| .nil) ?_
        intro a9 w9 m9 hst9 hle9 hk9
        have hfr9 := hk9.fr (T' := [(9, _), (1, _), (7, _), (8, _), (3, _), (4, _), (5, _)]) (.old rfl rfl <| .old rfl rfl <| .old rfl rfl <| .old rfl rfl <| .old rfl rfl <| .old rfl rfl <| .new rfl <| .nil)
        replace hc1 := hc1.mono hle9
        have hlh9 := hlh8.trans hle9
        clear hst8 hfr8 hk9
        refine hK13 _ _ ?_; clear hK13
        refine seq_any fun _ hK18 => ?_
        refine rp0 hst9 hfr9 (.cons rfl (ob_fieldAddrO (off := 1) rfl Tryd.underlying35 rfl rfl Tryd.sizeOf29 rfl) <| .cons rfl (ob_loadL (j := 0) rfl rfl Tryd.isAgg29 rfl) <| .cons rfl (ob_len rfl Tryd.underlying29) <| .cons rfl (ob_move rfl) <| .cons rfl (ob_neq rfl rfl) <| .cons rfl (ob_move rfl) <| .cons rfl (ob_fieldAddrO (off := 2) rfl Tryd.underlying35 rfl rfl Tryd.sizeOf4 rfl) <| .cons rfl (ob_loadL (j := 0) rfl rfl Tryd.isAgg4 rfl) <| .cons rfl (ob_move rfl) <| .cons rfl (ob_move rfl) <| .cons rfl (ob_eql rfl rfl) <| .cons rfl (ob_move rfl) <| .cons rfl (ob_fieldAddrO (off := 0) rfl Tryd.underlying25 rfl rfl Tryd.sizeOf3 rfl) <| .cons rfl (ob_load1 rfl hc1 Tryd.isAgg3 rfl) <| .cons rfl (ob_eql rfl rfl) <| .cons rfl (ob_or rfl rfl rfl) <| .cons rfl (ob_and rfl rfl rfl) <| .cons rfl (ob_or rfl rfl rfl) <| .nil) ?_
        intro a10 w10 m10 hst10 hle10 hk10
        have hfr10 := hk10.fr (T' := [(9, _), (1, _), (7, _), (8, _), (63, _)]) (.old rfl rfl <| .old rfl rfl <| .old rfl rfl <| .old rfl rfl <| .new rfl <| .nil)
        have hlh10 := hlh9.trans hle10
        clear hst9 hfr9 hk10
        refine hK18 _ _ ?_; clear hK18
        refine cond_any hfr10 rfl rfl (fun hb63 => ?_) (fun hb63 => ?_)
        · try simp only [nq1, nq2, nq3, nq4, nq5, nq6, nq7, nq8, nq9, u8_eq] at hb63
          refine seq_any fun _ hK19 => ?_
          refine rp0 hst10 hfr10 (.cons rfl (ob_assign rfl) <| .nil) ?_
          intro a11 w11 m11 hst11 hle11 hk11
          have hfr11 := hk11.fr (T' := [(9, _), (2, _)]) (.old rfl rfl <| .new rfl <| .nil)
          have hlh11 := hlh10.trans hle11
          clear hst10 hfr10 hk11
          refine hK19 _ _ ?_; clear hK19
          refine wp_ret ?_
          repeat (with_reducible first | refine then_ret ?_ | refine block_ret ?_)
          exact fn_ret hst11 hfr11 rfl (.tmp rfl <| .nil) (by rw [hrem, show armOk t.kind y x10 = false from by unfold armOk; first | (simp_all; done) | (simp_all; omega) | grind]; rfl)
        · try simp only [nq1, nq2, nq3, nq4, nq5, nq6, nq7, nq8, nq9, u8_eq] at hb63
          refine wp_skip ?_
          refine hK8 _ _ ?_; clear hK8
          refine rp0 hst10 hfr10 (.cons rfl (ob_add rfl rfl ⟨by omega, by omega⟩) <| .cons rfl (ob_move rfl) <| .nil) ?_
          intro a11 w11 m11 hst11 hle11 hk11
          have hfr11 := hk11.fr (T' := [(1, _), (7, _), (8, _), (9, _)]) (.old rfl rfl <| .old rfl rfl <| .old rfl rfl <| .new rfl <| .nil)
          have hlh11 := hlh10.trans hle11
          clear hst10 hfr10 hk11
          have hst11 := hst11.take 0
          exact ⟨y + 1, m11, by show t.arms.length - (y + 1) < t.arms.length - y; omega, ⟨hst11, hlh11, hfr11.sub (.cons rfl <| .cons rfl <| .cons rfl <| .cons rfl <| .nil), ⟨by show y + 1 ≤ t.arms.length; omega, by rw [hrem, show armOk t.kind y x10 = true from by unfold armOk; first | (simp_all; done) | (simp_all; omega) | grind]; rfl⟩⟩⟩
      · try simp only [nq1, nq2, nq3, nq4, nq5, nq6, nq7, nq8, nq9, u8_eq] at hb24
        refine seq_any fun _ hK21 => ?_
        refine rp0 hst8 hfr8 (.cons rfl (ob_move rfl) <| .cons rfl (ob_eql rfl rfl) <| .cons rfl (ob_move rfl) <| .cons rfl (ob_fieldAddrO (off := 0) rfl Tryd.underlying35 rfl rfl Tryd.sizeOf9 rfl) <| .cons rfl (ob_loadL (j := 0) rfl rfl Tryd.isAgg9 rfl) <| .cons rfl (ob_sneq rfl rfl) <| .cons rfl (ob_and rfl rfl rfl) <| .cons rfl (ob_assign rfl) <| .nil) ?_
        intro a9 w9 m9 hst9 hle9 hk9
        have hfr9 := hk9.fr (T' := [(9, _), (1, _), (7, _), (8, _), (3, _), (4, _), (5, _), (31, _)]) (.old rfl rfl <| .old rfl rfl <| .old rfl rfl <| .old rfl rfl <| .old rfl rfl <| .old rfl rfl <| .old rfl rfl <| .new rfl <| .nil)
        replace hc1 := hc1.mono hle9
        have hlh9 := hlh8.trans hle9
        clear hst8 hfr8 hk9
        refine hK21 _ _ ?_; clear hK21
        refine cond_any hfr9 rfl rfl (fun hb31 => ?_) (fun hb31 => ?_)
        · try simp only [nq1, nq2, nq3, nq4, nq5, nq6, nq7, nq8, nq9, u8_eq] at hb31
          refine seq_any fun _ hK22 => ?_
          refine rp0 hst9 hfr9 (.cons rfl (ob_assign rfl) <| .nil) ?_
          intro a10 w10 m10 hst10 hle10 hk10
          have hfr10 := hk10.fr (T' := [(9, _), (2, _)]) (.old rfl rfl <| .new rfl <| .nil)
          have hlh10 := hlh9.trans hle10
          clear hst9 hfr9 hk10
          refine hK22 _ _ ?_; clear hK22
          refine wp_ret ?_
          repeat (with_reducible first | refine then_ret ?_ | refine block_ret ?_)
          exact fn_ret hst10 hfr10 rfl (.tmp rfl <| .nil) (by rw [hrem, show armOk t.kind y x10 = false from by unfold armOk; first | (simp_all; done) | (simp_all; omega) | grind]; rfl)
        · try simp only [nq1, nq2, nq3, nq4, nq5, nq6, nq7, nq8, nq9, u8_eq] at hb31
          refine seq_any fun _ hK24 => ?_
          refine rp0 hst9 hfr9 (.cons rfl (ob_move rfl) <| .cons rfl (ob_eql rfl rfl) <| .cons rfl (ob_move rfl) <| .cons rfl (ob_fieldAddrO (off := 2) rfl Tryd.underlying35 rfl rfl Tryd.sizeOf4 rfl) <| .cons rfl (ob_loadL (j := 0) rfl rfl Tryd.isAgg4 rfl) <| .cons rfl (ob_or rfl rfl rfl) <| .cons rfl (ob_assign rfl) <| .nil) ?_
          intro a10 w10 m10 hst10 hle10 hk10
          have hfr10 := hk10.fr (T' := [(9, _), (1, _), (7, _), (8, _), (3, _), (4, _), (5, _), (39, _)]) (.old rfl rfl <| .old rfl rfl <| .old rfl rfl <| .old rfl rfl <| .old rfl rfl <| .old rfl rfl <| .old rfl rfl <| .new rfl <| .nil)
          replace hc1 := hc1.mono hle10
          have hlh10 := hlh9.trans hle10
          clear hst9 hfr9 hk10
          refine hK24 _ _ ?_; clear hK24
          refine cond_any hfr10 rfl rfl (fun hb39 => ?_) (fun hb39 => ?_)
          · try simp only [nq1, nq2, nq3, nq4, nq5, nq6, nq7, nq8, nq9, u8_eq] at hb39
            refine rp0 hst10 hfr10 (.cons rfl (ob_assign rfl) <| .nil) ?_
            intro a11 w11 m11 hst11 hle11 hk11
            have hfr11 := hk11.fr (T' := [(9, _), (1, _), (7, _), (8, _), (3, _), (4, _), (5, _)]) (.old rfl rfl <| .old rfl rfl <| .old rfl rfl <| .old rfl rfl <| .old rfl rfl <| .old rfl rfl <| .new rfl <| .nil)
            replace hc1 := hc1.mono hle11
            have hlh11 := hlh10.trans hle11
            clear hst10 hfr10 hk11
            refine hK13 _ _ ?_; clear hK13
            refine seq_any fun _ hK25 => ?_
            refine rp0 hst11 hfr11 (.cons rfl (ob_fieldAddrO (off := 1) rfl Tryd.underlying35 rfl rfl Tryd.sizeOf29 rfl) <| .cons rfl (ob_loadL (j := 0) rfl rfl Tryd.isAgg29 rfl) <| .cons rfl (ob_len rfl Tryd.underlying29) <| .cons rfl (ob_move rfl) <| .cons rfl (ob_neq rfl rfl) <| .cons rfl (ob_move rfl) <| .cons rfl (ob_fieldAddrO (off := 2) rfl Tryd.underlying35 rfl rfl Tryd.sizeOf4 rfl) <| .cons rfl (ob_loadL (j := 0) rfl rfl Tryd.isAgg4 rfl) <| .cons rfl (ob_move rfl) <| .cons rfl (ob_move rfl) <| .cons rfl (ob_eql rfl rfl) <| .cons rfl (ob_move rfl) <| .cons rfl (ob_fieldAddrO (off := 0) rfl Tryd.underlying25 rfl rfl Tryd.sizeOf3 rfl) <| .cons rfl (ob_load1 rfl hc1 Tryd.isAgg3 rfl) <| .cons rfl (ob_eql rfl rfl) <| .cons rfl (ob_or rfl rfl rfl) <| .cons rfl (ob_and rfl rfl rfl) <| .cons rfl (ob_or rfl rfl rfl) <| .nil) ?_
            intro a12 w12 m12 hst12 hle12 hk12
            have hfr12 := hk12.fr (T' := [(9, _), (1, _), (7, _), (8, _), (63, _)]) (.old rfl rfl <| .old rfl rfl <| .old rfl rfl <| .old rfl rfl <| .new rfl <| .nil)
            have hlh12 := hlh11.trans hle12
            clear hst11 hfr11 hk12
            refine hK25 _ _ ?_; clear hK25
            refine cond_any hfr12 rfl rfl (fun hb63 => ?_) (fun hb63 => ?_)
            · try simp only [nq1, nq2, nq3, nq4, nq5, nq6, nq7, nq8, nq9, u8_eq] at hb63
              refine seq_any fun _ hK26 => ?_
              refine rp0 hst12 hfr12 (.cons rfl (ob_assign rfl) <| .nil) ?_
              intro a13 w13 m13 hst13 hle13 hk13
              have hfr13 := hk13.fr (T' := [(9, _), (2, _)]) (.old rfl rfl <| .new rfl <| .nil)
              have hlh13 := hlh12.trans hle13
              clear hst12 hfr12 hk13
              refine hK26 _ _ ?_; clear hK26
              refine wp_ret ?_
              repeat (with_reducible first | refine then_ret ?_ | refine block_ret ?_)
              exact fn_ret hst13 hfr13 rfl (.tmp rfl <| .nil) (by rw [hrem, show armOk t.kind y x10 = false from by unfold armOk; first | (simp_all; done) | (simp_all; omega) | grind]; rfl)
            · try simp only [nq1, nq2, nq3, nq4, nq5, nq6, nq7, nq8, nq9, u8_eq] at hb63
              refine wp_skip ?_
              refine hK8 _ _ ?_; clear hK8
              refine rp0 hst12 hfr12 (.cons rfl (ob_add rfl rfl ⟨by omega, by omega⟩) <| .cons rfl (ob_move rfl) <| .nil) ?_
              intro a13 w13 m13 hst13 hle13 hk13
              have hfr13 := hk13.fr (T' := [(1, _), (7, _), (8, _), (9, _)]) (.old rfl rfl <| .old rfl rfl <| .old rfl rfl <| .new rfl <| .nil)
              have hlh13 := hlh12.trans hle13
              clear hst12 hfr12 hk13
              have hst13 := hst13.take 0
              exact ⟨y + 1, m13, by show t.arms.length - (y + 1) < t.arms.length - y; omega, ⟨hst13, hlh13, hfr13.sub (.cons rfl <| .cons rfl <| .cons rfl <| .cons rfl <| .nil), ⟨by show y + 1 ≤ t.arms.length; omega, by rw [hrem, show armOk t.kind y x10 = true from by unfold armOk; first | (simp_all; done) | (simp_all; omega) | grind]; rfl⟩⟩⟩
          · try simp only [nq1, nq2, nq3, nq4, nq5, nq6, nq7, nq8, nq9, u8_eq] at hb39
            refine wp_skip ?_
            refine hK13 _ _ ?_; clear hK13
            refine seq_any fun _ hK28 => ?_
            refine rp0 hst10 hfr10 (.cons rfl (ob_fieldAddrO (off := 1) rfl Tryd.underlying35 rfl rfl Tryd.sizeOf29 rfl) <| .cons rfl (ob_loadL (j := 0) rfl rfl Tryd.isAgg29 rfl) <| .cons rfl (ob_len rfl Tryd.underlying29) <| .cons rfl (ob_move rfl) <| .cons rfl (ob_neq rfl rfl) <| .cons rfl (ob_move rfl) <| .cons rfl (ob_fieldAddrO (off := 2) rfl Tryd.underlying35 rfl rfl Tryd.sizeOf4 rfl) <| .cons rfl (ob_loadL (j := 0) rfl rfl Tryd.isAgg4 rfl) <| .cons rfl (ob_move rfl) <| .cons rfl (ob_move rfl) <| .cons rfl (ob_eql rfl rfl) <| .cons rfl (ob_move rfl) <| .cons rfl (ob_fieldAddrO (off := 0) rfl Tryd.underlying25 rfl rfl Tryd.sizeOf3 rfl) <| .cons rfl (ob_load1 rfl hc1 Tryd.isAgg3 rfl) <| .cons rfl (ob_eql rfl rfl) <| .cons rfl (ob_or rfl rfl rfl) <| .cons rfl (ob_and rfl rfl rfl) <| .cons rfl (ob_or rfl rfl rfl) <| .nil) ?_
            intro a11 w11 m11 hst11 hle11 hk11
            have hfr11 := hk11.fr (T' := [(9, _), (1, _), (7, _), (8, _), (63, _)]) (.old rfl rfl <| .old rfl rfl <| .old rfl rfl <| .old rfl rfl <| .new rfl <| .nil)
            have hlh11 := hlh10.trans hle11
            clear hst10 hfr10 hk11
            refine hK28 _ _ ?_; clear hK28
            refine cond_any hfr11 rfl rfl (fun hb63 => ?_) (fun hb63 => ?_)
            · try simp only [nq1, nq2, nq3, nq4, nq5, nq6, nq7, nq8, nq9, u8_eq] at hb63
              refine seq_any fun _ hK29 => ?_
              refine rp0 hst11 hfr11 (.cons rfl (ob_assign rfl) <| .nil) ?_
              intro a12 w12 m12 hst12 hle12 hk12
              have hfr12 := hk12.fr (T' := [(9, _), (2, _)]) (.old rfl rfl <| .new rfl <| .nil)
              have hlh12 := hlh11.trans hle12
              clear hst11 hfr11 hk12
              refine hK29 _ _ ?_; clear hK29
              refine wp_ret ?_
              repeat (with_reducible first | refine then_ret ?_ | refine block_ret ?_)
              exact fn_ret hst12 hfr12 rfl (.tmp rfl <| .nil) (by rw [hrem, show armOk t.kind y x10 = false from by unfold armOk; first | (simp_all; done) | (simp_all; omega) | grind]; rfl)
            · try simp only [nq1, nq2, nq3, nq4, nq5, nq6, nq7, nq8, nq9, u8_eq] at hb63
              refine wp_skip ?_
              refine hK8 _ _ ?_; clear hK8
              refine rp0 hst11 hfr11 (.cons rfl (ob_add rfl rfl ⟨by omega, by omega⟩) <| .cons rfl (ob_move rfl) <| .nil) ?_
              intro a12 w12 m12 hst12 hle12 hk12
              have hfr12 := hk12.fr (T' := [(1, _), (7, _), (8, _), (9, _)]) (.old rfl rfl <| .old rfl rfl <| .old rfl rfl <| .new rfl <| .nil)
              have hlh12 := hlh11.trans hle12
              clear hst11 hfr11 hk12
              have hst12 := hst12.take 0
              exact ⟨y + 1, m12, by show t.arms.length - (y + 1) < t.arms.length - y; omega, ⟨hst12, hlh12, hfr12.sub (.cons rfl <| .cons rfl <| .cons rfl <| .cons rfl <| .nil), ⟨by show y + 1 ≤ t.arms.length; omega, by rw [hrem, show armOk t.kind y x10 = true from by unfold armOk; first | (simp_all; done) | (simp_all; omega) | grind]; rfl⟩⟩⟩
  · try simp only [nq1, nq2, nq3, nq4, nq5, nq6, nq7, nq8, nq9, u8_eq] at hb10
    have hge : y = t.arms.length := by omega
    rw [List.drop_of_length_le (by omega)] at hrem
    simp only [armsOk] at hrem
    refine wp_exit ?_
    refine hK3 _ _ ?_; clear hK3
    refine seq_any fun _ hK31 => ?_
    refine rp0 hst4 hfr4 (.cons rfl (ob_assign rfl) <| .nil) ?_
    intro a5 w5 m5 hst5 hle5 hk5
    have hfr5 := hk5.fr (T' := [(9, _), (2, _)]) (.old rfl rfl <| .new rfl <| .nil)
    have hlh5 := hlh4.trans hle5
    clear hst4 hfr4 hk5
    refine hK31 _ _ ?_; clear hK31
    refine wp_ret ?_
    repeat (with_reducible first | refine then_ret ?_ | refine block_ret ?_)
    exact fn_ret hst5 hfr5 rfl (.tmp rfl <| .nil) (by refine congrArg Value.bool ?_; rw [hrem])

abbrev right_G (t : Cd) : Prop := ∀ {w : World} {m : Mem} {vs_t : List Value} (hA : Agree w m) (h_t : CdR m t vs_t), FnV Tryd.prog 12 #[.agg vs_t.toArray] w m (fun _ _ v => v = .bool (rightC t))
set_option maxHeartbeats 1600000 in
theorem right_s {t : Cd} (ihk : ∀ u ∈ t.kids, right_G u) (iha : ∀ a ∈ t.arms, right_G a.body) {w : World} {m : Mem} {vs_t : List Value} (hA : Agree w m) (h_t : CdR m t vs_t) : FnV Tryd.prog 12 #[.agg vs_t.toArray] w m (fun _ _ v => v = .bool (rightC t)) := by
  obtain ⟨⟨oK_t, cK_t, oA_t, cA_t⟩, rfl, ⟨hik_t, hin_t⟩, hkk_t, haa_t⟩ := h_t.open_
  dsimp only at hkk_t haa_t
  have hbg_t := hkk_t.big; have hcp_t := hkk_t.cap; have hbh_t := haa_t.big; have hcq_t := haa_t.cap
  refine fn_enterM (vs := [_]) Tryd.func12 rfl rfl fun a0 hfr0 => ?_
  have hst0 := st_enter hA (loc_nil [] _ w m)
  have hM : MLe m m := MLe.refl m
  refine seq_any fun _ hK1 => ?_
  replace hst0 := hst0.more (r := .free) trivial List.nodup_nil (by simp [Res.blocks])
  refine ra0 (tch := [(1, 0, (fun v => .blk v _))]) hst0 hfr0 (.cons rfl (ob_box rfl rfl) <| .consT rfl rfl (fun _ => rfl) rfl (ob_allocL Tryd.zeroValue4 rfl) <| .nil) ?_
  intro a1 w1 m1 hst1 hle1 hk1
  have hfr1 := hk1.fr (T' := [(0, _)]) (.old rfl rfl <| .nil)
  obtain ⟨g2, e2, hc1⟩ := hk1.ex 1 rfl
  replace hfr1 := hfr1.cons e2
  obtain ⟨g2, e3, _⟩ := hk1.ex 2 rfl
  replace hfr1 := hfr1.cons e3
  replace hst1 := hst1.fin (L' := [_]) (.cons e3 <| .nil)
  replace h_t := h_t.mono hle1
  replace hkk_t := hkk_t.mono hle1
  clear hst0 hfr0 hk1
  refine hK1 _ _ ?_; clear hK1
  refine seq_any fun _ hK4 => ?_
  replace hst1 := hst1.more (r := .free) trivial List.nodup_nil (by simp [Res.blocks])
  refine ra0 (tch := [(5, 1, (fun v => .blk v _)), (6, 1, (fun v => .blk v _))]) hst1 hfr1 (.cons rfl (ob_loadS' rfl hc1 Tryd.isAgg25 Tryd.sizeOf25 rfl rfl) <| .cons rfl (ob_callE rfl (.cons rfl <| .nil) Tryd.call26 (fun w m hK => by have hle_ := KC.le hK; have hA := KC.agree hK; have h_t := h_t.mono hle_; exact shapes_c hA h_t)) <| .cons rfl (ob_move rfl) <| .cons rfl (ob_extract rfl rfl) <| .cons rfl (ob_extract rfl rfl) <| .consT rfl rfl (fun _ => rfl) rfl (ob_allocL Tryd.zeroValue45 rfl) <| .consT rfl rfl (fun _ => rfl) rfl (ob_imgT 3 rfl rfl rfl fun y3 => ob_storeF rfl rfl rfl rfl rfl Tryd.sizeOf45 rfl rfl rfl) <| .cons rfl (ob_assign rfl) <| .nil) ?_
  intro a2 w2 m2 hst2 hle2 hk2
  have hfr2 := hk2.fr (T' := [(0, _), (1, _), (2, _), (4, _)]) (.old rfl rfl <| .old rfl rfl <| .old rfl rfl <| .new rfl <| .nil)
  obtain ⟨g5, e5, _⟩ := hk2.ex 3 rfl
  replace hfr2 := hfr2.cons e5
  replace hst2 := hst2.fin (L' := [_, _]) (.cons e5 <| .cons e5 <| .nil)
  try simp only [List.take_succ_cons, List.take_zero, List.drop_succ_cons, List.drop_zero, List.cons_append, List.nil_append, List.append_nil, List.length_cons, List.length_nil, Nat.zero_add, Nat.reduceAdd] at hst2
  replace h_t := h_t.mono hle2
  replace hkk_t := hkk_t.mono hle2
  replace hc1 := hc1.mono hle2
  clear hst1 hfr1 hk2
  refine hK4 _ _ ?_; clear hK4
  refine seq_any fun _ hK6 => ?_
  refine seq_any fun _ hK7 => ?_
  refine rp0 hst2 hfr2 (.cons rfl (ob_move rfl) <| .cons rfl (ob_not rfl) <| .cons rfl (ob_move rfl) <| .cons rfl (ob_fieldAddrO (off := 0) rfl Tryd.underlying45 rfl rfl Tryd.sizeOf3 rfl) <| .cons rfl (ob_loadL (j := 1) rfl rfl Tryd.isAgg3 rfl) <| .cons rfl (ob_geq rfl rfl) <| .cons rfl (ob_move rfl) <| .cons rfl (ob_fieldAddrO (off := 4) rfl Tryd.underlying25 rfl rfl Tryd.sizeOf22 rfl) <| .cons rfl (ob_load1 rfl hc1 Tryd.isAgg22 rfl) <| .cons rfl (ob_len rfl Tryd.underlying22) <| .cons rfl (ob_fieldAddrO (off := 0) rfl Tryd.underlying45 rfl rfl Tryd.sizeOf3 rfl) <| .cons rfl (ob_loadL (j := 1) rfl rfl Tryd.isAgg3 rfl) <| .cons rfl (ob_neq rfl rfl) <| .cons rfl (ob_and rfl rfl rfl) <| .cons rfl (ob_or rfl rfl rfl) <| .cons rfl (ob_move rfl) <| .cons rfl (ob_fieldAddrO (off := 2) rfl Tryd.underlying45 rfl rfl Tryd.sizeOf4 rfl) <| .cons rfl (ob_loadL (j := 1) rfl rfl Tryd.isAgg4 rfl) <| .cons rfl (ob_fieldAddrO (off := 1) rfl Tryd.underlying25 rfl rfl Tryd.sizeOf9 rfl) <| .cons rfl (ob_load1 rfl hc1 Tryd.isAgg9 rfl) <| .cons rfl (ob_seql rfl rfl) <| .cons rfl (ob_beql rfl rfl Tryd.underlying4) <| .cons rfl (ob_or rfl rfl rfl) <| .cons rfl (ob_move rfl) <| .cons rfl (ob_fieldAddrO (off := 3) rfl Tryd.underlying45 rfl rfl Tryd.sizeOf4 rfl) <| .cons rfl (ob_loadL (j := 1) rfl rfl Tryd.isAgg4 rfl) <| .cons rfl (ob_fieldAddrO (off := 2) rfl Tryd.underlying25 rfl rfl Tryd.sizeOf9 rfl) <| .cons rfl (ob_load1 rfl hc1 Tryd.isAgg9 rfl) <| .cons rfl (ob_seql rfl rfl) <| .cons rfl (ob_beql rfl rfl Tryd.underlying4) <| .cons rfl (ob_or rfl rfl rfl) <| .cons rfl (ob_move rfl) <| .cons rfl (ob_fieldAddrO (off := 4) rfl Tryd.underlying45 rfl rfl Tryd.sizeOf4 rfl) <| .cons rfl (ob_loadL (j := 1) rfl rfl Tryd.isAgg4 rfl) <| .cons rfl (ob_not rfl) <| .cons rfl (ob_move rfl) <| .cons rfl (ob_fieldAddrO (off := 3) rfl Tryd.underlying25 rfl rfl Tryd.sizeOf3 rfl) <| .cons rfl (ob_load1 rfl hc1 Tryd.isAgg3 rfl) <| .cons rfl (ob_neq rfl rfl) <| .cons rfl (ob_and rfl rfl rfl) <| .cons rfl (ob_or rfl rfl rfl) <| .cons rfl (ob_move rfl) <| .cons rfl (ob_fieldAddrO (off := 5) rfl Tryd.underlying45 rfl rfl Tryd.sizeOf4 rfl) <| .cons rfl (ob_loadL (j := 1) rfl rfl Tryd.isAgg4 rfl) <| .cons rfl (ob_fieldAddrO (off := 5) rfl Tryd.underlying25 rfl rfl Tryd.sizeOf23 rfl) <| .cons rfl (ob_load1 rfl hc1 Tryd.isAgg23 rfl) <| .cons rfl (ob_len rfl Tryd.underlying23) <| .cons rfl (ob_eql rfl rfl) <| .cons rfl (ob_beql rfl rfl Tryd.underlying4) <| .cons rfl (ob_or rfl rfl rfl) <| .nil) ?_
  intro a3 w3 m3 hst3 hle3 hk3
  have hfr3 := hk3.fr (T' := [(0, _), (1, _), (2, _), (4, _), (3, _), (61, _)]) (.old rfl rfl <| .old rfl rfl <| .old rfl rfl <| .old rfl rfl <| .old rfl rfl <| .new rfl <| .nil)
  replace h_t := h_t.mono hle3
  replace hkk_t := hkk_t.mono hle3
  replace hc1 := hc1.mono hle3
  clear hst2 hfr2 hk3
  refine hK7 _ _ ?_; clear hK7
  refine cond_any hfr3 rfl rfl (fun hb61 => ?_) (fun hb61 => ?_)
  · try simp only [nq1, nq2, nq3, nq4, nq5, nq6, nq7, nq8, nq9, u8_eq] at hb61
    refine seq_any fun _ hK8 => ?_
    refine ra0 (tch := [(0, 0, (fun _ => .blk _ _))]) hst3 hfr3 (.consT rfl rfl (fun _ => rfl) rfl (ob_store' rfl rfl rfl Tryd.sizeOf4 rfl rfl rfl) <| .nil) ?_
    intro a4 w4 m4 hst4 hle4 hk4
    have hfr4 := hk4.fr (T' := [(0, _), (1, _), (2, _), (4, _), (3, _)]) (.old rfl rfl <| .old rfl rfl <| .old rfl rfl <| .old rfl rfl <| .old rfl rfl <| .nil)
    replace hst4 := hst4.fin (L' := [_, _]) (.cons rfl <| .nil)
    try simp only [List.take_succ_cons, List.take_zero, List.drop_succ_cons, List.drop_zero, List.cons_append, List.nil_append, List.append_nil, List.length_cons, List.length_nil, Nat.zero_add, Nat.reduceAdd] at hst4
    clear hst3 hfr3 hk4
    refine hK8 _ _ ?_; clear hK8
    refine wp_ret ?_
    repeat (with_reducible first | refine then_ret ?_ | refine block_ret ?_)
    exact fn_retM0 hst4 hfr4 rfl (.cell rfl (load_blk1 (blk_heap (hst4.loc.at_ (k := 0) rfl)) rfl Tryd.isAgg4) <| .nil) (by rw [right_no (.inl (headP_bad hb61))]; rfl)
  · try simp only [nq1, nq2, nq3, nq4, nq5, nq6, nq7, nq8, nq9, u8_eq] at hb61
    refine wp_skip ?_
    refine hK6 _ _ ?_; clear hK6
    refine seq_any fun _ hK10 => ?_
    refine seq_any fun _ hK11 => ?_
    refine rp0 hst3 hfr3 (.cons rfl (ob_fieldAddrO (off := 0) rfl Tryd.underlying25 rfl rfl Tryd.sizeOf3 rfl) <| .cons rfl (ob_load1 rfl hc1 Tryd.isAgg3 rfl) <| .cons rfl (ob_eql rfl rfl) <| .cons rfl (ob_move rfl) <| .cons rfl (ob_fieldAddrO (off := 3) rfl Tryd.underlying25 rfl rfl Tryd.sizeOf3 rfl) <| .cons rfl (ob_load1 rfl hc1 Tryd.isAgg3 rfl) <| .cons rfl (ob_neq rfl rfl) <| .cons rfl (ob_and rfl rfl rfl) <| .cons rfl (ob_move rfl) <| .cons rfl (ob_fieldAddrO (off := 3) rfl Tryd.underlying25 rfl rfl Tryd.sizeOf3 rfl) <| .cons rfl (ob_load1 rfl hc1 Tryd.isAgg3 rfl) <| .cons rfl (ob_neq rfl rfl) <| .cons rfl (ob_and rfl rfl rfl) <| .cons rfl (ob_move rfl) <| .cons rfl (ob_loadS' rfl hc1 Tryd.isAgg25 Tryd.sizeOf25 rfl rfl) <| .cons rfl (ob_callE rfl (.cons rfl <| .nil) Tryd.call27 (fun w m hK => by have hle_ := KC.le hK; have hA := KC.agree hK; have h_t := h_t.mono hle_; exact arms_c hA h_t)) <| .cons rfl (ob_not rfl) <| .cons rfl (ob_or rfl rfl rfl) <| .nil) ?_
    intro a4 w4 m4 hst4 hle4 hk4
    have hfr4 := hk4.fr (T' := [(0, _), (1, _), (2, _), (4, _), (3, _), (79, _)]) (.old rfl rfl <| .old rfl rfl <| .old rfl rfl <| .old rfl rfl <| .old rfl rfl <| .new rfl <| .nil)
    replace h_t := h_t.mono hle4
    replace hkk_t := hkk_t.mono hle4
    replace hc1 := hc1.mono hle4
    clear hst3 hfr3 hk4
    refine hK11 _ _ ?_; clear hK11
    refine cond_any hfr4 rfl rfl (fun hb79 => ?_) (fun hb79 => ?_)
    · try simp only [nq1, nq2, nq3, nq4, nq5, nq6, nq7, nq8, nq9, u8_eq] at hb79
      refine seq_any fun _ hK12 => ?_
      refine ra0 (tch := [(0, 0, (fun _ => .blk _ _))]) hst4 hfr4 (.consT rfl rfl (fun _ => rfl) rfl (ob_store' rfl rfl rfl Tryd.sizeOf4 rfl rfl rfl) <| .nil) ?_
      intro a5 w5 m5 hst5 hle5 hk5
      have hfr5 := hk5.fr (T' := [(0, _), (1, _), (2, _), (4, _), (3, _)]) (.old rfl rfl <| .old rfl rfl <| .old rfl rfl <| .old rfl rfl <| .old rfl rfl <| .nil)
      replace hst5 := hst5.fin (L' := [_, _]) (.cons rfl <| .nil)
      try simp only [List.take_succ_cons, List.take_zero, List.drop_succ_cons, List.drop_zero, List.cons_append, List.nil_append, List.append_nil, List.length_cons, List.length_nil, Nat.zero_add, Nat.reduceAdd] at hst5
      clear hst4 hfr4 hk5
      refine hK12 _ _ ?_; clear hK12
      refine wp_ret ?_
      repeat (with_reducible first | refine then_ret ?_ | refine block_ret ?_)
      exact fn_retM0 hst5 hfr5 rfl (.cell rfl (load_blk1 (blk_heap (hst5.loc.at_ (k := 0) rfl)) rfl Tryd.isAgg4) <| .nil) (by rw [right_no (hb79.elim (fun h => .inl (headP_bad3 h)) (fun h => .inr (.inl h)))]; rfl)
    · try simp only [nq1, nq2, nq3, nq4, nq5, nq6, nq7, nq8, nq9, u8_eq] at hb79
      refine wp_skip ?_
      refine hK10 _ _ ?_; clear hK10
      refine seq_any fun _ hK14 => ?_
      refine rp0 hst4 hfr4 (.cons rfl (ob_fieldAddrO (off := 1) rfl Tryd.underlying45 rfl rfl Tryd.sizeOf3 rfl) <| .cons rfl (ob_loadL (j := 1) rfl rfl Tryd.isAgg3 rfl) <| .cons rfl (ob_assign rfl) <| .nil) ?_
      intro a5 w5 m5 hst5 hle5 hk5
      have hfr5 := hk5.fr (T' := [(0, _), (1, _), (2, _), (4, _), (3, _), (5, _)]) (.old rfl rfl <| .old rfl rfl <| .old rfl rfl <| .old rfl rfl <| .old rfl rfl <| .new rfl <| .nil)
      replace h_t := h_t.mono hle5
      replace hkk_t := hkk_t.mono hle5
      replace hc1 := hc1.mono hle5
      clear hst4 hfr4 hk5
      refine hK14 _ _ ?_; clear hK14
      refine seq_any fun _ hK15 => ?_
      refine seq_any fun _ hK16 => ?_
      refine rp0 hst5 hfr5 (.cons rfl (ob_move rfl) <| .cons rfl (ob_lss rfl rfl) <| .nil) ?_
      intro a6 w6 m6 hst6 hle6 hk6
      have hfr6 := hk6.fr (T' := [(0, _), (1, _), (2, _), (4, _), (3, _), (5, _), (83, _)]) (.old rfl rfl <| .old rfl rfl <| .old rfl rfl <| .old rfl rfl <| .old rfl rfl <| .old rfl rfl <| .new rfl <| .nil)
      replace h_t := h_t.mono hle6
      replace hkk_t := hkk_t.mono hle6
      replace hc1 := hc1.mono hle6
      clear hst5 hfr5 hk6
      refine hK16 _ _ ?_; clear hK16
      refine cond_any hfr6 rfl rfl (fun hb83 => ?_) (fun hb83 => ?_)
      · try simp only [nq1, nq2, nq3, nq4, nq5, nq6, nq7, nq8, nq9, u8_eq] at hb83
        have hna : t.kids.length = natoms t := by unfold natoms; rw [if_pos hb83]
        refine rp0 hst6 hfr6 (.cons rfl (ob_fieldAddrO (off := 4) rfl Tryd.underlying25 rfl rfl Tryd.sizeOf22 rfl) <| .cons rfl (ob_load1 rfl hc1 Tryd.isAgg22 rfl) <| .cons rfl (ob_len rfl Tryd.underlying22) <| .cons rfl (ob_assign rfl) <| .nil) ?_
        intro a7 w7 m7 hst7 hle7 hk7
        have hfr7 := hk7.fr (T' := [(0, _), (1, _), (2, _), (4, _), (3, _), (5, _)]) (.old rfl rfl <| .old rfl rfl <| .old rfl rfl <| .old rfl rfl <| .old rfl rfl <| .new rfl <| .nil)
        replace h_t := h_t.mono hle7
        replace hkk_t := hkk_t.mono hle7
        replace hc1 := hc1.mono hle7
        clear hst6 hfr6 hk7
        refine hK15 _ _ ?_; clear hK15
        refine seq_any fun _ hK17 => ?_
        refine seq_any fun _ hK18 => ?_
        have hct19 : Cds _ _ _ _ ((t.kids.take (t.kids.length)).drop (0)) := hkk_t.cut (l := 0) (k := t.kids.length) (by omega) (by omega)
        have hcl19 : (t.kids.length) - (0) = (((t.kids.take (t.kids.length)).drop (0))).length := hct19.len.symm
        have hcu19 : Cds _ _ _ _ ((t.kids.take (t.kids.length)).drop (0)) := hct19.lenL
        refine rp0 hst7 hfr7 (.cons rfl (ob_fieldAddrO (off := 4) rfl Tryd.underlying25 rfl rfl Tryd.sizeOf22 rfl) <| .cons rfl (ob_load1 rfl hc1 Tryd.isAgg22 rfl) <| .cons rfl (ob_move rfl) <| .cons rfl (ob_slice (l := 0) (h := t.kids.length) rfl .none (.some rfl (by omega)) Tryd.underlying22 Tryd.sizeOf25 (by first | omega | (dsimp only; omega)) (by first | omega | (dsimp only; omega))) <| .cons rfl (ob_callE rfl (.cons rfl <| .cons rfl <| .nil) Tryd.call28 (fun w m hK => by have hle_ := KC.le hK; have hA := KC.agree hK; have hcu19 := hcu19.mono hle_; exact (by rw [hcl19]; exact containsfCd_c (φ := fun u => !atomC u) (cap := []) hA hcu19 Tryd.call29 (fun w m2 u vs hm ha hv hu => right1_c ha hv)))) <| .nil) ?_
        intro a8 w8 m8 hst8 hle8 hk8
        have hfr8 := hk8.fr (T' := [(0, _), (1, _), (2, _), (4, _), (3, _), (5, _), (91, _)]) (.old rfl rfl <| .old rfl rfl <| .old rfl rfl <| .old rfl rfl <| .old rfl rfl <| .old rfl rfl <| .new rfl <| .nil)
        replace h_t := h_t.mono hle8
        replace hc1 := hc1.mono hle8
        clear hst7 hfr7 hk8
        refine hK18 _ _ ?_; clear hK18
        refine cond_any hfr8 rfl rfl (fun hb91 => ?_) (fun hb91 => ?_)
        · try simp only [nq1, nq2, nq3, nq4, nq5, nq6, nq7, nq8, nq9, u8_eq] at hb91
          refine seq_any fun _ hK20 => ?_
          refine ra0 (tch := [(0, 0, (fun _ => .blk _ _))]) hst8 hfr8 (.consT rfl rfl (fun _ => rfl) rfl (ob_store' rfl rfl rfl Tryd.sizeOf4 rfl rfl rfl) <| .nil) ?_
          intro a9 w9 m9 hst9 hle9 hk9
          have hfr9 := hk9.fr (T' := [(0, _), (1, _), (2, _), (4, _), (3, _), (5, _)]) (.old rfl rfl <| .old rfl rfl <| .old rfl rfl <| .old rfl rfl <| .old rfl rfl <| .old rfl rfl <| .nil)
          replace hst9 := hst9.fin (L' := [_, _]) (.cons rfl <| .nil)
          try simp only [List.take_succ_cons, List.take_zero, List.drop_succ_cons, List.drop_zero, List.cons_append, List.nil_append, List.append_nil, List.length_cons, List.length_nil, Nat.zero_add, Nat.reduceAdd] at hst9
          clear hst8 hfr8 hk9
          refine hK20 _ _ ?_; clear hK20
          refine wp_ret ?_
          repeat (with_reducible first | refine then_ret ?_ | refine block_ret ?_)
          exact fn_retM0 hst9 hfr9 rfl (.cell rfl (load_blk1 (blk_heap (hst9.loc.at_ (k := 0) rfl)) rfl Tryd.isAgg4) <| .nil) (by rw [right_no (.inr (.inr (.inl (any_cut hna hb91))))]; rfl)
        · try simp only [nq1, nq2, nq3, nq4, nq5, nq6, nq7, nq8, nq9, u8_eq] at hb91
          refine wp_skip ?_
          refine hK17 _ _ ?_; clear hK17
          refine seq_any fun _ hK22 => ?_
          refine seq_any fun _ hK23 => ?_
          refine rp0 hst8 hfr8 (.cons rfl (ob_loadS' rfl hc1 Tryd.isAgg25 Tryd.sizeOf25 rfl rfl) <| .cons rfl (ob_call (φ := MP.partsW t) rfl (.cons rfl <| .nil) Tryd.call31 (fun w m hK => by have hle_ := KC.le hK; have hA := KC.agree hK; have h_t := h_t.mono hle_; exact FnG.mono (parts_c (t := t) hA h_t) fun _ _ _ _ h => h)) <| .nil) ?_
          intro a9 w9 m9 hst9 hle9 hk9
          have hfr9 := hk9.fr (T' := [(0, _), (1, _), (2, _), (4, _), (3, _), (5, _)]) (.old rfl rfl <| .old rfl rfl <| .old rfl rfl <| .old rfl rfl <| .old rfl rfl <| .old rfl rfl <| .nil)
          obtain ⟨⟨gq9, vq9⟩, e24, hq9, htq9⟩ := hk9.ex 93 rfl
          replace hfr9 := hfr9.cons e24
          clear hst8 hfr8 hk9
          refine hK23 _ _ ?_; clear hK23
          refine wp_block ?_
          refine rangeFunc_any (T := [(0, _), (1, _), (2, _), (4, _), (3, _), (5, _), (93, _)]) (fun (y : (Bool)) => ([.blk (.pointer (some ⟨g2, 0, none⟩)) (.cells [.bool y].toArray 4), _] : List Res)) ((partsC t).length) (CPartY t) (fun i (y : (Bool)) m => (fun (n9 : Bool) => (((partsC t).take i).all rightC = true)) y) (fun (y : (Bool)) m => (fun (n9 : Bool) => (n9 = false ∧ (partsC t).all rightC = false)) y) (false) hst9 (hfr9.sub (.cons rfl <| .cons rfl <| .cons rfl <| .cons rfl <| .cons rfl <| .cons rfl <| .cons rfl <| .nil)) rfl Tryd.call43 ⟨by decide, by decide⟩ (fun _ _ _ _ _ h => h) (fun _ _ _ _ h => h) (by simp) (parts_iter hq9 htq9) (fun i hi y w10 m10 args l rc hle10 hY hrel _ => ?_) (fun y D l rc a10 w10 m10 hst10 hle10 hrel hfr10 => ?_) (fun y D l rc a10 w10 m10 hst10 hle10 hrel hfr10 => ?_)
          · obtain ⟨n9, rfl⟩ : ∃ z, z = y := ⟨_, rfl⟩
            have hn9 := hrel
            clear hst9 hfr9
            obtain ⟨u, vsu, rfl, hu, hat⟩ := hY
            have hpu : u ∈ partsC t := List.mem_of_getElem? hat
            have hcu := sizeC_part hpu
            have ihu : right_G u := by rcases partsC_sub hpu with h | ⟨a, ha, e⟩; exact ihk _ h; (have h9 : right_G a.body := iha _ ha; rw [e] at h9; exact @h9)
            obtain ⟨⟨oK_u, cK_u, oA_u, cA_u⟩, rfl, ⟨hik_u, hin_u⟩, hkk_u, haa_u⟩ := hu.open_
            dsimp only at hkk_u haa_u
            have hbg_u := hkk_u.big; have hcp_u := hkk_u.cap; have hbh_u := haa_u.big; have hcq_u := haa_u.cap
            refine ⟨rfl, fun G1 a10 hfr10 hst10 _ hKrf => ?_⟩
            replace hfr10 : Fr _ [(94, _), (0, _), (1, _), (2, _), (4, _), (3, _), (5, _), (93, _)] a10 := hfr10
            replace hst10 : St G1 w10 m10 [_, _, _] w10 m10 := hst10
            replace hst10 := hst10.more (r := .free) trivial List.nodup_nil (by simp [Res.blocks])
            refine ra0 (tch := [(0, 3, (fun v => .blk v _)), (1, 3, (fun v => .blk v _))]) hst10 hfr10 (.consT rfl rfl (fun _ => rfl) rfl (ob_allocL Tryd.zeroValue25 rfl) <| .consT rfl rfl (fun _ => rfl) rfl (ob_imgT 6 rfl rfl rfl fun y6 => ob_storeF rfl rfl rfl rfl rfl Tryd.sizeOf25 rfl rfl hu.one) <| .nil) ?_
            intro a11 w11 m11 hst11 hle11 hk11
            have hfr11 := hk11.fr (T' := [(94, _), (0, _), (1, _), (2, _), (4, _), (3, _), (5, _), (93, _)]) (.old rfl rfl <| .old rfl rfl <| .old rfl rfl <| .old rfl rfl <| .old rfl rfl <| .old rfl rfl <| .old rfl rfl <| .old rfl rfl <| .nil)
            obtain ⟨g25, e25, _⟩ := hk11.ex 6 rfl
            replace hfr11 := hfr11.cons e25
            replace hst11 := hst11.fin (L' := [_, _, _, _]) (.cons e25 <| .cons e25 <| .nil)
            try simp only [List.take_succ_cons, List.take_zero, List.drop_succ_cons, List.drop_zero, List.cons_append, List.nil_append, List.append_nil, List.length_cons, List.length_nil, Nat.zero_add, Nat.reduceAdd] at hst11
            replace hu := hu.mono hle11
            clear hst10 hfr10 hk11
            refine hKrf _ _ _ [_, _, _, _] 2 hst11 rfl fun w12 hst12 => ?_; clear hKrf
            simp only [List.set_cons_succ, List.set_cons_zero] at hst12
            have hfr12 := hfr11; obtain ⟨a12, rfl⟩ : ∃ a, a = a11 := ⟨_, rfl⟩; obtain ⟨m12, rfl⟩ : ∃ m, m = m11 := ⟨_, rfl⟩; clear hst11 hfr11
            refine wp_block ?_
            refine seq_any fun _ hK26 => ?_
            refine rp0 hst12 hfr12 (.cons rfl (ob_loadLA (j := 3) rfl rfl Tryd.isAgg25 Tryd.sizeOf25 rfl) <| .cons rfl (ob_callE rfl (.cons rfl <| .nil) Tryd.call12 (fun w m hK => by have hle_ := KC.le hK; have hA := KC.agree hK; have hu := hu.mono hle_; exact ihu hA hu)) <| .cons rfl (ob_not rfl) <| .nil) ?_
            intro a13 w13 m13 hst13 hle13 hk13
            have hfr13 := hk13.fr (T' := [(94, _), (0, _), (1, _), (2, _), (4, _), (3, _), (5, _), (93, _), (6, _), (97, _)]) (.old rfl rfl <| .old rfl rfl <| .old rfl rfl <| .old rfl rfl <| .old rfl rfl <| .old rfl rfl <| .old rfl rfl <| .old rfl rfl <| .old rfl rfl <| .new rfl <| .nil)
            clear hst12 hfr12 hk13
            refine hK26 _ _ ?_; clear hK26
            refine cond_any hfr13 rfl rfl (fun hb97 => ?_) (fun hb97 => ?_)
            · try simp only [nq1, nq2, nq3, nq4, nq5, nq6, nq7, nq8, nq9, u8_eq] at hb97
              refine seq_any fun _ hK27 => ?_
              refine ra0 (tch := [(0, 0, (fun _ => .blk _ _))]) hst13 hfr13 (.consT rfl rfl (fun _ => rfl) rfl (ob_store' rfl rfl rfl Tryd.sizeOf4 rfl rfl rfl) <| .nil) ?_
              intro a14 w14 m14 hst14 hle14 hk14
              have hfr14 := hk14.fr (T' := [(94, _), (0, _), (1, _), (2, _), (4, _), (3, _), (5, _), (93, _), (6, _)]) (.old rfl rfl <| .old rfl rfl <| .old rfl rfl <| .old rfl rfl <| .old rfl rfl <| .old rfl rfl <| .old rfl rfl <| .old rfl rfl <| .old rfl rfl <| .nil)
              replace hst14 := hst14.fin (L' := [_, _, _, _]) (.cons rfl <| .nil)
              try simp only [List.take_succ_cons, List.take_zero, List.drop_succ_cons, List.drop_zero, List.cons_append, List.nil_append, List.append_nil, List.length_cons, List.length_nil, Nat.zero_add, Nat.reduceAdd] at hst14
              clear hst13 hfr13 hk14
              refine hK27 _ _ ?_; clear hK27
              refine wp_ret ?_
              repeat (with_reducible first | refine then_ret ?_ | refine block_ret ?_)
              exact RoundQ.left (false) (n0 := 2) (k := 2) hst14 rfl rfl rfl (⟨rfl, all_no hpu hb97⟩)
            · try simp only [nq1, nq2, nq3, nq4, nq5, nq6, nq7, nq8, nq9, u8_eq] at hb97
              refine wp_skip ?_
              repeat (with_reducible first | refine then_exit ?_ | refine block_exit ?_ | refine block_normal ?_)
              exact RoundQ.next (n9) (n0 := 2) (k := 2) hst13 rfl rfl rfl (all_snoc hn9 hat hb97)
          · obtain ⟨n9, rfl⟩ : ∃ z, z = y := ⟨_, rfl⟩
            have hn9 := hrel
            clear hst9 hfr9
            replace hst10 : St _ _ _ [_, _, recR l rc, dblk D] w10 m10 := hst10
            refine hK22 _ _ ?_; clear hK22
            refine seq_any fun _ hK28 => ?_
            refine ra0 (tch := [(0, 0, (fun _ => .blk _ _))]) hst10 hfr10 (.consT rfl rfl (fun _ => rfl) rfl (ob_store' rfl rfl rfl Tryd.sizeOf4 rfl rfl rfl) <| .nil) ?_
            intro a11 w11 m11 hst11 hle11 hk11
            have hfr11 := hk11.fr (T' := [(0, _), (1, _), (2, _), (4, _), (3, _), (5, _), (93, _)]) (.old rfl rfl <| .old rfl rfl <| .old rfl rfl <| .old rfl rfl <| .old rfl rfl <| .old rfl rfl <| .old rfl rfl <| .nil)
            replace hst11 := hst11.fin (L' := [_, _, _, _]) (.cons rfl <| .nil)
            try simp only [List.take_succ_cons, List.take_zero, List.drop_succ_cons, List.drop_zero, List.cons_append, List.nil_append, List.append_nil, List.length_cons, List.length_nil, Nat.zero_add, Nat.reduceAdd] at hst11
            clear hst10 hfr10 hk11
            refine hK28 _ _ ?_; clear hK28
            refine wp_ret ?_
            repeat (with_reducible first | refine then_ret ?_ | refine block_ret ?_)
            exact fn_retM hst11 (k := 3) rfl hfr11 rfl (fun w hstE => .cell rfl (load_blk1 (blk_heap (hstE.loc.at_ (k := 0) rfl)) rfl Tryd.isAgg4) <| .nil) (fun w => by rw [List.take_of_length_le (Nat.le_refl _)] at hn9; rw [right_all (headP_good hb61 hb79.1) hb79.2 (any_cut hna hb91), hn9]; rfl)
          · obtain ⟨n9, rfl⟩ : ∃ z, z = y := ⟨_, rfl⟩
            have hx9 := hrel
            clear hst9 hfr9
            replace hst10 : St _ _ _ [_, _, recR l rc, dblk D] w10 m10 := hst10
            repeat (with_reducible first | refine then_ret ?_ | refine block_ret ?_)
            exact fn_retM hst10 (k := 3) rfl hfr10 rfl (fun w hstE => .cell rfl (load_blk1 (blk_heap (hstE.loc.at_ (k := 0) rfl)) rfl Tryd.isAgg4) <| .nil) (fun w => by rw [hx9.1, right_no (.inr (.inr (.inr hx9.2)))]; rfl)
      · try simp only [nq1, nq2, nq3, nq4, nq5, nq6, nq7, nq8, nq9, u8_eq] at hb83
        have hna : (shG t).atoms = (natoms t : Int) := by unfold natoms; rw [if_neg (by omega)]; omega
        rw [hna] at hfr6
        have hnl := natoms_le hb61.1.1.1.1.1.1 hb61.1.1.1.1.2 hb83
        refine wp_skip ?_
        refine hK15 _ _ ?_; clear hK15
        refine seq_any fun _ hK31 => ?_
        refine seq_any fun _ hK32 => ?_
        have hct33 : Cds _ _ _ _ ((t.kids.take ((natoms t))).drop (0)) := hkk_t.cut (l := 0) (k := (natoms t)) (by omega) (by omega)
        have hcl33 : ((natoms t)) - (0) = (((t.kids.take ((natoms t))).drop (0))).length := hct33.len.symm
        have hcu33 : Cds _ _ _ _ ((t.kids.take ((natoms t))).drop (0)) := hct33.lenL
        refine rp0 hst6 hfr6 (.cons rfl (ob_fieldAddrO (off := 4) rfl Tryd.underlying25 rfl rfl Tryd.sizeOf22 rfl) <| .cons rfl (ob_load1 rfl hc1 Tryd.isAgg22 rfl) <| .cons rfl (ob_move rfl) <| .cons rfl (ob_slice (l := 0) (h := (natoms t)) rfl .none (.some rfl (by omega)) Tryd.underlying22 Tryd.sizeOf25 (by first | omega | (dsimp only; omega)) (by first | omega | (dsimp only; omega))) <| .cons rfl (ob_callE rfl (.cons rfl <| .cons rfl <| .nil) Tryd.call28 (fun w m hK => by have hle_ := KC.le hK; have hA := KC.agree hK; have hcu33 := hcu33.mono hle_; exact (by rw [hcl33]; exact containsfCd_c (φ := fun u => !atomC u) (cap := []) hA hcu33 Tryd.call29 (fun w m2 u vs hm ha hv hu => right1_c ha hv)))) <| .nil) ?_
        intro a7 w7 m7 hst7 hle7 hk7
        have hfr7 := hk7.fr (T' := [(0, _), (1, _), (2, _), (4, _), (3, _), (5, _), (91, _)]) (.old rfl rfl <| .old rfl rfl <| .old rfl rfl <| .old rfl rfl <| .old rfl rfl <| .old rfl rfl <| .new rfl <| .nil)
        replace h_t := h_t.mono hle7
        replace hc1 := hc1.mono hle7
        clear hst6 hfr6 hk7
        refine hK32 _ _ ?_; clear hK32
        refine cond_any hfr7 rfl rfl (fun hb91 => ?_) (fun hb91 => ?_)
        · try simp only [nq1, nq2, nq3, nq4, nq5, nq6, nq7, nq8, nq9, u8_eq] at hb91
          refine seq_any fun _ hK34 => ?_
          refine ra0 (tch := [(0, 0, (fun _ => .blk _ _))]) hst7 hfr7 (.consT rfl rfl (fun _ => rfl) rfl (ob_store' rfl rfl rfl Tryd.sizeOf4 rfl rfl rfl) <| .nil) ?_
          intro a8 w8 m8 hst8 hle8 hk8
          have hfr8 := hk8.fr (T' := [(0, _), (1, _), (2, _), (4, _), (3, _), (5, _)]) (.old rfl rfl <| .old rfl rfl <| .old rfl rfl <| .old rfl rfl <| .old rfl rfl <| .old rfl rfl <| .nil)
          replace hst8 := hst8.fin (L' := [_, _]) (.cons rfl <| .nil)
          try simp only [List.take_succ_cons, List.take_zero, List.drop_succ_cons, List.drop_zero, List.cons_append, List.nil_append, List.append_nil, List.length_cons, List.length_nil, Nat.zero_add, Nat.reduceAdd] at hst8
          clear hst7 hfr7 hk8
          refine hK34 _ _ ?_; clear hK34
          refine wp_ret ?_
          repeat (with_reducible first | refine then_ret ?_ | refine block_ret ?_)
          exact fn_retM0 hst8 hfr8 rfl (.cell rfl (load_blk1 (blk_heap (hst8.loc.at_ (k := 0) rfl)) rfl Tryd.isAgg4) <| .nil) (by rw [right_no (.inr (.inr (.inl (any_cut rfl hb91))))]; rfl)
        · try simp only [nq1, nq2, nq3, nq4, nq5, nq6, nq7, nq8, nq9, u8_eq] at hb91
          refine wp_skip ?_
          refine hK31 _ _ ?_; clear hK31
          refine seq_any fun _ hK36 => ?_
          refine seq_any fun _ hK37 => ?_
          refine rp0 hst7 hfr7 (.cons rfl (ob_loadS' rfl hc1 Tryd.isAgg25 Tryd.sizeOf25 rfl rfl) <| .cons rfl (ob_call (φ := MP.partsW t) rfl (.cons rfl <| .nil) Tryd.call31 (fun w m hK => by have hle_ := KC.le hK; have hA := KC.agree hK; have h_t := h_t.mono hle_; exact FnG.mono (parts_c (t := t) hA h_t) fun _ _ _ _ h => h)) <| .nil) ?_
          intro a8 w8 m8 hst8 hle8 hk8
          have hfr8 := hk8.fr (T' := [(0, _), (1, _), (2, _), (4, _), (3, _), (5, _)]) (.old rfl rfl <| .old rfl rfl <| .old rfl rfl <| .old rfl rfl <| .old rfl rfl <| .old rfl rfl <| .nil)
          obtain ⟨⟨gq9, vq9⟩, e38, hq9, htq9⟩ := hk8.ex 93 rfl
          replace hfr8 := hfr8.cons e38
          clear hst7 hfr7 hk8
          refine hK37 _ _ ?_; clear hK37
          refine wp_block ?_
          refine rangeFunc_any (T := [(0, _), (1, _), (2, _), (4, _), (3, _), (5, _), (93, _)]) (fun (y : (Bool)) => ([.blk (.pointer (some ⟨g2, 0, none⟩)) (.cells [.bool y].toArray 4), _] : List Res)) ((partsC t).length) (CPartY t) (fun i (y : (Bool)) m => (fun (n9 : Bool) => (((partsC t).take i).all rightC = true)) y) (fun (y : (Bool)) m => (fun (n9 : Bool) => (n9 = false ∧ (partsC t).all rightC = false)) y) (false) hst8 (hfr8.sub (.cons rfl <| .cons rfl <| .cons rfl <| .cons rfl <| .cons rfl <| .cons rfl <| .cons rfl <| .nil)) rfl Tryd.call43 ⟨by decide, by decide⟩ (fun _ _ _ _ _ h => h) (fun _ _ _ _ h => h) (by simp) (parts_iter hq9 htq9) (fun i hi y w9 m9 args l rc hle9 hY hrel _ => ?_) (fun y D l rc a9 w9 m9 hst9 hle9 hrel hfr9 => ?_) (fun y D l rc a9 w9 m9 hst9 hle9 hrel hfr9 => ?_)
          · obtain ⟨n9, rfl⟩ : ∃ z, z = y := ⟨_, rfl⟩
            have hn9 := hrel
            clear hst8 hfr8
            obtain ⟨u, vsu, rfl, hu, hat⟩ := hY
            have hpu : u ∈ partsC t := List.mem_of_getElem? hat
            have hcu := sizeC_part hpu
            have ihu : right_G u := by rcases partsC_sub hpu with h | ⟨a, ha, e⟩; exact ihk _ h; (have h9 : right_G a.body := iha _ ha; rw [e] at h9; exact @h9)
            obtain ⟨⟨oK_u, cK_u, oA_u, cA_u⟩, rfl, ⟨hik_u, hin_u⟩, hkk_u, haa_u⟩ := hu.open_
            dsimp only at hkk_u haa_u
            have hbg_u := hkk_u.big; have hcp_u := hkk_u.cap; have hbh_u := haa_u.big; have hcq_u := haa_u.cap
            refine ⟨rfl, fun G1 a9 hfr9 hst9 _ hKrf => ?_⟩
            replace hfr9 : Fr _ [(94, _), (0, _), (1, _), (2, _), (4, _), (3, _), (5, _), (93, _)] a9 := hfr9
            replace hst9 : St G1 w9 m9 [_, _, _] w9 m9 := hst9
            replace hst9 := hst9.more (r := .free) trivial List.nodup_nil (by simp [Res.blocks])
            refine ra0 (tch := [(0, 3, (fun v => .blk v _)), (1, 3, (fun v => .blk v _))]) hst9 hfr9 (.consT rfl rfl (fun _ => rfl) rfl (ob_allocL Tryd.zeroValue25 rfl) <| .consT rfl rfl (fun _ => rfl) rfl (ob_imgT 6 rfl rfl rfl fun y6 => ob_storeF rfl rfl rfl rfl rfl Tryd.sizeOf25 rfl rfl hu.one) <| .nil) ?_
            intro a10 w10 m10 hst10 hle10 hk10
            have hfr10 := hk10.fr (T' := [(94, _), (0, _), (1, _), (2, _), (4, _), (3, _), (5, _), (93, _)]) (.old rfl rfl <| .old rfl rfl <| .old rfl rfl <| .old rfl rfl <| .old rfl rfl <| .old rfl rfl <| .old rfl rfl <| .old rfl rfl <| .nil)
            obtain ⟨g39, e39, _⟩ := hk10.ex 6 rfl
            replace hfr10 := hfr10.cons e39
            replace hst10 := hst10.fin (L' := [_, _, _, _]) (.cons e39 <| .cons e39 <| .nil)
            try simp only [List.take_succ_cons, List.take_zero, List.drop_succ_cons, List.drop_zero, List.cons_append, List.nil_append, List.append_nil, List.length_cons, List.length_nil, Nat.zero_add, Nat.reduceAdd] at hst10
            replace hu := hu.mono hle10
            clear hst9 hfr9 hk10
            refine hKrf _ _ _ [_, _, _, _] 2 hst10 rfl fun w11 hst11 => ?_; clear hKrf
            simp only [List.set_cons_succ, List.set_cons_zero] at hst11
            have hfr11 := hfr10; obtain ⟨a11, rfl⟩ : ∃ a, a = a10 := ⟨_, rfl⟩; obtain ⟨m11, rfl⟩ : ∃ m, m = m10 := ⟨_, rfl⟩; clear hst10 hfr10
            refine wp_block ?_
            refine seq_any fun _ hK40 => ?_
            refine rp0 hst11 hfr11 (.cons rfl (ob_loadLA (j := 3) rfl rfl Tryd.isAgg25 Tryd.sizeOf25 rfl) <| .cons rfl (ob_callE rfl (.cons rfl <| .nil) Tryd.call12 (fun w m hK => by have hle_ := KC.le hK; have hA := KC.agree hK; have hu := hu.mono hle_; exact ihu hA hu)) <| .cons rfl (ob_not rfl) <| .nil) ?_
            intro a12 w12 m12 hst12 hle12 hk12
            have hfr12 := hk12.fr (T' := [(94, _), (0, _), (1, _), (2, _), (4, _), (3, _), (5, _), (93, _), (6, _), (97, _)]) (.old rfl rfl <| .old rfl rfl <| .old rfl rfl <| .old rfl rfl <| .old rfl rfl <| .old rfl rfl <| .old rfl rfl <| .old rfl rfl <| .old rfl rfl <| .new rfl <| .nil)
            clear hst11 hfr11 hk12
            refine hK40 _ _ ?_; clear hK40
            refine cond_any hfr12 rfl rfl (fun hb97 => ?_) (fun hb97 => ?_)
            · try simp only [nq1, nq2, nq3, nq4, nq5, nq6, nq7, nq8, nq9, u8_eq] at hb97
              refine seq_any fun _ hK41 => ?_
              refine ra0 (tch := [(0, 0, (fun _ => .blk _ _))]) hst12 hfr12 (.consT rfl rfl (fun _ => rfl) rfl (ob_store' rfl rfl rfl Tryd.sizeOf4 rfl rfl rfl) <| .nil) ?_
              intro a13 w13 m13 hst13 hle13 hk13
              have hfr13 := hk13.fr (T' := [(94, _), (0, _), (1, _), (2, _), (4, _), (3, _), (5, _), (93, _), (6, _)]) (.old rfl rfl <| .old rfl rfl <| .old rfl rfl <| .old rfl rfl <| .old rfl rfl <| .old rfl rfl <| .old rfl rfl <| .old rfl rfl <| .old rfl rfl <| .nil)
              replace hst13 := hst13.fin (L' := [_, _, _, _]) (.cons rfl <| .nil)
              try simp only [List.take_succ_cons, List.take_zero, List.drop_succ_cons, List.drop_zero, List.cons_append, List.nil_append, List.append_nil, List.length_cons, List.length_nil, Nat.zero_add, Nat.reduceAdd] at hst13
              clear hst12 hfr12 hk13
              refine hK41 _ _ ?_; clear hK41
              refine wp_ret ?_
              repeat (with_reducible first | refine then_ret ?_ | refine block_ret ?_)
              exact RoundQ.left (false) (n0 := 2) (k := 2) hst13 rfl rfl rfl (⟨rfl, all_no hpu hb97⟩)
            · try simp only [nq1, nq2, nq3, nq4, nq5, nq6, nq7, nq8, nq9, u8_eq] at hb97
              refine wp_skip ?_
              repeat (with_reducible first | refine then_exit ?_ | refine block_exit ?_ | refine block_normal ?_)
              exact RoundQ.next (n9) (n0 := 2) (k := 2) hst12 rfl rfl rfl (all_snoc hn9 hat hb97)
          · obtain ⟨n9, rfl⟩ : ∃ z, z = y := ⟨_, rfl⟩
            have hn9 := hrel
            clear hst8 hfr8
            replace hst9 : St _ _ _ [_, _, recR l rc, dblk D] w9 m9 := hst9
            refine hK36 _ _ ?_; clear hK36
            refine seq_any fun _ hK42 => ?_
            refine ra0 (tch := [(0, 0, (fun _ => .blk _ _))]) hst9 hfr9 (.consT rfl rfl (fun _ => rfl) rfl (ob_store' rfl rfl rfl Tryd.sizeOf4 rfl rfl rfl) <| .nil) ?_
            intro a10 w10 m10 hst10 hle10 hk10
            have hfr10 := hk10.fr (T' := [(0, _), (1, _), (2, _), (4, _), (3, _), (5, _), (93, _)]) (.old rfl rfl <| .old rfl rfl <| .old rfl rfl <| .old rfl rfl <| .old rfl rfl <| .old rfl rfl <| .old rfl rfl <| .nil)
            replace hst10 := hst10.fin (L' := [_, _, _, _]) (.cons rfl <| .nil)
            try simp only [List.take_succ_cons, List.take_zero, List.drop_succ_cons, List.drop_zero, List.cons_append, List.nil_append, List.append_nil, List.length_cons, List.length_nil, Nat.zero_add, Nat.reduceAdd] at hst10
            clear hst9 hfr9 hk10
            refine hK42 _ _ ?_; clear hK42
            refine wp_ret ?_
            repeat (with_reducible first | refine then_ret ?_ | refine block_ret ?_)
            exact fn_retM hst10 (k := 3) rfl hfr10 rfl (fun w hstE => .cell rfl (load_blk1 (blk_heap (hstE.loc.at_ (k := 0) rfl)) rfl Tryd.isAgg4) <| .nil) (fun w => by rw [List.take_of_length_le (Nat.le_refl _)] at hn9; rw [right_all (headP_good hb61 hb79.1) hb79.2 (any_cut rfl hb91), hn9]; rfl)
          · obtain ⟨n9, rfl⟩ : ∃ z, z = y := ⟨_, rfl⟩
            have hx9 := hrel
            clear hst8 hfr8
            replace hst9 : St _ _ _ [_, _, recR l rc, dblk D] w9 m9 := hst9
            repeat (with_reducible first | refine then_ret ?_ | refine block_ret ?_)
            exact fn_retM hst9 (k := 3) rfl hfr9 rfl (fun w hstE => .cell rfl (load_blk1 (blk_heap (hstE.loc.at_ (k := 0) rfl)) rfl Tryd.isAgg4) <| .nil) (fun w => by rw [hx9.1, right_no (.inr (.inr (.inr hx9.2)))]; rfl)
theorem right_c (t : Cd) : right_G t := Cd.rec_ (p := right_G) (fun t ihk iha => right_s ihk iha) t

end Go.Proofs.YtlihpgjabohebaaDoor
