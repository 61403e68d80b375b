/-
  Package slices at values: what each function computes, if what is handed in answers as a Lean function does. Conditions: those of each theorem.
-/
import Derived.Test.YtineijefefjpeaaDoorVtree
import Derived.Test.YtineijefefjpeaaDoorOps1
namespace Go.Proofs.YtineijefefjpeaaDoor
set_option linter.all false
open Go.RowKit
theorem any_take_hit {α : Type} {φ : α → Bool} {l : List α} {k : Nat} (hx : k < l.length) (h : φ l[k] = true) : l.any φ = true := List.any_eq_true.2 ⟨_, List.getElem_mem hx, h⟩
theorem any_take_miss {α : Type} {φ : α → Bool} {l : List α} {k : Nat} (hx : k < l.length) (h0 : (l.take k).any φ = false) (h : φ l[k] = false) : (l.take (k + 1)).any φ = false := by
  rw [List.take_succ_eq_append_getElem hx, List.any_append, h0]; simp [h]
/-- Both are the same, one by one. -/
def all2 {α : Type} (ψ : α → α → Bool) : List α → List α → Bool
  | [], [] => true
  | x :: xs, y :: ys => ψ x y && all2 ψ xs ys
  | _, _ => false
theorem all2_len {α : Type} {ψ : α → α → Bool} : ∀ {xs ys : List α}, xs.length ≠ ys.length → all2 ψ xs ys = false
  | [], [], h => absurd rfl h
  | [], _ :: _, _ => rfl
  | _ :: _, [], _ => rfl
  | x :: xs, y :: ys, h => by simp only [all2]; rw [all2_len (by simpa using h)]; simp
theorem all2_drop {α : Type} {ψ : α → α → Bool} : ∀ {xs ys : List α} {k : Nat} (hx : k < xs.length) (hy : k < ys.length), all2 ψ (xs.drop k) (ys.drop k) = (ψ xs[k] ys[k] && all2 ψ (xs.drop (k + 1)) (ys.drop (k + 1))) := by
  intro xs ys k hx hy
  rw [List.drop_eq_getElem_cons hx, List.drop_eq_getElem_cons hy]; rfl
theorem Kids.get {m : Mem} {o : Option Addr} {n c : Nat} {l : List VT} (h : Kids m o n c l) {k : Nat} (hk : k < n) : ∃ p vs, ∃ hx : k < l.length, o = some p ∧ CellsAt m (p.add (k * 4)) vs ∧ vs.length = 4 ∧ VR m l[k] vs := Sl.get h hk
set_option maxHeartbeats 400000 in
theorem indexf_c {w : World} {m : Mem} {o : Option Addr} {n c : Nat} {l : List VT} {cid : Nat} {cap : List Value} {φ : VT → Bool} (hA : Agree w m) (h : Kids m o n c l)
    (hc : ∀ args w, (callFunc cid args).run Tryd.prog w = .ok (.enter cid args) w)
    (hφ : ∀ w m' (t : VT) vs, MLe m m' → Agree w m' → VR m' t vs → t ∈ l → FnV Tryd.prog cid ([Value.agg vs.toArray] ++ cap).toArray w m' (fun _ _ v => v = .bool (φ t))) :
    FnV Tryd.prog 57 #[.slice o n c, .func (.func cid) #[] cap.toArray] w m (fun _ _ v => ∃ i : Int, v = .int .i64 i ∧ decide (0 ≤ i) = l.any φ) := by
  refine fn_enter (vs := [.slice o n c, .func (.func cid) #[] cap.toArray]) Tryd.func57 rfl rfl rfl fun a0 hfr0 => ?_
  have hst0 := st_enter hA (loc_nil [] _ w m)
  have hbig := h.big
  have hlen := h.len
  have hm0 : MLe m m := MLe.refl m
  refine seq_any fun K1 hK1 => ?_
  refine region_plain (fun h => by cases h) hst0 hfr0 (by kernel_rfl) (by kernel_rfl) (.cons rfl (ob_assign rfl) <|
      .nil) ?_
  intro a1 w1 m1 hst1 hle1 hk1
  have hfr1 := hk1.fr (T' := [(0, _), (1, _), (4, _)]) (.old rfl rfl <| .old rfl rfl <| .new rfl <| .nil)
  replace h := h.mono hle1
  clear hst0 hfr0 hk1
  have hm1 := hle1
  refine hK1 _ _ ?_; try clear hK1 K1
  refine seq_any fun K2 hK2 => ?_
  refine seq_any fun K3 hK3 => ?_
  refine region_plain (fun h => by cases h) hst1 hfr1 (by kernel_rfl) (by kernel_rfl) (.cons rfl (ob_move rfl) <|
      .cons rfl (ob_len rfl Tryd.underlying22) <|
      .cons rfl (ob_move rfl) <|
      .nil) ?_
  intro a2 w2 m2 hst2 hle2 hk2
  have hfr2 := hk2.fr (T' := [(0, _), (1, _), (4, _), (7, _), (8, _)]) (.old rfl rfl <| .old rfl rfl <| .old rfl rfl <| .new rfl <| .new rfl <| .nil)
  replace h := h.mono hle2
  clear hst1 hfr1 hk2
  have hm2 := hm1.trans hle2
  refine hK3 _ _ ?_; try clear hK3 K3
  refine wp_block ?_
  refine loop_any (T := [(0, _), (1, _), (4, _), (7, _)]) (fun (y : Nat) => ([(8, .int .i64 (y : Int))] : List (Nat × Value))) (fun _ => _) (fun (y : Nat) _ => y ≤ n ∧ (l.take y).any φ = false) (fun y => n - y) (0) ⟨hst2, MLe.refl _, hfr2.sub (.cons rfl <| .cons rfl <| .cons rfl <| .cons rfl <| .cons rfl <| .nil), ⟨Nat.zero_le _, rfl⟩⟩ fun y a3 w3 m3 hh3 => ?_
  have hst3 := hh3.st; have hle3 := hh3.le; have hfr3 := hh3.fr; have hrel := hh3.rel; clear hh3
  replace h := h.mono hle3
  clear hst2 hfr2
  have hm3 := hm2.trans hle3
  obtain ⟨hyn, hno⟩ := hrel
  have hlh3 := hle3
  refine seq_any fun K5 hK5 => ?_
  refine region_plain (fun h => by cases h) hst3 hfr3 (by kernel_rfl) (by kernel_rfl) (.cons rfl (ob_lss rfl rfl) <|
      .nil) ?_
  intro a4 w4 m4 hst4 hle4 hk4
  have hfr4 := hk4.fr (T' := [(8, _), (0, _), (1, _), (4, _), (7, _), (9, _)]) (.old rfl rfl <| .old rfl rfl <| .old rfl rfl <| .old rfl rfl <| .old rfl rfl <| .new rfl <| .nil)
  replace h := h.mono hle4
  have hlh4 := hlh3.trans hle4
  clear hst3 hfr3 hk4
  have hmA := hm3.trans hle4
  refine hK5 _ _ ?_; try clear hK5 K5
  refine seq_any fun K6 hK6 => ?_
  refine cond_any hfr4 rfl rfl (fun hb9 => ?_) (fun hb9 => ?_)
  · have hlt : y < n := by simpa using hb9
    obtain ⟨p, vs, hx, rfl, hcv, hvl, hv⟩ := h.get hlt
    obtain ⟨vo, vc, rfl, hkd, _, _⟩ := hv.open_
    refine wp_skip ?_
    refine hK6 _ _ ?_; try clear hK6 K6
    refine seq_any fun K7 hK7 => ?_
    refine wp_block ?_
    refine seq_any fun K8 hK8 => ?_
    refine region_plain (fun h => by cases h) hst4 hfr4 (by kernel_rfl) (by kernel_rfl) (.cons rfl (ob_move rfl) <|
        .cons rfl (ob_assign rfl) <|
        .nil) ?_
    intro a5 w5 m5 hst5 hle5 hk5
    have hfr5 := hk5.fr (T' := [(8, _), (0, _), (1, _), (4, _), (7, _), (5, _)]) (.old rfl rfl <| .old rfl rfl <| .old rfl rfl <| .old rfl rfl <| .old rfl rfl <| .new rfl <| .nil)
    replace h := h.mono hle5
    replace hcv := hcv.mono hle5
    replace hv := hv.mono hle5
    have hlh5 := hlh4.trans hle5
    clear hst4 hfr4 hk5
    have hmB := hmA.trans hle5
    refine hK8 _ _ ?_; try clear hK8 K8
    refine seq_any fun K9 hK9 => ?_
    refine region_plain (fun h => by cases h) hst5 hfr5 (by kernel_rfl) (by kernel_rfl) (.cons rfl (ob_move rfl) <|
        .cons rfl (ob_move rfl) <|
        .cons rfl (ob_move rfl) <|
        .cons rfl (ob_indexAddr rfl rfl Tryd.underlying22 Tryd.sizeOf24 rfl hlt) <|
        .cons rfl (ob_loadS' rfl hcv Tryd.isAgg24 Tryd.sizeOf24 rfl rfl) <|
        .cons rfl (ob_callE rfl (.cons rfl <| .nil) hc (fun w m hK => by exact hφ w m _ _ (hmB.trans (KC.le hK)) (KC.agree hK) (hv.mono (KC.le hK)) (List.getElem_mem hx))) <|
        .nil) ?_
    intro a6 w6 m6 hst6 hle6 hk6
    have hfr6 := hk6.fr (T' := [(8, _), (0, _), (1, _), (4, _), (7, _), (5, _), (16, _)]) (.old rfl rfl <| .old rfl rfl <| .old rfl rfl <| .old rfl rfl <| .old rfl rfl <| .old rfl rfl <| .new rfl <| .nil)
    replace h := h.mono hle6
    replace hcv := hcv.mono hle6
    replace hv := hv.mono hle6
    have hlh6 := hlh5.trans hle6
    clear hst5 hfr5 hk6
    refine hK9 _ _ ?_; try clear hK9 K9
    refine cond_any hfr6 rfl rfl (fun hb16 => ?_) (fun hb16 => ?_)
    · have hres : decide ((0 : Int) ≤ (y : Int)) = l.any φ := by rw [any_take_hit hx hb16]; simp
      refine seq_any fun K10 hK10 => ?_
      refine region_plain (fun h => by cases h) hst6 hfr6 (by kernel_rfl) (by kernel_rfl) (.cons rfl (ob_move rfl) <|
          .cons rfl (ob_assign rfl) <|
          .nil) ?_
      intro a7 w7 m7 hst7 hle7 hk7
      have hfr7 := hk7.fr (T' := [(8, _), (0, _), (1, _), (7, _), (5, _), (4, _)]) (.old rfl rfl <| .old rfl rfl <| .old rfl rfl <| .old rfl rfl <| .old rfl rfl <| .new rfl <| .nil)
      replace h := h.mono hle7
      replace hcv := hcv.mono hle7
      replace hv := hv.mono hle7
      have hlh7 := hlh6.trans hle7
      clear hst6 hfr6 hk7
      refine hK10 _ _ ?_; try clear hK10 K10
      refine wp_ret ?_
      repeat (with_reducible first | refine then_ret ?_ | refine block_ret ?_)
      exact fn_ret hst7 hfr7 rfl (.tmp rfl <| .nil) (⟨_, rfl, hres⟩)
    · refine wp_skip ?_
      refine hK7 _ _ ?_; try clear hK7 K7
      refine region_plain (fun h => by cases h) hst6 hfr6 (by kernel_rfl) (by kernel_rfl) (.cons rfl (ob_add rfl rfl ⟨by omega, by omega⟩) <|
          .cons rfl (ob_move rfl) <|
          .nil) ?_
      intro a7 w7 m7 hst7 hle7 hk7
      have hfr7 := hk7.fr (T' := [(0, _), (1, _), (4, _), (7, _), (5, _), (8, _)]) (.old rfl rfl <| .old rfl rfl <| .old rfl rfl <| .old rfl rfl <| .old rfl rfl <| .new rfl <| .nil)
      replace h := h.mono hle7
      replace hcv := hcv.mono hle7
      replace hv := hv.mono hle7
      have hlh7 := hlh6.trans hle7
      clear hst6 hfr6 hk7
      exact ⟨y + 1, m7, by show n - (y + 1) < n - y; omega, ⟨hst7, hlh7, hfr7.sub (.cons rfl <| .cons rfl <| .cons rfl <| .cons rfl <| .cons rfl <| .nil), ⟨by show y + 1 ≤ n; omega, any_take_miss hx hno hb16⟩⟩⟩
  · have hge : y = n := by simp at hb9; omega
    subst hge
    rw [List.take_of_length_le (by omega)] at hno
    have hres : decide ((0 : Int) ≤ -1) = l.any φ := by rw [hno]; rfl
    refine wp_exit ?_
    refine hK2 _ _ ?_; try clear hK2 K2
    refine seq_any fun K12 hK12 => ?_
    refine region_plain (fun h => by cases h) hst4 hfr4 (by kernel_rfl) (by kernel_rfl) (.cons rfl (ob_assign rfl) <|
        .nil) ?_
    intro a5 w5 m5 hst5 hle5 hk5
    have hfr5 := hk5.fr (T' := [(8, _), (0, _), (1, _), (7, _), (4, _)]) (.old rfl rfl <| .old rfl rfl <| .old rfl rfl <| .old rfl rfl <| .new rfl <| .nil)
    replace h := h.mono hle5
    have hlh5 := hlh4.trans hle5
    clear hst4 hfr4 hk5
    refine hK12 _ _ ?_; try clear hK12 K12
    refine wp_ret ?_
    repeat (with_reducible first | refine then_ret ?_ | refine block_ret ?_)
    exact fn_ret hst5 hfr5 rfl (.tmp rfl <| .nil) (⟨_, rfl, hres⟩)

set_option maxHeartbeats 400000 in
theorem containsf_c {w : World} {m : Mem} {o : Option Addr} {n c : Nat} {l : List VT} {cid : Nat} {cap : List Value} {φ : VT → Bool} (hA : Agree w m) (h : Kids m o n c l)
    (hc : ∀ args w, (callFunc cid args).run Tryd.prog w = .ok (.enter cid args) w)
    (hφ : ∀ w m' (t : VT) vs, MLe m m' → Agree w m' → VR m' t vs → t ∈ l → FnV Tryd.prog cid ([Value.agg vs.toArray] ++ cap).toArray w m' (fun _ _ v => v = .bool (φ t))) :
    FnV Tryd.prog 46 #[.slice o n c, .func (.func cid) #[] cap.toArray] w m (fun _ _ v => v = .bool (l.any φ)) := by
  refine fn_enter (vs := [.slice o n c, .func (.func cid) #[] cap.toArray]) Tryd.func46 rfl rfl rfl fun a0 hfr0 => ?_
  have hst0 := st_enter hA (loc_nil [] _ w m)
  refine seq_any fun K1 hK1 => ?_
  refine region_plain (fun h => by cases h) hst0 hfr0 (by kernel_rfl) (by kernel_rfl) (.cons rfl (ob_assign rfl) <|
      .nil) ?_
  intro a1 w1 m1 hst1 hle1 hk1
  have hfr1 := hk1.fr (T' := [(0, _), (1, _), (4, _)]) (.old rfl rfl <| .old rfl rfl <| .new rfl <| .nil)
  replace h := h.mono hle1
  clear hst0 hfr0 hk1
  have hm1 := hle1
  refine hK1 _ _ ?_; try clear hK1 K1
  refine seq_any fun K2 hK2 => ?_
  refine region_any (tch := []) (fun h => by cases h) hst1 hfr1 (by kernel_rfl) (by kernel_rfl) (by kernel_rfl) (.cons rfl (ob_move rfl) <|
      .cons rfl (ob_move rfl) <|
      .cons rfl (ob_call (φ := MP.mem (fun i : Int => .int .i64 i) (fun i _ => decide (0 ≤ i) = l.any φ) (fun _ h => h)) rfl (.cons rfl <| .cons rfl <| .nil) Tryd.call57 (fun w m hK => by exact FnG.mono (indexf_c (φ := φ) (KC.agree hK) (h.mono (KC.le hK)) hc (fun w m2 t vs hm ha hv ht => hφ w m2 t vs ((hm1.trans (KC.le hK)).trans hm) ha hv ht)) fun _ _ _ _ h => h)) <|
      .cons rfl (ob_imgV 7 rfl rfl rfl fun y7 => ob_geq rfl rfl) <|
      .consA 8 rfl rfl <|
      .nil) ?_
  intro a2 w2 m2 hst2 hle2 hk2
  have hfr2 := hk2.fr (T' := [(0, _), (1, _)]) (.old rfl rfl <| .old rfl rfl <| .nil)
  obtain ⟨i, e3, hi⟩ := hk2.ex 8 rfl
  replace hfr2 := hfr2.cons e3
  replace hfr2 := hfr2.cons (hk2.same 4 rfl e3)
  replace h := h.mono hle2
  clear hst1 hfr1 hk2
  refine hK2 _ _ ?_; try clear hK2 K2
  refine wp_ret ?_
  repeat (with_reducible first | refine then_ret ?_ | refine block_ret ?_)
  exact fn_ret hst2 hfr2 rfl (.tmp rfl <| .nil) (by dsimp only at hi; rw [← hi]; rfl)

set_option maxHeartbeats 400000 in
theorem equalf_c {w : World} {m : Mem} {o o2 : Option Addr} {n c n2 c2 : Nat} {l l2 : List VT} {cid : Nat} {cap : List Value} {ψ : VT → VT → Bool} (hA : Agree w m) (h : Kids m o n c l) (h2 : Kids m o2 n2 c2 l2)
    (hc : ∀ args w, (callFunc cid args).run Tryd.prog w = .ok (.enter cid args) w)
    (hφ : ∀ w m' (t u : VT) vs us, MLe m m' → Agree w m' → VR m' t vs → VR m' u us → t ∈ l → u ∈ l2 → FnV Tryd.prog cid ([Value.agg vs.toArray, Value.agg us.toArray] ++ cap).toArray w m' (fun _ _ v => v = .bool (ψ t u))) :
    FnV Tryd.prog 32 #[.slice o n c, .slice o2 n2 c2, .func (.func cid) #[] cap.toArray] w m (fun _ _ v => v = .bool (all2 ψ l l2)) := by
  refine fn_enter (vs := [.slice o n c, .slice o2 n2 c2, .func (.func cid) #[] cap.toArray]) Tryd.func32 rfl rfl rfl fun a0 hfr0 => ?_
  have hst0 := st_enter hA (loc_nil [] _ w m)
  have hbig := h.big
  have hlen := h.len
  have hlen2 := h2.len
  refine seq_any fun K1 hK1 => ?_
  refine region_plain (fun h => by cases h) hst0 hfr0 (by kernel_rfl) (by kernel_rfl) (.cons rfl (ob_assign rfl) <|
      .nil) ?_
  intro a1 w1 m1 hst1 hle1 hk1
  have hfr1 := hk1.fr (T' := [(0, _), (1, _), (2, _), (6, _)]) (.old rfl rfl <| .old rfl rfl <| .old rfl rfl <| .new rfl <| .nil)
  replace h := h.mono hle1
  replace h2 := h2.mono hle1
  clear hst0 hfr0 hk1
  have hm1 := hle1
  refine hK1 _ _ ?_; try clear hK1 K1
  refine seq_any fun K2 hK2 => ?_
  refine seq_any fun K3 hK3 => ?_
  refine region_plain (fun h => by cases h) hst1 hfr1 (by kernel_rfl) (by kernel_rfl) (.cons rfl (ob_move rfl) <|
      .cons rfl (ob_len rfl Tryd.underlying22) <|
      .cons rfl (ob_move rfl) <|
      .cons rfl (ob_len rfl Tryd.underlying22) <|
      .cons rfl (ob_neq rfl rfl) <|
      .nil) ?_
  intro a2 w2 m2 hst2 hle2 hk2
  have hfr2 := hk2.fr (T' := [(0, _), (1, _), (2, _), (6, _), (14, _)]) (.old rfl rfl <| .old rfl rfl <| .old rfl rfl <| .old rfl rfl <| .new rfl <| .nil)
  replace h := h.mono hle2
  replace h2 := h2.mono hle2
  clear hst1 hfr1 hk2
  have hm2 := hm1.trans hle2
  refine hK3 _ _ ?_; try clear hK3 K3
  refine cond_any hfr2 rfl rfl (fun hb14 => ?_) (fun hb14 => ?_)
  · have hres : false = all2 ψ l l2 := (all2_len (by intro e; simp at hb14; omega)).symm
    refine seq_any fun K4 hK4 => ?_
    refine region_plain (fun h => by cases h) hst2 hfr2 (by kernel_rfl) (by kernel_rfl) (.cons rfl (ob_assign rfl) <|
        .nil) ?_
    intro a3 w3 m3 hst3 hle3 hk3
    have hfr3 := hk3.fr (T' := [(0, _), (1, _), (2, _), (6, _)]) (.old rfl rfl <| .old rfl rfl <| .old rfl rfl <| .new rfl <| .nil)
    replace h := h.mono hle3
    replace h2 := h2.mono hle3
    clear hst2 hfr2 hk3
    refine hK4 _ _ ?_; try clear hK4 K4
    refine wp_ret ?_
    repeat (with_reducible first | refine then_ret ?_ | refine block_ret ?_)
    exact fn_ret hst3 hfr3 rfl (.tmp rfl <| .nil) (by rw [← hres]; rfl)
  · have hnn : n2 = n := by simp at hb14; omega
    subst hnn
    refine wp_skip ?_
    refine hK2 _ _ ?_; try clear hK2 K2
    refine seq_any fun K6 hK6 => ?_
    refine seq_any fun K7 hK7 => ?_
    refine region_plain (fun h => by cases h) hst2 hfr2 (by kernel_rfl) (by kernel_rfl) (.cons rfl (ob_move rfl) <|
        .cons rfl (ob_len rfl Tryd.underlying22) <|
        .cons rfl (ob_move rfl) <|
        .nil) ?_
    intro a3 w3 m3 hst3 hle3 hk3
    have hfr3 := hk3.fr (T' := [(0, _), (1, _), (2, _), (6, _), (15, _), (16, _), (17, _)]) (.old rfl rfl <| .old rfl rfl <| .old rfl rfl <| .old rfl rfl <| .new rfl <| .new rfl <| .new rfl <| .nil)
    replace h := h.mono hle3
    replace h2 := h2.mono hle3
    clear hst2 hfr2 hk3
    have hm3 := hm2.trans hle3
    refine hK7 _ _ ?_; try clear hK7 K7
    refine wp_block ?_
    refine loop_any (T := [(0, _), (1, _), (2, _), (6, _), (15, _), (16, _)]) (fun (y : Nat) => ([(17, .int .i64 (y : Int))] : List (Nat × Value))) (fun _ => []) (fun (y : Nat) _ => y ≤ n2 ∧ all2 ψ l l2 = all2 ψ (l.drop y) (l2.drop y)) (fun y => n2 - y) (0) ⟨hst3, MLe.refl _, hfr3.sub (.cons rfl <| .cons rfl <| .cons rfl <| .cons rfl <| .cons rfl <| .cons rfl <| .cons rfl <| .nil), ⟨Nat.zero_le _, rfl⟩⟩ fun y a4 w4 m4 hh4 => ?_
    have hst4 := hh4.st; have hle4 := hh4.le; have hfr4 := hh4.fr; have hrel := hh4.rel; clear hh4
    replace h := h.mono hle4
    replace h2 := h2.mono hle4
    clear hst3 hfr3
    obtain ⟨hyn, hno⟩ := hrel
    have hm5 := hm3.trans hle4
    have hlh4 := hle4
    refine seq_any fun K9 hK9 => ?_
    refine region_plain (fun h => by cases h) hst4 hfr4 (by kernel_rfl) (by kernel_rfl) (.cons rfl (ob_lss rfl rfl) <|
        .nil) ?_
    intro a5 w5 m5 hst5 hle5 hk5
    have hfr5 := hk5.fr (T' := [(17, _), (0, _), (1, _), (2, _), (6, _), (15, _), (16, _), (18, _)]) (.old rfl rfl <| .old rfl rfl <| .old rfl rfl <| .old rfl rfl <| .old rfl rfl <| .old rfl rfl <| .old rfl rfl <| .new rfl <| .nil)
    replace h := h.mono hle5
    replace h2 := h2.mono hle5
    have hlh5 := hlh4.trans hle5
    clear hst4 hfr4 hk5
    have hm6 := hm5.trans hle5
    refine hK9 _ _ ?_; try clear hK9 K9
    refine seq_any fun K10 hK10 => ?_
    refine cond_any hfr5 rfl rfl (fun hb18 => ?_) (fun hb18 => ?_)
    · have hlt : y < n2 := by simpa using hb18
      obtain ⟨p, vs, hx, rfl, hcv, hvl, hv⟩ := h.get hlt
      obtain ⟨vo, vc, rfl, hkd, _, _⟩ := hv.open_
      obtain ⟨p2, us, hx2, rfl, hcu, hul, hu⟩ := h2.get hlt
      obtain ⟨uo, uc, rfl, hkd2, _, _⟩ := hu.open_
      refine wp_skip ?_
      refine hK10 _ _ ?_; try clear hK10 K10
      refine seq_any fun K11 hK11 => ?_
      refine wp_block ?_
      refine seq_any fun K12 hK12 => ?_
      replace hst5 := hst5.more (r := .free) trivial List.nodup_nil (by simp [Res.blocks])
      refine region_any (tch := [(3, 0, (fun v => .blk v _)), (5, 0, (fun v => .blk v _))]) (fun h => by cases h) hst5 hfr5 (by kernel_rfl) (by kernel_rfl) (by kernel_rfl) (.cons rfl (ob_move rfl) <|
          .cons rfl (ob_indexAddr rfl rfl Tryd.underlying22 Tryd.sizeOf24 rfl hlt) <|
          .cons rfl (ob_loadS' rfl hcv Tryd.isAgg24 Tryd.sizeOf24 rfl rfl) <|
          .consT rfl rfl (fun _ => rfl) rfl (ob_allocL Tryd.zeroValue24 rfl) <|
          .cons rfl (ob_assign rfl) <|
          .consT rfl rfl (fun _ => rfl) rfl (ob_imgT 8 rfl rfl rfl fun y8 => ob_storeF rfl rfl rfl rfl Tryd.sizeOf24 rfl rfl rfl) <|
          .nil) ?_
      intro a6 w6 m6 hst6 hle6 hk6
      have hfr6 := hk6.fr (T' := [(17, _), (0, _), (1, _), (2, _), (6, _), (15, _), (16, _), (7, _)]) (.old rfl rfl <| .old rfl rfl <| .old rfl rfl <| .old rfl rfl <| .old rfl rfl <| .old rfl rfl <| .old rfl rfl <| .new rfl <| .nil)
      obtain ⟨g13, e13, _⟩ := hk6.ex 8 rfl
      replace hfr6 := hfr6.cons e13
      replace hst6 := hst6.fin (L' := [_]) (.cons e13 <| .cons e13 <| .nil)
      replace h := h.mono hle6
      replace h2 := h2.mono hle6
      replace hcv := hcv.mono hle6
      replace hv := hv.mono hle6
      replace hcu := hcu.mono hle6
      replace hu := hu.mono hle6
      have hlh6 := hlh5.trans hle6
      clear hst5 hfr5 hk6
      have hm7 := hm6.trans hle6
      refine hK12 _ _ ?_; try clear hK12 K12
      refine seq_any fun K14 hK14 => ?_
      replace hst6 := hst6.more (r := .free) trivial List.nodup_nil (by simp [Res.blocks])
      refine region_any (tch := [(4, 1, (fun v => .blk v _)), (5, 1, (fun v => .blk v _))]) (fun h => by cases h) hst6 hfr6 (by kernel_rfl) (by kernel_rfl) (by kernel_rfl) (.cons rfl (ob_move rfl) <|
          .cons rfl (ob_move rfl) <|
          .cons rfl (ob_indexAddr rfl rfl Tryd.underlying22 Tryd.sizeOf24 rfl hlt) <|
          .cons rfl (ob_loadS' rfl hcu Tryd.isAgg24 Tryd.sizeOf24 rfl rfl) <|
          .consT rfl rfl (fun _ => rfl) rfl (ob_allocL Tryd.zeroValue24 rfl) <|
          .consT rfl rfl (fun _ => rfl) rfl (ob_imgT 9 rfl rfl rfl fun y9 => ob_storeF rfl rfl rfl rfl Tryd.sizeOf24 rfl rfl rfl) <|
          .nil) ?_
      intro a7 w7 m7 hst7 hle7 hk7
      have hfr7 := hk7.fr (T' := [(17, _), (0, _), (1, _), (2, _), (6, _), (15, _), (16, _), (7, _), (8, _)]) (.old rfl rfl <| .old rfl rfl <| .old rfl rfl <| .old rfl rfl <| .old rfl rfl <| .old rfl rfl <| .old rfl rfl <| .old rfl rfl <| .old rfl rfl <| .nil)
      obtain ⟨g15, e15, _⟩ := hk7.ex 9 rfl
      replace hfr7 := hfr7.cons e15
      replace hst7 := hst7.fin (L' := [_, _]) (.cons e15 <| .cons e15 <| .nil)
      replace h := h.mono hle7
      replace h2 := h2.mono hle7
      replace hcv := hcv.mono hle7
      replace hv := hv.mono hle7
      replace hcu := hcu.mono hle7
      replace hu := hu.mono hle7
      have hlh7 := hlh6.trans hle7
      clear hst6 hfr6 hk7
      have hm8 := hm7.trans hle7
      refine hK14 _ _ ?_; try clear hK14 K14
      refine seq_any fun K16 hK16 => ?_
      refine region_plain (fun h => by cases h) hst7 hfr7 (by kernel_rfl) (by kernel_rfl) (.cons rfl (ob_move rfl) <|
          .cons rfl (ob_loadLS' (j := 0) rfl rfl Tryd.isAgg24 Tryd.sizeOf24 rfl rfl) <|
          .cons rfl (ob_loadLS' (j := 1) rfl rfl Tryd.isAgg24 Tryd.sizeOf24 rfl rfl) <|
          .cons rfl (ob_callE rfl (.cons rfl <| .cons rfl <| .nil) hc (fun w m hK => by exact hφ w m _ _ _ _ (hm8.trans (KC.le hK)) (KC.agree hK) (hv.mono (KC.le hK)) (hu.mono (KC.le hK)) (List.getElem_mem hx) (List.getElem_mem hx2))) <|
          .cons rfl (ob_not rfl) <|
          .nil) ?_
      intro a8 w8 m8 hst8 hle8 hk8
      have hfr8 := hk8.fr (T' := [(17, _), (0, _), (1, _), (2, _), (6, _), (15, _), (16, _), (7, _), (8, _), (9, _), (30, _)]) (.old rfl rfl <| .old rfl rfl <| .old rfl rfl <| .old rfl rfl <| .old rfl rfl <| .old rfl rfl <| .old rfl rfl <| .old rfl rfl <| .old rfl rfl <| .old rfl rfl <| .new rfl <| .nil)
      replace h := h.mono hle8
      replace h2 := h2.mono hle8
      replace hcv := hcv.mono hle8
      replace hv := hv.mono hle8
      replace hcu := hcu.mono hle8
      replace hu := hu.mono hle8
      have hlh8 := hlh7.trans hle8
      clear hst7 hfr7 hk8
      refine hK16 _ _ ?_; try clear hK16 K16
      refine cond_any hfr8 rfl rfl (fun hb30 => ?_) (fun hb30 => ?_)
      · have hres : false = all2 ψ l l2 := by rw [hno, all2_drop hx hx2]; simp at hb30; simp [hb30]
        refine seq_any fun K17 hK17 => ?_
        refine region_plain (fun h => by cases h) hst8 hfr8 (by kernel_rfl) (by kernel_rfl) (.cons rfl (ob_assign rfl) <|
            .nil) ?_
        intro a9 w9 m9 hst9 hle9 hk9
        have hfr9 := hk9.fr (T' := [(17, _), (0, _), (1, _), (2, _), (15, _), (16, _), (7, _), (8, _), (9, _), (6, _)]) (.old rfl rfl <| .old rfl rfl <| .old rfl rfl <| .old rfl rfl <| .old rfl rfl <| .old rfl rfl <| .old rfl rfl <| .old rfl rfl <| .old rfl rfl <| .new rfl <| .nil)
        replace h := h.mono hle9
        replace h2 := h2.mono hle9
        replace hcv := hcv.mono hle9
        replace hv := hv.mono hle9
        replace hcu := hcu.mono hle9
        replace hu := hu.mono hle9
        have hlh9 := hlh8.trans hle9
        clear hst8 hfr8 hk9
        refine hK17 _ _ ?_; try clear hK17 K17
        refine wp_ret ?_
        repeat (with_reducible first | refine then_ret ?_ | refine block_ret ?_)
        exact fn_ret hst9 hfr9 rfl (.tmp rfl <| .nil) (by rw [← hres]; rfl)
      · have hyes : ψ l[y] l2[y] = true := by simpa using hb30
        refine wp_skip ?_
        refine hK11 _ _ ?_; try clear hK11 K11
        refine region_plain (fun h => by cases h) hst8 hfr8 (by kernel_rfl) (by kernel_rfl) (.cons rfl (ob_add rfl rfl ⟨by omega, by omega⟩) <|
            .cons rfl (ob_move rfl) <|
            .nil) ?_
        intro a9 w9 m9 hst9 hle9 hk9
        have hfr9 := hk9.fr (T' := [(0, _), (1, _), (2, _), (6, _), (15, _), (16, _), (7, _), (8, _), (9, _), (17, _)]) (.old rfl rfl <| .old rfl rfl <| .old rfl rfl <| .old rfl rfl <| .old rfl rfl <| .old rfl rfl <| .old rfl rfl <| .old rfl rfl <| .old rfl rfl <| .new rfl <| .nil)
        replace h := h.mono hle9
        replace h2 := h2.mono hle9
        replace hcv := hcv.mono hle9
        replace hv := hv.mono hle9
        replace hcu := hcu.mono hle9
        replace hu := hu.mono hle9
        have hlh9 := hlh8.trans hle9
        clear hst8 hfr8 hk9
        have hst9 := hst9.take 0
        exact ⟨y + 1, m9, by show n2 - (y + 1) < n2 - y; omega, ⟨hst9, hlh9, hfr9.sub (.cons rfl <| .cons rfl <| .cons rfl <| .cons rfl <| .cons rfl <| .cons rfl <| .cons rfl <| .nil), ⟨by show y + 1 ≤ n2; omega, by rw [hno, all2_drop hx hx2, hyes]; rfl⟩⟩⟩
    · have hge : y = n2 := by simp at hb18; omega
      have hres : true = all2 ψ l l2 := by rw [hno, List.drop_of_length_le (by omega), List.drop_of_length_le (by omega)]; rfl
      refine wp_exit ?_
      refine hK6 _ _ ?_; try clear hK6 K6
      refine seq_any fun K19 hK19 => ?_
      refine region_plain (fun h => by cases h) hst5 hfr5 (by kernel_rfl) (by kernel_rfl) (.cons rfl (ob_assign rfl) <|
          .nil) ?_
      intro a6 w6 m6 hst6 hle6 hk6
      have hfr6 := hk6.fr (T' := [(17, _), (0, _), (1, _), (2, _), (15, _), (16, _), (6, _)]) (.old rfl rfl <| .old rfl rfl <| .old rfl rfl <| .old rfl rfl <| .old rfl rfl <| .old rfl rfl <| .new rfl <| .nil)
      replace h := h.mono hle6
      replace h2 := h2.mono hle6
      have hlh6 := hlh5.trans hle6
      clear hst5 hfr5 hk6
      refine hK19 _ _ ?_; try clear hK19 K19
      refine wp_ret ?_
      repeat (with_reducible first | refine then_ret ?_ | refine block_ret ?_)
      exact fn_ret hst6 hfr6 rfl (.tmp rfl <| .nil) (by rw [← hres]; rfl)

end Go.Proofs.YtineijefefjpeaaDoor
