/-
  Code: what may be, as the document's answer says it. Conditions: those of each theorem.
-/
import Derived.Test.YtlihpgjabohebaaDoorCright2
namespace Go.Proofs.YtlihpgjabohebaaDoor
set_option linter.all false
set_option maxRecDepth 4000
open Go.RowKit
theorem nameOk_nil : nameOk [] = true := rfl
theorem nameOk_cons (x : Str) (l : List Str) : nameOk (x :: l) = (!decide (x = []) && nameOk l) := by
  unfold nameOk
  by_cases h : x = []
  · subst h; simp
  · have : ¬ [] = x := fun e => h e.symm
    simp [h, this]
theorem dN1 (n : Nat) : decide ((n : Int) = 1) = decide (n = 1) := decide_eq_decide.2 (by omega)
theorem dN2 (n : Nat) : decide ((n : Int) = 2) = decide (n = 2) := decide_eq_decide.2 (by omega)
theorem dN3 (n : Nat) : decide ((n : Int) = 3) = decide (n = 3) := decide_eq_decide.2 (by omega)
/-- May the i-th arm be? -/
def armAt (t : Cd) (i : Nat) : Bool := match t.arms[i]? with | some a => armOk t.kind i a | none => false
theorem all_upto {α : Type} {p : α → Bool} {l : List α} {n y : Nat} {x : α} (hy : y < n) (hi : l[y]? = some x) (hx : p x = false) : (l.take n).all p = false := by
  rw [List.all_eq_false]
  exact ⟨x, List.mem_of_getElem? (i := y) (by rw [List.getElem?_take_of_lt hy]; exact hi), by simp [hx]⟩
set_option maxHeartbeats 400000 in
theorem ratom_c {w : World} {m : Mem} {t : Cd} {vs_t : List Value} (hA : Agree w m) (h_t : CdR m t vs_t) : FnV Tryd.prog 77 #[.agg vs_t.toArray] w m (fun _ _ v => v = .bool (atomC t)) := by
  obtain ⟨⟨oK_t, cK_t, oA_t, cA_t⟩, rfl, ⟨hik_t, hin_t⟩, hkk_t, haa_t⟩ := h_t.open_
  dsimp only at hkk_t haa_t
  have hbg_t := hkk_t.big; have hcp_t := hkk_t.cap; have hbh_t := haa_t.big; have hcq_t := haa_t.cap
  refine fn_enter (vs := [_]) Tryd.func77 rfl rfl rfl fun a0 hfr0 => ?_
  have hst0 := st_enter hA (loc_nil [] _ w m)
  have hM : MLe m m := MLe.refl m
  refine seq_any fun _ hK1 => ?_
  refine rp0 hst0 hfr0 (.cons rfl (ob_box rfl rfl) <| .cons rfl (ob_assign rfl) <| .nil) ?_
  intro a1 w1 m1 hst1 hle1 hk1
  have hfr1 := hk1.fr (T' := []) (.nil)
  obtain ⟨g2, e2, hc1⟩ := hk1.ex 1 rfl
  replace hfr1 := hfr1.cons e2
  clear hst0 hfr0 hk1
  refine hK1 _ _ ?_; clear hK1
  refine seq_any fun _ hK3 => ?_
  refine rp0 hst1 hfr1 (.cons rfl (ob_fieldAddrO (off := 0) rfl Tryd.underlying25 rfl rfl Tryd.sizeOf3 rfl) <| .cons rfl (ob_load1 rfl hc1 Tryd.isAgg3 rfl) <| .cons rfl (ob_geq rfl rfl) <| .cons rfl (ob_move rfl) <| .cons rfl (ob_fieldAddrO (off := 0) rfl Tryd.underlying25 rfl rfl Tryd.sizeOf3 rfl) <| .cons rfl (ob_load1 rfl hc1 Tryd.isAgg3 rfl) <| .cons rfl (ob_leq rfl rfl) <| .cons rfl (ob_and rfl rfl rfl) <| .cons rfl (ob_assign rfl) <| .nil) ?_
  intro a2 w2 m2 hst2 hle2 hk2
  have hfr2 := hk2.fr (T' := [(2, _)]) (.new rfl <| .nil)
  clear hst1 hfr1 hk2
  refine hK3 _ _ ?_; clear hK3
  refine wp_ret ?_
  repeat (with_reducible first | refine then_ret ?_ | refine block_ret ?_)
  exact fn_ret hst2 hfr2 rfl (.tmp rfl <| .nil) (by refine congrArg Value.bool ?_; rfl)

set_option maxHeartbeats 400000 in
theorem prim_c {w : World} {m : Mem} {s : Str} (hA : Agree w m)  : FnV Tryd.prog 51 #[S s] w m (fun _ _ v => v = .int .i64 (primN s)) := by
  refine fn_enter (vs := [_]) Tryd.func51 rfl rfl rfl fun a0 hfr0 => ?_
  have hst0 := st_enter hA (loc_nil [] _ w m)
  have hM : MLe m m := MLe.refl m
  refine seq_any fun _ hK1 => ?_
  refine rp0 hst0 hfr0 (.cons rfl (ob_assign rfl) <| .nil) ?_
  intro a1 w1 m1 hst1 hle1 hk1
  have hfr1 := hk1.fr (T' := [(0, _)]) (.old rfl rfl <| .nil)
  clear hst0 hfr0 hk1
  refine hK1 _ _ ?_; clear hK1
  refine seq_any fun _ hK2 => ?_
  refine seq_any fun _ hK3 => ?_
  refine rp0 hst1 hfr1 (.cons rfl (ob_move rfl) <| .nil) ?_
  intro a2 w2 m2 hst2 hle2 hk2
  have hfr2 := hk2.fr (T' := [(3, _)]) (.new rfl <| .nil)
  clear hst1 hfr1 hk2
  refine hK3 _ _ ?_; clear hK3
  refine wp_block ?_
  refine seq_any fun _ hK4 => ?_
  refine seq_any fun _ hK5 => ?_
  refine rp0 hst2 hfr2 (.cons rfl (ob_seql rfl rfl) <| .cons rfl (ob_assign rfl) <| .nil) ?_
  intro a3 w3 m3 hst3 hle3 hk3
  have hfr3 := hk3.fr (T' := [(3, _), (4, _)]) (.old rfl rfl <| .new rfl <| .nil)
  clear hst2 hfr2 hk3
  refine hK5 _ _ ?_; clear hK5
  refine cond_any hfr3 rfl rfl (fun hb4 => ?_) (fun hb4 => ?_)
  · try simp only [nq1, nq2, nq3, nq4, nq5, nq6, nq7, nq8, nq9, u8_eq] at hb4
    refine wp_skip ?_
    refine hK4 _ _ ?_; clear hK4
    refine cond_any hfr3 rfl rfl (fun hb4x => ?_) (fun hb4x => ?_)
    · try simp only [nq1, nq2, nq3, nq4, nq5, nq6, nq7, nq8, nq9, u8_eq] at hb4x
      refine seq_any fun _ hK6 => ?_
      refine rp0 hst3 hfr3 (.cons rfl (ob_assign rfl) <| .nil) ?_
      intro a4 w4 m4 hst4 hle4 hk4
      have hfr4 := hk4.fr (T' := [(2, _)]) (.new rfl <| .nil)
      clear hst3 hfr3 hk4
      refine hK6 _ _ ?_; clear hK6
      refine wp_ret ?_
      repeat (with_reducible first | refine then_ret ?_ | refine block_ret ?_)
      exact fn_ret hst4 hfr4 rfl (.tmp rfl <| .nil) (by refine congrArg (Value.int _) ?_; unfold primN; simp_all)
    · exfalso; try simp only [nq1, nq2, nq3, nq4, nq5, nq6, nq7, nq8, nq9, u8_eq] at hb4x
      first | exact absurd hb4x hb4 | exact absurd hb4 hb4x | simp_all
  · try simp only [nq1, nq2, nq3, nq4, nq5, nq6, nq7, nq8, nq9, u8_eq] at hb4
    refine seq_any fun _ hK8 => ?_
    refine rp0 hst3 hfr3 (.cons rfl (ob_seql rfl rfl) <| .cons rfl (ob_assign rfl) <| .nil) ?_
    intro a4 w4 m4 hst4 hle4 hk4
    have hfr4 := hk4.fr (T' := [(3, _), (4, _)]) (.old rfl rfl <| .new rfl <| .nil)
    clear hst3 hfr3 hk4
    refine hK8 _ _ ?_; clear hK8
    refine cond_any hfr4 rfl rfl (fun hb4 => ?_) (fun hb4 => ?_)
    · try simp only [nq1, nq2, nq3, nq4, nq5, nq6, nq7, nq8, nq9, u8_eq] at hb4
      refine wp_skip ?_
      refine hK4 _ _ ?_; clear hK4
      refine cond_any hfr4 rfl rfl (fun hb4x => ?_) (fun hb4x => ?_)
      · try simp only [nq1, nq2, nq3, nq4, nq5, nq6, nq7, nq8, nq9, u8_eq] at hb4x
        refine seq_any fun _ hK9 => ?_
        refine rp0 hst4 hfr4 (.cons rfl (ob_assign rfl) <| .nil) ?_
        intro a5 w5 m5 hst5 hle5 hk5
        have hfr5 := hk5.fr (T' := [(2, _)]) (.new rfl <| .nil)
        clear hst4 hfr4 hk5
        refine hK9 _ _ ?_; clear hK9
        refine wp_ret ?_
        repeat (with_reducible first | refine then_ret ?_ | refine block_ret ?_)
        exact fn_ret hst5 hfr5 rfl (.tmp rfl <| .nil) (by refine congrArg (Value.int _) ?_; unfold primN; simp_all)
      · exfalso; try simp only [nq1, nq2, nq3, nq4, nq5, nq6, nq7, nq8, nq9, u8_eq] at hb4x
        first | exact absurd hb4x hb4 | exact absurd hb4 hb4x | simp_all
    · try simp only [nq1, nq2, nq3, nq4, nq5, nq6, nq7, nq8, nq9, u8_eq] at hb4
      refine seq_any fun _ hK11 => ?_
      refine rp0 hst4 hfr4 (.cons rfl (ob_seql rfl rfl) <| .cons rfl (ob_assign rfl) <| .nil) ?_
      intro a5 w5 m5 hst5 hle5 hk5
      have hfr5 := hk5.fr (T' := [(3, _), (4, _)]) (.old rfl rfl <| .new rfl <| .nil)
      clear hst4 hfr4 hk5
      refine hK11 _ _ ?_; clear hK11
      refine cond_any hfr5 rfl rfl (fun hb4 => ?_) (fun hb4 => ?_)
      · try simp only [nq1, nq2, nq3, nq4, nq5, nq6, nq7, nq8, nq9, u8_eq] at hb4
        refine wp_skip ?_
        refine hK4 _ _ ?_; clear hK4
        refine cond_any hfr5 rfl rfl (fun hb4x => ?_) (fun hb4x => ?_)
        · try simp only [nq1, nq2, nq3, nq4, nq5, nq6, nq7, nq8, nq9, u8_eq] at hb4x
          refine seq_any fun _ hK12 => ?_
          refine rp0 hst5 hfr5 (.cons rfl (ob_assign rfl) <| .nil) ?_
          intro a6 w6 m6 hst6 hle6 hk6
          have hfr6 := hk6.fr (T' := [(2, _)]) (.new rfl <| .nil)
          clear hst5 hfr5 hk6
          refine hK12 _ _ ?_; clear hK12
          refine wp_ret ?_
          repeat (with_reducible first | refine then_ret ?_ | refine block_ret ?_)
          exact fn_ret hst6 hfr6 rfl (.tmp rfl <| .nil) (by refine congrArg (Value.int _) ?_; unfold primN; simp_all)
        · exfalso; try simp only [nq1, nq2, nq3, nq4, nq5, nq6, nq7, nq8, nq9, u8_eq] at hb4x
          first | exact absurd hb4x hb4 | exact absurd hb4 hb4x | simp_all
      · try simp only [nq1, nq2, nq3, nq4, nq5, nq6, nq7, nq8, nq9, u8_eq] at hb4
        refine seq_any fun _ hK14 => ?_
        refine rp0 hst5 hfr5 (.cons rfl (ob_seql rfl rfl) <| .cons rfl (ob_assign rfl) <| .nil) ?_
        intro a6 w6 m6 hst6 hle6 hk6
        have hfr6 := hk6.fr (T' := [(3, _), (4, _)]) (.old rfl rfl <| .new rfl <| .nil)
        clear hst5 hfr5 hk6
        refine hK14 _ _ ?_; clear hK14
        refine cond_any hfr6 rfl rfl (fun hb4 => ?_) (fun hb4 => ?_)
        · try simp only [nq1, nq2, nq3, nq4, nq5, nq6, nq7, nq8, nq9, u8_eq] at hb4
          refine wp_skip ?_
          refine hK4 _ _ ?_; clear hK4
          refine cond_any hfr6 rfl rfl (fun hb4x => ?_) (fun hb4x => ?_)
          · try simp only [nq1, nq2, nq3, nq4, nq5, nq6, nq7, nq8, nq9, u8_eq] at hb4x
            refine seq_any fun _ hK15 => ?_
            refine rp0 hst6 hfr6 (.cons rfl (ob_assign rfl) <| .nil) ?_
            intro a7 w7 m7 hst7 hle7 hk7
            have hfr7 := hk7.fr (T' := [(2, _)]) (.new rfl <| .nil)
            clear hst6 hfr6 hk7
            refine hK15 _ _ ?_; clear hK15
            refine wp_ret ?_
            repeat (with_reducible first | refine then_ret ?_ | refine block_ret ?_)
            exact fn_ret hst7 hfr7 rfl (.tmp rfl <| .nil) (by refine congrArg (Value.int _) ?_; unfold primN; simp_all)
          · exfalso; try simp only [nq1, nq2, nq3, nq4, nq5, nq6, nq7, nq8, nq9, u8_eq] at hb4x
            first | exact absurd hb4x hb4 | exact absurd hb4 hb4x | simp_all
        · try simp only [nq1, nq2, nq3, nq4, nq5, nq6, nq7, nq8, nq9, u8_eq] at hb4
          refine seq_any fun _ hK17 => ?_
          refine rp0 hst6 hfr6 (.cons rfl (ob_seql rfl rfl) <| .cons rfl (ob_assign rfl) <| .nil) ?_
          intro a7 w7 m7 hst7 hle7 hk7
          have hfr7 := hk7.fr (T' := [(3, _), (4, _)]) (.old rfl rfl <| .new rfl <| .nil)
          clear hst6 hfr6 hk7
          refine hK17 _ _ ?_; clear hK17
          refine cond_any hfr7 rfl rfl (fun hb4 => ?_) (fun hb4 => ?_)
          · try simp only [nq1, nq2, nq3, nq4, nq5, nq6, nq7, nq8, nq9, u8_eq] at hb4
            refine wp_skip ?_
            refine hK4 _ _ ?_; clear hK4
            refine cond_any hfr7 rfl rfl (fun hb4x => ?_) (fun hb4x => ?_)
            · try simp only [nq1, nq2, nq3, nq4, nq5, nq6, nq7, nq8, nq9, u8_eq] at hb4x
              refine seq_any fun _ hK18 => ?_
              refine rp0 hst7 hfr7 (.cons rfl (ob_assign rfl) <| .nil) ?_
              intro a8 w8 m8 hst8 hle8 hk8
              have hfr8 := hk8.fr (T' := [(2, _)]) (.new rfl <| .nil)
              clear hst7 hfr7 hk8
              refine hK18 _ _ ?_; clear hK18
              refine wp_ret ?_
              repeat (with_reducible first | refine then_ret ?_ | refine block_ret ?_)
              exact fn_ret hst8 hfr8 rfl (.tmp rfl <| .nil) (by refine congrArg (Value.int _) ?_; unfold primN; simp_all)
            · exfalso; try simp only [nq1, nq2, nq3, nq4, nq5, nq6, nq7, nq8, nq9, u8_eq] at hb4x
              first | exact absurd hb4x hb4 | exact absurd hb4 hb4x | simp_all
          · try simp only [nq1, nq2, nq3, nq4, nq5, nq6, nq7, nq8, nq9, u8_eq] at hb4
            refine seq_any fun _ hK20 => ?_
            refine rp0 hst7 hfr7 (.cons rfl (ob_seql rfl rfl) <| .cons rfl (ob_assign rfl) <| .nil) ?_
            intro a8 w8 m8 hst8 hle8 hk8
            have hfr8 := hk8.fr (T' := [(3, _), (4, _)]) (.old rfl rfl <| .new rfl <| .nil)
            clear hst7 hfr7 hk8
            refine hK20 _ _ ?_; clear hK20
            refine cond_any hfr8 rfl rfl (fun hb4 => ?_) (fun hb4 => ?_)
            · try simp only [nq1, nq2, nq3, nq4, nq5, nq6, nq7, nq8, nq9, u8_eq] at hb4
              refine wp_skip ?_
              refine hK4 _ _ ?_; clear hK4
              refine cond_any hfr8 rfl rfl (fun hb4x => ?_) (fun hb4x => ?_)
              · try simp only [nq1, nq2, nq3, nq4, nq5, nq6, nq7, nq8, nq9, u8_eq] at hb4x
                refine seq_any fun _ hK21 => ?_
                refine rp0 hst8 hfr8 (.cons rfl (ob_assign rfl) <| .nil) ?_
                intro a9 w9 m9 hst9 hle9 hk9
                have hfr9 := hk9.fr (T' := [(2, _)]) (.new rfl <| .nil)
                clear hst8 hfr8 hk9
                refine hK21 _ _ ?_; clear hK21
                refine wp_ret ?_
                repeat (with_reducible first | refine then_ret ?_ | refine block_ret ?_)
                exact fn_ret hst9 hfr9 rfl (.tmp rfl <| .nil) (by refine congrArg (Value.int _) ?_; unfold primN; simp_all)
              · exfalso; try simp only [nq1, nq2, nq3, nq4, nq5, nq6, nq7, nq8, nq9, u8_eq] at hb4x
                first | exact absurd hb4x hb4 | exact absurd hb4 hb4x | simp_all
            · try simp only [nq1, nq2, nq3, nq4, nq5, nq6, nq7, nq8, nq9, u8_eq] at hb4
              refine rp0 hst8 hfr8 (.cons rfl (ob_seql rfl rfl) <| .cons rfl (ob_assign rfl) <| .nil) ?_
              intro a9 w9 m9 hst9 hle9 hk9
              have hfr9 := hk9.fr (T' := [(3, _), (4, _)]) (.old rfl rfl <| .new rfl <| .nil)
              clear hst8 hfr8 hk9
              refine hK4 _ _ ?_; clear hK4
              refine cond_any hfr9 rfl rfl (fun hb4 => ?_) (fun hb4 => ?_)
              · try simp only [nq1, nq2, nq3, nq4, nq5, nq6, nq7, nq8, nq9, u8_eq] at hb4
                refine seq_any fun _ hK23 => ?_
                refine rp0 hst9 hfr9 (.cons rfl (ob_assign rfl) <| .nil) ?_
                intro a10 w10 m10 hst10 hle10 hk10
                have hfr10 := hk10.fr (T' := [(2, _)]) (.new rfl <| .nil)
                clear hst9 hfr9 hk10
                refine hK23 _ _ ?_; clear hK23
                refine wp_ret ?_
                repeat (with_reducible first | refine then_ret ?_ | refine block_ret ?_)
                exact fn_ret hst10 hfr10 rfl (.tmp rfl <| .nil) (by refine congrArg (Value.int _) ?_; unfold primN; simp_all)
              · try simp only [nq1, nq2, nq3, nq4, nq5, nq6, nq7, nq8, nq9, u8_eq] at hb4
                refine seq_any fun _ hK25 => ?_
                refine seq_any fun _ hK26 => ?_
                refine rp0 hst9 hfr9 (.cons rfl (ob_seql rfl rfl) <| .cons rfl (ob_assign rfl) <| .nil) ?_
                intro a10 w10 m10 hst10 hle10 hk10
                have hfr10 := hk10.fr (T' := [(3, _), (12, _)]) (.old rfl rfl <| .new rfl <| .nil)
                clear hst9 hfr9 hk10
                refine hK26 _ _ ?_; clear hK26
                refine cond_any hfr10 rfl rfl (fun hb12 => ?_) (fun hb12 => ?_)
                · try simp only [nq1, nq2, nq3, nq4, nq5, nq6, nq7, nq8, nq9, u8_eq] at hb12
                  refine wp_skip ?_
                  refine hK25 _ _ ?_; clear hK25
                  refine cond_any hfr10 rfl rfl (fun hb12x => ?_) (fun hb12x => ?_)
                  · try simp only [nq1, nq2, nq3, nq4, nq5, nq6, nq7, nq8, nq9, u8_eq] at hb12x
                    refine seq_any fun _ hK27 => ?_
                    refine rp0 hst10 hfr10 (.cons rfl (ob_assign rfl) <| .nil) ?_
                    intro a11 w11 m11 hst11 hle11 hk11
                    have hfr11 := hk11.fr (T' := [(2, _)]) (.new rfl <| .nil)
                    clear hst10 hfr10 hk11
                    refine hK27 _ _ ?_; clear hK27
                    refine wp_ret ?_
                    repeat (with_reducible first | refine then_ret ?_ | refine block_ret ?_)
                    exact fn_ret hst11 hfr11 rfl (.tmp rfl <| .nil) (by refine congrArg (Value.int _) ?_; unfold primN; simp_all)
                  · exfalso; try simp only [nq1, nq2, nq3, nq4, nq5, nq6, nq7, nq8, nq9, u8_eq] at hb12x
                    first | exact absurd hb12x hb12 | exact absurd hb12 hb12x | simp_all
                · try simp only [nq1, nq2, nq3, nq4, nq5, nq6, nq7, nq8, nq9, u8_eq] at hb12
                  refine seq_any fun _ hK29 => ?_
                  refine rp0 hst10 hfr10 (.cons rfl (ob_seql rfl rfl) <| .cons rfl (ob_assign rfl) <| .nil) ?_
                  intro a11 w11 m11 hst11 hle11 hk11
                  have hfr11 := hk11.fr (T' := [(3, _), (12, _)]) (.old rfl rfl <| .new rfl <| .nil)
                  clear hst10 hfr10 hk11
                  refine hK29 _ _ ?_; clear hK29
                  refine cond_any hfr11 rfl rfl (fun hb12 => ?_) (fun hb12 => ?_)
                  · try simp only [nq1, nq2, nq3, nq4, nq5, nq6, nq7, nq8, nq9, u8_eq] at hb12
                    refine wp_skip ?_
                    refine hK25 _ _ ?_; clear hK25
                    refine cond_any hfr11 rfl rfl (fun hb12x => ?_) (fun hb12x => ?_)
                    · try simp only [nq1, nq2, nq3, nq4, nq5, nq6, nq7, nq8, nq9, u8_eq] at hb12x
                      refine seq_any fun _ hK30 => ?_
                      refine rp0 hst11 hfr11 (.cons rfl (ob_assign rfl) <| .nil) ?_
                      intro a12 w12 m12 hst12 hle12 hk12
                      have hfr12 := hk12.fr (T' := [(2, _)]) (.new rfl <| .nil)
                      clear hst11 hfr11 hk12
                      refine hK30 _ _ ?_; clear hK30
                      refine wp_ret ?_
                      repeat (with_reducible first | refine then_ret ?_ | refine block_ret ?_)
                      exact fn_ret hst12 hfr12 rfl (.tmp rfl <| .nil) (by refine congrArg (Value.int _) ?_; unfold primN; simp_all)
                    · exfalso; try simp only [nq1, nq2, nq3, nq4, nq5, nq6, nq7, nq8, nq9, u8_eq] at hb12x
                      first | exact absurd hb12x hb12 | exact absurd hb12 hb12x | simp_all
                  · try simp only [nq1, nq2, nq3, nq4, nq5, nq6, nq7, nq8, nq9, u8_eq] at hb12
                    refine rp0 hst11 hfr11 (.cons rfl (ob_seql rfl rfl) <| .cons rfl (ob_assign rfl) <| .nil) ?_
                    intro a12 w12 m12 hst12 hle12 hk12
                    have hfr12 := hk12.fr (T' := [(3, _), (12, _)]) (.old rfl rfl <| .new rfl <| .nil)
                    clear hst11 hfr11 hk12
                    refine hK25 _ _ ?_; clear hK25
                    refine cond_any hfr12 rfl rfl (fun hb12 => ?_) (fun hb12 => ?_)
                    · try simp only [nq1, nq2, nq3, nq4, nq5, nq6, nq7, nq8, nq9, u8_eq] at hb12
                      refine seq_any fun _ hK32 => ?_
                      refine rp0 hst12 hfr12 (.cons rfl (ob_assign rfl) <| .nil) ?_
                      intro a13 w13 m13 hst13 hle13 hk13
                      have hfr13 := hk13.fr (T' := [(2, _)]) (.new rfl <| .nil)
                      clear hst12 hfr12 hk13
                      refine hK32 _ _ ?_; clear hK32
                      refine wp_ret ?_
                      repeat (with_reducible first | refine then_ret ?_ | refine block_ret ?_)
                      exact fn_ret hst13 hfr13 rfl (.tmp rfl <| .nil) (by refine congrArg (Value.int _) ?_; unfold primN; simp_all)
                    · try simp only [nq1, nq2, nq3, nq4, nq5, nq6, nq7, nq8, nq9, u8_eq] at hb12
                      refine seq_any fun _ hK34 => ?_
                      refine rp0 hst12 hfr12 (.cons rfl (ob_seql rfl rfl) <| .cons rfl (ob_assign rfl) <| .nil) ?_
                      intro a13 w13 m13 hst13 hle13 hk13
                      have hfr13 := hk13.fr (T' := [(16, _)]) (.new rfl <| .nil)
                      clear hst12 hfr12 hk13
                      refine hK34 _ _ ?_; clear hK34
                      refine cond_any hfr13 rfl rfl (fun hb16 => ?_) (fun hb16 => ?_)
                      · try simp only [nq1, nq2, nq3, nq4, nq5, nq6, nq7, nq8, nq9, u8_eq] at hb16
                        refine seq_any fun _ hK35 => ?_
                        refine rp0 hst13 hfr13 (.cons rfl (ob_assign rfl) <| .nil) ?_
                        intro a14 w14 m14 hst14 hle14 hk14
                        have hfr14 := hk14.fr (T' := [(2, _)]) (.new rfl <| .nil)
                        clear hst13 hfr13 hk14
                        refine hK35 _ _ ?_; clear hK35
                        refine wp_ret ?_
                        repeat (with_reducible first | refine then_ret ?_ | refine block_ret ?_)
                        exact fn_ret hst14 hfr14 rfl (.tmp rfl <| .nil) (by refine congrArg (Value.int _) ?_; unfold primN; simp_all)
                      · try simp only [nq1, nq2, nq3, nq4, nq5, nq6, nq7, nq8, nq9, u8_eq] at hb16
                        refine wp_skip ?_
                        refine hK2 _ _ ?_; clear hK2
                        refine seq_any fun _ hK37 => ?_
                        refine rp0 hst13 hfr13 (.cons rfl (ob_assign rfl) <| .nil) ?_
                        intro a14 w14 m14 hst14 hle14 hk14
                        have hfr14 := hk14.fr (T' := [(2, _)]) (.new rfl <| .nil)
                        clear hst13 hfr13 hk14
                        refine hK37 _ _ ?_; clear hK37
                        refine wp_ret ?_
                        repeat (with_reducible first | refine then_ret ?_ | refine block_ret ?_)
                        exact fn_ret hst14 hfr14 rfl (.tmp rfl <| .nil) (by refine congrArg (Value.int _) ?_; unfold primN; simp_all)

set_option maxHeartbeats 400000 in
theorem names_c {w : World} {m : Mem} {o_l : Option Addr} {c_l : Nat} {l : List Str} (hA : Agree w m) (h_l : Strs m o_l l.length c_l l) : FnV Tryd.prog 52 #[.slice o_l l.length c_l] w m (fun _ _ v => v = .bool (nameOk l)) := by
  have hb_l := h_l.big; have hc_l := h_l.cap
  refine fn_enter (vs := [_]) Tryd.func52 rfl rfl rfl fun a0 hfr0 => ?_
  have hst0 := st_enter hA (loc_nil [] _ w m)
  have hM : MLe m m := MLe.refl m
  refine seq_any fun _ hK1 => ?_
  refine rp0 hst0 hfr0 (.cons rfl (ob_assign rfl) <| .nil) ?_
  intro a1 w1 m1 hst1 hle1 hk1
  have hfr1 := hk1.fr (T' := [(0, _)]) (.old rfl rfl <| .nil)
  replace h_l := h_l.mono hle1
  clear hst0 hfr0 hk1
  refine hK1 _ _ ?_; clear hK1
  refine seq_any fun _ hK2 => ?_
  refine seq_any fun _ hK3 => ?_
  refine rp0 hst1 hfr1 (.cons rfl (ob_assign rfl) <| .nil) ?_
  intro a2 w2 m2 hst2 hle2 hk2
  have hfr2 := hk2.fr (T' := [(0, _), (3, _)]) (.old rfl rfl <| .new rfl <| .nil)
  replace h_l := h_l.mono hle2
  clear hst1 hfr1 hk2
  refine hK3 _ _ ?_; clear hK3
  refine wp_block ?_
  refine loop_any (T := [(0, _)]) (fun (y : Nat) => ([(3, .int .i64 (y : Int))] : List (Nat × Value))) (fun _ => _) (fun (y : Nat) m => (y ≤ l.length) ∧ (nameOk l = nameOk (l.drop y))) (fun y => l.length - y) (0) ⟨hst2, MLe.refl _, hfr2.sub (.cons rfl <| .cons rfl <| .nil), ⟨Nat.zero_le _, rfl⟩⟩ fun y a3 w3 m3 hh3 => ?_
  have hst3 := hh3.st; have hle3 := hh3.le; have hfr3 := hh3.fr; have hrel := hh3.rel; clear hh3
  replace h_l := h_l.mono hle3
  clear hst2 hfr2
  obtain ⟨hyn, hrem⟩ := hrel
  have hlh3 := hle3
  refine seq_any fun _ hK5 => ?_
  refine seq_any fun _ hK6 => ?_
  refine rp0 hst3 hfr3 (.cons rfl (ob_move rfl) <| .cons rfl (ob_move rfl) <| .cons rfl (ob_len rfl Tryd.underlying29) <| .cons rfl (ob_lss rfl rfl) <| .nil) ?_
  intro a4 w4 m4 hst4 hle4 hk4
  have hfr4 := hk4.fr (T' := [(3, _), (0, _), (7, _)]) (.old rfl rfl <| .old rfl rfl <| .new rfl <| .nil)
  replace h_l := h_l.mono hle4
  have hlh4 := hlh3.trans hle4
  clear hst3 hfr3 hk4
  refine hK6 _ _ ?_; clear hK6
  refine cond_any hfr4 rfl rfl (fun hb7 => ?_) (fun hb7 => ?_)
  · try simp only [nq1, nq2, nq3, nq4, nq5, nq6, nq7, nq8, nq9, u8_eq] at hb7
    refine wp_skip ?_
    refine hK5 _ _ ?_; clear hK5
    refine seq_any fun _ hK7 => ?_
    refine wp_block ?_
    refine seq_any fun _ hK8 => ?_
    obtain ⟨p9, vs9, x9, ho9, hd9, hm_x9, ht9, hcv9, hl9, hv9⟩ := h_l.nth (k := y) (by omega)
    cases ho9
    subst hv9
    try rw [hd9] at hrem
    try simp only [nameOk_cons, nameOk_nil] at hrem
    refine rp0 hst4 hfr4 (.cons rfl (ob_move rfl) <| .cons rfl (ob_move rfl) <| .cons rfl (ob_indexAddr (k := y) rfl rfl Tryd.underlying29 Tryd.sizeOf9 rfl (by omega)) <| .cons rfl (ob_load1' rfl hcv9 Tryd.isAgg9 rfl) <| .cons rfl (ob_seql rfl rfl) <| .nil) ?_
    intro a5 w5 m5 hst5 hle5 hk5
    have hfr5 := hk5.fr (T' := [(3, _), (0, _), (14, _)]) (.old rfl rfl <| .old rfl rfl <| .new rfl <| .nil)
    have hlh5 := hlh4.trans hle5
    clear hst4 hfr4 hk5
    refine hK8 _ _ ?_; clear hK8
    refine cond_any hfr5 rfl rfl (fun hb14 => ?_) (fun hb14 => ?_)
    · try simp only [nq1, nq2, nq3, nq4, nq5, nq6, nq7, nq8, nq9, u8_eq] at hb14
      refine seq_any fun _ hK10 => ?_
      refine rp0 hst5 hfr5 (.cons rfl (ob_assign rfl) <| .nil) ?_
      intro a6 w6 m6 hst6 hle6 hk6
      have hfr6 := hk6.fr (T' := [(3, _), (2, _)]) (.old rfl rfl <| .new rfl <| .nil)
      have hlh6 := hlh5.trans hle6
      clear hst5 hfr5 hk6
      refine hK10 _ _ ?_; clear hK10
      refine wp_ret ?_
      repeat (with_reducible first | refine then_ret ?_ | refine block_ret ?_)
      exact fn_ret hst6 hfr6 rfl (.tmp rfl <| .nil) (by refine congrArg Value.bool ?_; rw [hrem]; simp [hb14])
    · try simp only [nq1, nq2, nq3, nq4, nq5, nq6, nq7, nq8, nq9, u8_eq] at hb14
      refine wp_skip ?_
      refine hK7 _ _ ?_; clear hK7
      refine rp0 hst5 hfr5 (.cons rfl (ob_move rfl) <| .cons rfl (ob_add rfl rfl ⟨by omega, by omega⟩) <| .cons rfl (ob_assign rfl) <| .nil) ?_
      intro a6 w6 m6 hst6 hle6 hk6
      have hfr6 := hk6.fr (T' := [(0, _), (3, _)]) (.old rfl rfl <| .new rfl <| .nil)
      have hlh6 := hlh5.trans hle6
      clear hst5 hfr5 hk6
      exact ⟨y + 1, m6, by show l.length - (y + 1) < l.length - y; omega, ⟨hst6, hlh6, hfr6.sub (.cons rfl <| .cons rfl <| .nil), ⟨by show y + 1 ≤ l.length; omega, by rw [hrem]; simp [hb14]⟩⟩⟩
  · try simp only [nq1, nq2, nq3, nq4, nq5, nq6, nq7, nq8, nq9, u8_eq] at hb7
    have hge : y = l.length := by omega
    rw [List.drop_of_length_le (by omega)] at hrem
    simp only [nameOk_cons, nameOk_nil] at hrem
    refine wp_exit ?_
    refine hK2 _ _ ?_; clear hK2
    refine seq_any fun _ hK12 => ?_
    refine rp0 hst4 hfr4 (.cons rfl (ob_assign rfl) <| .nil) ?_
    intro a5 w5 m5 hst5 hle5 hk5
    have hfr5 := hk5.fr (T' := [(3, _), (2, _)]) (.old rfl rfl <| .new rfl <| .nil)
    have hlh5 := hlh4.trans hle5
    clear hst4 hfr4 hk5
    refine hK12 _ _ ?_; clear hK12
    refine wp_ret ?_
    repeat (with_reducible first | refine then_ret ?_ | refine block_ret ?_)
    exact fn_ret hst5 hfr5 rfl (.tmp rfl <| .nil) (by refine congrArg Value.bool ?_; rw [hrem])

set_option maxHeartbeats 400000 in
theorem atoms_c {w : World} {m : Mem} {t : Cd} {vs_t : List Value} {n : Nat} (hA : Agree w m) (h_t : CdR m t vs_t) (hn : n ≤ t.kids.length) : FnV Tryd.prog 50 #[.agg vs_t.toArray, .int .i64 (n : Int)] w m (fun _ _ v => v = .bool (atomsC t n)) := by
  obtain ⟨⟨oK_t, cK_t, oA_t, cA_t⟩, rfl, ⟨hik_t, hin_t⟩, hkk_t, haa_t⟩ := h_t.open_
  dsimp only at hkk_t haa_t
  have hbg_t := hkk_t.big; have hcp_t := hkk_t.cap; have hbh_t := haa_t.big; have hcq_t := haa_t.cap
  refine fn_enter (vs := [_, _]) Tryd.func50 rfl rfl rfl fun a0 hfr0 => ?_
  have hst0 := st_enter hA (loc_nil [] _ w m)
  have hM : MLe m m := MLe.refl m
  refine seq_any fun _ hK1 => ?_
  refine rp0 hst0 hfr0 (.cons rfl (ob_box rfl rfl) <| .cons rfl (ob_assign rfl) <| .nil) ?_
  intro a1 w1 m1 hst1 hle1 hk1
  have hfr1 := hk1.fr (T' := [(1, _)]) (.old rfl rfl <| .nil)
  obtain ⟨g2, e2, hc2⟩ := hk1.ex 2 rfl
  replace hfr1 := hfr1.cons e2
  replace h_t := h_t.mono hle1
  replace hkk_t := hkk_t.mono hle1
  replace haa_t := haa_t.mono hle1
  clear hst0 hfr0 hk1
  refine hK1 _ _ ?_; clear hK1
  refine seq_any fun _ hK3 => ?_
  refine seq_any fun _ hK4 => ?_
  refine rp0 hst1 hfr1 (.cons rfl (ob_assign rfl) <| .nil) ?_
  intro a2 w2 m2 hst2 hle2 hk2
  have hfr2 := hk2.fr (T' := [(1, _), (2, _), (5, _)]) (.old rfl rfl <| .old rfl rfl <| .new rfl <| .nil)
  replace h_t := h_t.mono hle2
  replace hkk_t := hkk_t.mono hle2
  replace haa_t := haa_t.mono hle2
  replace hc2 := hc2.mono hle2
  clear hst1 hfr1 hk2
  refine hK4 _ _ ?_; clear hK4
  refine wp_block ?_
  refine loop_any (T := [(1, _), (2, _)]) (fun (y : Nat) => ([(5, .int .i64 (y : Int))] : List (Nat × Value))) (fun _ => _) (fun (y : Nat) m => (y ≤ n) ∧ ((t.kids.take y).all atomC = true)) (fun y => n - y) (0) ⟨hst2, MLe.refl _, hfr2.sub (.cons rfl <| .cons rfl <| .cons rfl <| .nil), ⟨Nat.zero_le _, by simp⟩⟩ fun y a3 w3 m3 hh3 => ?_
  have hst3 := hh3.st; have hle3 := hh3.le; have hfr3 := hh3.fr; have hrel := hh3.rel; clear hh3
  replace h_t := h_t.mono hle3
  replace hkk_t := hkk_t.mono hle3
  replace haa_t := haa_t.mono hle3
  replace hc2 := hc2.mono hle3
  clear hst2 hfr2
  obtain ⟨hyn, hall⟩ := hrel
  have hlh3 := hle3
  refine seq_any fun _ hK6 => ?_
  refine seq_any fun _ hK7 => ?_
  refine rp0 hst3 hfr3 (.cons rfl (ob_move rfl) <| .cons rfl (ob_move rfl) <| .cons rfl (ob_lss rfl rfl) <| .nil) ?_
  intro a4 w4 m4 hst4 hle4 hk4
  have hfr4 := hk4.fr (T' := [(5, _), (1, _), (2, _), (9, _)]) (.old rfl rfl <| .old rfl rfl <| .old rfl rfl <| .new rfl <| .nil)
  replace h_t := h_t.mono hle4
  replace hkk_t := hkk_t.mono hle4
  replace haa_t := haa_t.mono hle4
  replace hc2 := hc2.mono hle4
  have hlh4 := hlh3.trans hle4
  clear hst3 hfr3 hk4
  refine hK7 _ _ ?_; clear hK7
  refine cond_any hfr4 rfl rfl (fun hb9 => ?_) (fun hb9 => ?_)
  · try simp only [nq1, nq2, nq3, nq4, nq5, nq6, nq7, nq8, nq9, u8_eq] at hb9
    refine wp_skip ?_
    refine hK6 _ _ ?_; clear hK6
    refine seq_any fun _ hK8 => ?_
    refine wp_block ?_
    refine seq_any fun _ hK9 => ?_
    obtain ⟨p10, vs10, x10, ho10, hd10, hm_x10, ht10, hcv10, hl10, hv10⟩ := hkk_t.nth (k := y) (by omega)
    cases ho10
    obtain ⟨⟨oK10, cK10, oA10, cA10⟩, rfl, ⟨hik10, hin10⟩, hkk10, haa10⟩ := hv10.open_
    dsimp only at hkk10 haa10
    have hbg10 := hkk10.big; have hcp10 := hkk10.cap; have hbh10 := haa10.big; have hcq10 := haa10.cap
    refine rp0 hst4 hfr4 (.cons rfl (ob_fieldAddrO (off := 4) rfl Tryd.underlying25 rfl rfl Tryd.sizeOf22 rfl) <| .cons rfl (ob_load1 rfl hc2 Tryd.isAgg22 rfl) <| .cons rfl (ob_move rfl) <| .cons rfl (ob_indexAddr (k := y) rfl rfl Tryd.underlying22 Tryd.sizeOf25 rfl (by omega)) <| .cons rfl (ob_loadS' rfl hcv10 Tryd.isAgg25 Tryd.sizeOf25 rfl rfl) <| .cons rfl (ob_callE rfl (.cons rfl <| .nil) Tryd.call77 (fun w m hK => by have hle_ := KC.le hK; have hA := KC.agree hK; have h_t := h_t.mono hle_; have hkk_t := hkk_t.mono hle_; have haa_t := haa_t.mono hle_; have hc2 := hc2.mono hle_; have hcv10 := hcv10.mono hle_; have hv10 := hv10.mono hle_; have hkk10 := hkk10.mono hle_; have haa10 := haa10.mono hle_; exact ratom_c hA (by assumption))) <| .cons rfl (ob_assign rfl) <| .nil) ?_
    intro a5 w5 m5 hst5 hle5 hk5
    have hfr5 := hk5.fr (T' := [(5, _), (1, _), (2, _), (6, _)]) (.old rfl rfl <| .old rfl rfl <| .old rfl rfl <| .new rfl <| .nil)
    have hlh5 := hlh4.trans hle5
    clear hst4 hfr4 hk5
    refine hK9 _ _ ?_; clear hK9
    refine seq_any fun _ hK11 => ?_
    refine rp0 hst5 hfr5 (.cons rfl (ob_move rfl) <| .cons rfl (ob_not rfl) <| .nil) ?_
    intro a6 w6 m6 hst6 hle6 hk6
    have hfr6 := hk6.fr (T' := [(5, _), (1, _), (2, _), (19, _)]) (.old rfl rfl <| .old rfl rfl <| .old rfl rfl <| .new rfl <| .nil)
    have hlh6 := hlh5.trans hle6
    clear hst5 hfr5 hk6
    refine hK11 _ _ ?_; clear hK11
    refine cond_any hfr6 rfl rfl (fun hb19 => ?_) (fun hb19 => ?_)
    · try simp only [nq1, nq2, nq3, nq4, nq5, nq6, nq7, nq8, nq9, u8_eq] at hb19
      refine seq_any fun _ hK12 => ?_
      refine rp0 hst6 hfr6 (.cons rfl (ob_assign rfl) <| .nil) ?_
      intro a7 w7 m7 hst7 hle7 hk7
      have hfr7 := hk7.fr (T' := [(5, _), (4, _)]) (.old rfl rfl <| .new rfl <| .nil)
      have hlh7 := hlh6.trans hle7
      clear hst6 hfr6 hk7
      refine hK12 _ _ ?_; clear hK12
      refine wp_ret ?_
      repeat (with_reducible first | refine then_ret ?_ | refine block_ret ?_)
      exact fn_ret hst7 hfr7 rfl (.tmp rfl <| .nil) (by refine congrArg Value.bool ?_; unfold atomsC; rw [all_upto (by omega) (at_of_drop hd10) hb19])
    · try simp only [nq1, nq2, nq3, nq4, nq5, nq6, nq7, nq8, nq9, u8_eq] at hb19
      refine wp_skip ?_
      refine hK8 _ _ ?_; clear hK8
      refine rp0 hst6 hfr6 (.cons rfl (ob_move rfl) <| .cons rfl (ob_add rfl rfl ⟨by omega, by omega⟩) <| .cons rfl (ob_assign rfl) <| .nil) ?_
      intro a7 w7 m7 hst7 hle7 hk7
      have hfr7 := hk7.fr (T' := [(1, _), (2, _), (5, _)]) (.old rfl rfl <| .old rfl rfl <| .new rfl <| .nil)
      have hlh7 := hlh6.trans hle7
      clear hst6 hfr6 hk7
      exact ⟨y + 1, m7, by show n - (y + 1) < n - y; omega, ⟨hst7, hlh7, hfr7.sub (.cons rfl <| .cons rfl <| .cons rfl <| .nil), ⟨by show y + 1 ≤ n; omega, all_snoc hall (at_of_drop hd10) hb19⟩⟩⟩
  · try simp only [nq1, nq2, nq3, nq4, nq5, nq6, nq7, nq8, nq9, u8_eq] at hb9
    have hge : y = n := by omega
    subst hge
    refine wp_exit ?_
    refine hK3 _ _ ?_; clear hK3
    refine seq_any fun _ hK14 => ?_
    refine rp0 hst4 hfr4 (.cons rfl (ob_assign rfl) <| .nil) ?_
    intro a5 w5 m5 hst5 hle5 hk5
    have hfr5 := hk5.fr (T' := [(5, _), (4, _)]) (.old rfl rfl <| .new rfl <| .nil)
    have hlh5 := hlh4.trans hle5
    clear hst4 hfr4 hk5
    refine hK14 _ _ ?_; clear hK14
    refine wp_ret ?_
    repeat (with_reducible first | refine then_ret ?_ | refine block_ret ?_)
    exact fn_ret hst5 hfr5 rfl (.tmp rfl <| .nil) (by refine congrArg Value.bool ?_; exact hall.symm)

set_option maxHeartbeats 3200000 in
theorem head_c {w : World} {m : Mem} {t : Cd} {vs_t : List Value} (hA : Agree w m) (h_t : CdR m t vs_t) : FnV Tryd.prog 34 #[.agg vs_t.toArray] w m (fun _ _ v => v = .bool (headC t)) := by
  obtain ⟨⟨oK_t, cK_t, oA_t, cA_t⟩, rfl, ⟨hik_t, hin_t⟩, hkk_t, haa_t⟩ := h_t.open_
  dsimp only at hkk_t haa_t
  have hbg_t := hkk_t.big; have hcp_t := hkk_t.cap; have hbh_t := haa_t.big; have hcq_t := haa_t.cap
  refine fn_enter (vs := [_]) Tryd.func34 rfl rfl rfl fun a0 hfr0 => ?_
  have hst0 := st_enter hA (loc_nil [] _ w m)
  have hM : MLe m m := MLe.refl m
  refine seq_any fun _ hK1 => ?_
  refine rp0 hst0 hfr0 (.cons rfl (ob_box rfl rfl) <| .cons rfl (ob_assign rfl) <| .nil) ?_
  intro a1 w1 m1 hst1 hle1 hk1
  have hfr1 := hk1.fr (T' := []) (.nil)
  obtain ⟨g2, e2, hc1⟩ := hk1.ex 1 rfl
  replace hfr1 := hfr1.cons e2
  replace h_t := h_t.mono hle1
  clear hst0 hfr0 hk1
  refine hK1 _ _ ?_; clear hK1
  refine seq_any fun _ hK3 => ?_
  refine rp0 hst1 hfr1 (.cons rfl (ob_fieldAddrO (off := 4) rfl Tryd.underlying25 rfl rfl Tryd.sizeOf22 rfl) <| .cons rfl (ob_load1 rfl hc1 Tryd.isAgg22 rfl) <| .cons rfl (ob_len rfl Tryd.underlying22) <| .cons rfl (ob_assign rfl) <| .nil) ?_
  intro a2 w2 m2 hst2 hle2 hk2
  have hfr2 := hk2.fr (T' := [(1, _), (3, _)]) (.old rfl rfl <| .new rfl <| .nil)
  replace h_t := h_t.mono hle2
  replace hc1 := hc1.mono hle2
  clear hst1 hfr1 hk2
  refine hK3 _ _ ?_; clear hK3
  refine seq_any fun _ hK4 => ?_
  refine rp0 hst2 hfr2 (.cons rfl (ob_fieldAddrO (off := 5) rfl Tryd.underlying25 rfl rfl Tryd.sizeOf23 rfl) <| .cons rfl (ob_load1 rfl hc1 Tryd.isAgg23 rfl) <| .cons rfl (ob_len rfl Tryd.underlying23) <| .cons rfl (ob_assign rfl) <| .nil) ?_
  intro a3 w3 m3 hst3 hle3 hk3
  have hfr3 := hk3.fr (T' := [(1, _), (3, _), (4, _)]) (.old rfl rfl <| .old rfl rfl <| .new rfl <| .nil)
  replace h_t := h_t.mono hle3
  replace hc1 := hc1.mono hle3
  clear hst2 hfr2 hk3
  refine hK4 _ _ ?_; clear hK4
  refine seq_any fun _ hK5 => ?_
  refine rp0 hst3 hfr3 (.cons rfl (ob_fieldAddrO (off := 1) rfl Tryd.underlying25 rfl rfl Tryd.sizeOf9 rfl) <| .cons rfl (ob_load1 rfl hc1 Tryd.isAgg9 rfl) <| .cons rfl (ob_seql rfl rfl) <| .cons rfl (ob_move rfl) <| .cons rfl (ob_fieldAddrO (off := 2) rfl Tryd.underlying25 rfl rfl Tryd.sizeOf9 rfl) <| .cons rfl (ob_load1 rfl hc1 Tryd.isAgg9 rfl) <| .cons rfl (ob_seql rfl rfl) <| .cons rfl (ob_and rfl rfl rfl) <| .cons rfl (ob_assign rfl) <| .nil) ?_
  intro a4 w4 m4 hst4 hle4 hk4
  have hfr4 := hk4.fr (T' := [(1, _), (3, _), (4, _), (5, _)]) (.old rfl rfl <| .old rfl rfl <| .old rfl rfl <| .new rfl <| .nil)
  replace h_t := h_t.mono hle4
  replace hc1 := hc1.mono hle4
  clear hst3 hfr3 hk4
  refine hK5 _ _ ?_; clear hK5
  refine seq_any fun _ hK6 => ?_
  refine rp0 hst4 hfr4 (.cons rfl (ob_fieldAddrO (off := 1) rfl Tryd.underlying25 rfl rfl Tryd.sizeOf9 rfl) <| .cons rfl (ob_load1 rfl hc1 Tryd.isAgg9 rfl) <| .cons rfl (ob_sneq rfl rfl) <| .cons rfl (ob_move rfl) <| .cons rfl (ob_fieldAddrO (off := 2) rfl Tryd.underlying25 rfl rfl Tryd.sizeOf9 rfl) <| .cons rfl (ob_load1 rfl hc1 Tryd.isAgg9 rfl) <| .cons rfl (ob_seql rfl rfl) <| .cons rfl (ob_and rfl rfl rfl) <| .cons rfl (ob_assign rfl) <| .nil) ?_
  intro a5 w5 m5 hst5 hle5 hk5
  have hfr5 := hk5.fr (T' := [(1, _), (3, _), (4, _), (5, _), (6, _)]) (.old rfl rfl <| .old rfl rfl <| .old rfl rfl <| .old rfl rfl <| .new rfl <| .nil)
  replace h_t := h_t.mono hle5
  replace hc1 := hc1.mono hle5
  clear hst4 hfr4 hk5
  refine hK6 _ _ ?_; clear hK6
  refine seq_any fun _ hK7 => ?_
  refine rp0 hst5 hfr5 (.cons rfl (ob_fieldAddrO (off := 3) rfl Tryd.underlying25 rfl rfl Tryd.sizeOf3 rfl) <| .cons rfl (ob_load1 rfl hc1 Tryd.isAgg3 rfl) <| .cons rfl (ob_eql rfl rfl) <| .cons rfl (ob_assign rfl) <| .nil) ?_
  intro a6 w6 m6 hst6 hle6 hk6
  have hfr6 := hk6.fr (T' := [(1, _), (3, _), (4, _), (5, _), (6, _), (7, _)]) (.old rfl rfl <| .old rfl rfl <| .old rfl rfl <| .old rfl rfl <| .old rfl rfl <| .new rfl <| .nil)
  replace h_t := h_t.mono hle6
  replace hc1 := hc1.mono hle6
  clear hst5 hfr5 hk6
  refine hK7 _ _ ?_; clear hK7
  refine seq_any fun _ hK8 => ?_
  refine seq_any fun _ hK9 => ?_
  refine rp0 hst6 hfr6 (.cons rfl (ob_fieldAddrO (off := 0) rfl Tryd.underlying25 rfl rfl Tryd.sizeOf3 rfl) <| .cons rfl (ob_load1 rfl hc1 Tryd.isAgg3 rfl) <| .nil) ?_
  intro a7 w7 m7 hst7 hle7 hk7
  have hfr7 := hk7.fr (T' := [(1, _), (3, _), (4, _), (5, _), (6, _), (7, _), (34, _)]) (.old rfl rfl <| .old rfl rfl <| .old rfl rfl <| .old rfl rfl <| .old rfl rfl <| .old rfl rfl <| .new rfl <| .nil)
  replace h_t := h_t.mono hle7
  replace hc1 := hc1.mono hle7
  clear hst6 hfr6 hk7
  refine hK9 _ _ ?_; clear hK9
  refine wp_block ?_
  refine seq_any fun _ hK10 => ?_
  refine rp0 hst7 hfr7 (.cons rfl (ob_eql rfl rfl) <| .cons rfl (ob_assign rfl) <| .nil) ?_
  intro a8 w8 m8 hst8 hle8 hk8
  have hfr8 := hk8.fr (T' := [(1, _), (3, _), (4, _), (5, _), (6, _), (7, _), (34, _), (35, _)]) (.old rfl rfl <| .old rfl rfl <| .old rfl rfl <| .old rfl rfl <| .old rfl rfl <| .old rfl rfl <| .old rfl rfl <| .new rfl <| .nil)
  replace h_t := h_t.mono hle8
  replace hc1 := hc1.mono hle8
  clear hst7 hfr7 hk8
  refine hK10 _ _ ?_; clear hK10
  refine cond_any hfr8 rfl rfl (fun hb35 => ?_) (fun hb35 => ?_)
  · try simp only [nq1, nq2, nq3, nq4, nq5, nq6, nq7, nq8, nq9, u8_eq] at hb35
    refine seq_any fun _ hK11 => ?_
    refine rp0 hst8 hfr8 (.cons rfl (ob_move rfl) <| .cons rfl (ob_eql rfl rfl) <| .cons rfl (ob_move rfl) <| .cons rfl (ob_move rfl) <| .cons rfl (ob_eql rfl rfl) <| .cons rfl (ob_and rfl rfl rfl) <| .cons rfl (ob_move rfl) <| .cons rfl (ob_move rfl) <| .cons rfl (ob_and rfl rfl rfl) <| .cons rfl (ob_move rfl) <| .cons rfl (ob_move rfl) <| .cons rfl (ob_and rfl rfl rfl) <| .cons rfl (ob_assign rfl) <| .nil) ?_
    intro a9 w9 m9 hst9 hle9 hk9
    have hfr9 := hk9.fr (T' := [(2, _)]) (.new rfl <| .nil)
    clear hst8 hfr8 hk9
    refine hK11 _ _ ?_; clear hK11
    refine wp_ret ?_
    repeat (with_reducible first | refine then_ret ?_ | refine block_ret ?_)
    exact fn_ret hst9 hfr9 rfl (.tmp rfl <| .nil) (by refine congrArg Value.bool ?_; unfold headC; simp_all [Bool.and_assoc, dN1, dN2, dN3])
  · try simp only [nq1, nq2, nq3, nq4, nq5, nq6, nq7, nq8, nq9, u8_eq] at hb35
    refine seq_any fun _ hK13 => ?_
    refine rp0 hst8 hfr8 (.cons rfl (ob_eql rfl rfl) <| .cons rfl (ob_assign rfl) <| .nil) ?_
    intro a9 w9 m9 hst9 hle9 hk9
    have hfr9 := hk9.fr (T' := [(1, _), (3, _), (4, _), (5, _), (6, _), (7, _), (34, _), (49, _)]) (.old rfl rfl <| .old rfl rfl <| .old rfl rfl <| .old rfl rfl <| .old rfl rfl <| .old rfl rfl <| .old rfl rfl <| .new rfl <| .nil)
    replace h_t := h_t.mono hle9
    replace hc1 := hc1.mono hle9
    clear hst8 hfr8 hk9
    refine hK13 _ _ ?_; clear hK13
    refine cond_any hfr9 rfl rfl (fun hb49 => ?_) (fun hb49 => ?_)
    · try simp only [nq1, nq2, nq3, nq4, nq5, nq6, nq7, nq8, nq9, u8_eq] at hb49
      refine seq_any fun _ hK14 => ?_
      refine rp0 hst9 hfr9 (.cons rfl (ob_move rfl) <| .cons rfl (ob_eql rfl rfl) <| .cons rfl (ob_move rfl) <| .cons rfl (ob_move rfl) <| .cons rfl (ob_eql rfl rfl) <| .cons rfl (ob_and rfl rfl rfl) <| .cons rfl (ob_move rfl) <| .cons rfl (ob_move rfl) <| .cons rfl (ob_and rfl rfl rfl) <| .cons rfl (ob_assign rfl) <| .nil) ?_
      intro a10 w10 m10 hst10 hle10 hk10
      have hfr10 := hk10.fr (T' := [(2, _)]) (.new rfl <| .nil)
      clear hst9 hfr9 hk10
      refine hK14 _ _ ?_; clear hK14
      refine wp_ret ?_
      repeat (with_reducible first | refine then_ret ?_ | refine block_ret ?_)
      exact fn_ret hst10 hfr10 rfl (.tmp rfl <| .nil) (by refine congrArg Value.bool ?_; unfold headC; simp_all [Bool.and_assoc, dN1, dN2, dN3])
    · try simp only [nq1, nq2, nq3, nq4, nq5, nq6, nq7, nq8, nq9, u8_eq] at hb49
      refine seq_any fun _ hK16 => ?_
      refine rp0 hst9 hfr9 (.cons rfl (ob_eql rfl rfl) <| .cons rfl (ob_assign rfl) <| .nil) ?_
      intro a10 w10 m10 hst10 hle10 hk10
      have hfr10 := hk10.fr (T' := [(1, _), (3, _), (4, _), (5, _), (6, _), (7, _), (34, _), (60, _)]) (.old rfl rfl <| .old rfl rfl <| .old rfl rfl <| .old rfl rfl <| .old rfl rfl <| .old rfl rfl <| .old rfl rfl <| .new rfl <| .nil)
      replace h_t := h_t.mono hle10
      replace hc1 := hc1.mono hle10
      clear hst9 hfr9 hk10
      refine hK16 _ _ ?_; clear hK16
      refine cond_any hfr10 rfl rfl (fun hb60 => ?_) (fun hb60 => ?_)
      · try simp only [nq1, nq2, nq3, nq4, nq5, nq6, nq7, nq8, nq9, u8_eq] at hb60
        refine seq_any fun _ hK17 => ?_
        refine rp0 hst10 hfr10 (.cons rfl (ob_move rfl) <| .cons rfl (ob_eql rfl rfl) <| .cons rfl (ob_move rfl) <| .cons rfl (ob_move rfl) <| .cons rfl (ob_eql rfl rfl) <| .cons rfl (ob_and rfl rfl rfl) <| .cons rfl (ob_move rfl) <| .cons rfl (ob_move rfl) <| .cons rfl (ob_and rfl rfl rfl) <| .cons rfl (ob_move rfl) <| .cons rfl (ob_fieldAddrO (off := 3) rfl Tryd.underlying25 rfl rfl Tryd.sizeOf3 rfl) <| .cons rfl (ob_load1 rfl hc1 Tryd.isAgg3 rfl) <| .cons rfl (ob_eql rfl rfl) <| .cons rfl (ob_move rfl) <| .cons rfl (ob_fieldAddrO (off := 3) rfl Tryd.underlying25 rfl rfl Tryd.sizeOf3 rfl) <| .cons rfl (ob_load1 rfl hc1 Tryd.isAgg3 rfl) <| .cons rfl (ob_eql rfl rfl) <| .cons rfl (ob_or rfl rfl rfl) <| .cons rfl (ob_and rfl rfl rfl) <| .cons rfl (ob_assign rfl) <| .nil) ?_
        intro a11 w11 m11 hst11 hle11 hk11
        have hfr11 := hk11.fr (T' := [(2, _)]) (.new rfl <| .nil)
        clear hst10 hfr10 hk11
        refine hK17 _ _ ?_; clear hK17
        refine wp_ret ?_
        repeat (with_reducible first | refine then_ret ?_ | refine block_ret ?_)
        exact fn_ret hst11 hfr11 rfl (.tmp rfl <| .nil) (by refine congrArg Value.bool ?_; unfold headC; simp_all [Bool.and_assoc, dN1, dN2, dN3])
      · try simp only [nq1, nq2, nq3, nq4, nq5, nq6, nq7, nq8, nq9, u8_eq] at hb60
        refine seq_any fun _ hK19 => ?_
        refine rp0 hst10 hfr10 (.cons rfl (ob_eql rfl rfl) <| .cons rfl (ob_assign rfl) <| .nil) ?_
        intro a11 w11 m11 hst11 hle11 hk11
        have hfr11 := hk11.fr (T' := [(1, _), (3, _), (4, _), (5, _), (6, _), (7, _), (34, _), (81, _)]) (.old rfl rfl <| .old rfl rfl <| .old rfl rfl <| .old rfl rfl <| .old rfl rfl <| .old rfl rfl <| .old rfl rfl <| .new rfl <| .nil)
        replace h_t := h_t.mono hle11
        replace hc1 := hc1.mono hle11
        clear hst10 hfr10 hk11
        refine hK19 _ _ ?_; clear hK19
        refine cond_any hfr11 rfl rfl (fun hb81 => ?_) (fun hb81 => ?_)
        · try simp only [nq1, nq2, nq3, nq4, nq5, nq6, nq7, nq8, nq9, u8_eq] at hb81
          refine seq_any fun _ hK20 => ?_
          refine rp0 hst11 hfr11 (.cons rfl (ob_move rfl) <| .cons rfl (ob_eql rfl rfl) <| .cons rfl (ob_move rfl) <| .cons rfl (ob_move rfl) <| .cons rfl (ob_eql rfl rfl) <| .cons rfl (ob_and rfl rfl rfl) <| .cons rfl (ob_move rfl) <| .cons rfl (ob_move rfl) <| .cons rfl (ob_and rfl rfl rfl) <| .cons rfl (ob_move rfl) <| .cons rfl (ob_move rfl) <| .cons rfl (ob_and rfl rfl rfl) <| .cons rfl (ob_assign rfl) <| .nil) ?_
          intro a12 w12 m12 hst12 hle12 hk12
          have hfr12 := hk12.fr (T' := [(2, _)]) (.new rfl <| .nil)
          clear hst11 hfr11 hk12
          refine hK20 _ _ ?_; clear hK20
          refine wp_ret ?_
          repeat (with_reducible first | refine then_ret ?_ | refine block_ret ?_)
          exact fn_ret hst12 hfr12 rfl (.tmp rfl <| .nil) (by refine congrArg Value.bool ?_; unfold headC; simp_all [Bool.and_assoc, dN1, dN2, dN3])
        · try simp only [nq1, nq2, nq3, nq4, nq5, nq6, nq7, nq8, nq9, u8_eq] at hb81
          refine seq_any fun _ hK22 => ?_
          refine rp0 hst11 hfr11 (.cons rfl (ob_eql rfl rfl) <| .cons rfl (ob_assign rfl) <| .nil) ?_
          intro a12 w12 m12 hst12 hle12 hk12
          have hfr12 := hk12.fr (T' := [(1, _), (3, _), (4, _), (5, _), (6, _), (7, _), (34, _), (95, _)]) (.old rfl rfl <| .old rfl rfl <| .old rfl rfl <| .old rfl rfl <| .old rfl rfl <| .old rfl rfl <| .old rfl rfl <| .new rfl <| .nil)
          replace h_t := h_t.mono hle12
          replace hc1 := hc1.mono hle12
          clear hst11 hfr11 hk12
          refine hK22 _ _ ?_; clear hK22
          refine cond_any hfr12 rfl rfl (fun hb95 => ?_) (fun hb95 => ?_)
          · try simp only [nq1, nq2, nq3, nq4, nq5, nq6, nq7, nq8, nq9, u8_eq] at hb95
            refine seq_any fun _ hK23 => ?_
            refine rp0 hst12 hfr12 (.cons rfl (ob_move rfl) <| .cons rfl (ob_eql rfl rfl) <| .cons rfl (ob_move rfl) <| .cons rfl (ob_move rfl) <| .cons rfl (ob_eql rfl rfl) <| .cons rfl (ob_and rfl rfl rfl) <| .cons rfl (ob_move rfl) <| .cons rfl (ob_move rfl) <| .cons rfl (ob_and rfl rfl rfl) <| .cons rfl (ob_move rfl) <| .cons rfl (ob_move rfl) <| .cons rfl (ob_and rfl rfl rfl) <| .cons rfl (ob_assign rfl) <| .nil) ?_
            intro a13 w13 m13 hst13 hle13 hk13
            have hfr13 := hk13.fr (T' := [(2, _)]) (.new rfl <| .nil)
            clear hst12 hfr12 hk13
            refine hK23 _ _ ?_; clear hK23
            refine wp_ret ?_
            repeat (with_reducible first | refine then_ret ?_ | refine block_ret ?_)
            exact fn_ret hst13 hfr13 rfl (.tmp rfl <| .nil) (by refine congrArg Value.bool ?_; unfold headC; simp_all [Bool.and_assoc, dN1, dN2, dN3])
          · try simp only [nq1, nq2, nq3, nq4, nq5, nq6, nq7, nq8, nq9, u8_eq] at hb95
            refine seq_any fun _ hK25 => ?_
            refine rp0 hst12 hfr12 (.cons rfl (ob_eql rfl rfl) <| .cons rfl (ob_assign rfl) <| .nil) ?_
            intro a13 w13 m13 hst13 hle13 hk13
            have hfr13 := hk13.fr (T' := [(1, _), (3, _), (4, _), (5, _), (6, _), (7, _), (34, _), (109, _)]) (.old rfl rfl <| .old rfl rfl <| .old rfl rfl <| .old rfl rfl <| .old rfl rfl <| .old rfl rfl <| .old rfl rfl <| .new rfl <| .nil)
            replace h_t := h_t.mono hle13
            replace hc1 := hc1.mono hle13
            clear hst12 hfr12 hk13
            refine hK25 _ _ ?_; clear hK25
            refine cond_any hfr13 rfl rfl (fun hb109 => ?_) (fun hb109 => ?_)
            · try simp only [nq1, nq2, nq3, nq4, nq5, nq6, nq7, nq8, nq9, u8_eq] at hb109
              refine seq_any fun _ hK26 => ?_
              refine rp0 hst13 hfr13 (.cons rfl (ob_move rfl) <| .cons rfl (ob_eql rfl rfl) <| .cons rfl (ob_move rfl) <| .cons rfl (ob_move rfl) <| .cons rfl (ob_eql rfl rfl) <| .cons rfl (ob_and rfl rfl rfl) <| .cons rfl (ob_move rfl) <| .cons rfl (ob_move rfl) <| .cons rfl (ob_and rfl rfl rfl) <| .cons rfl (ob_move rfl) <| .cons rfl (ob_move rfl) <| .cons rfl (ob_and rfl rfl rfl) <| .cons rfl (ob_move rfl) <| .cons rfl (ob_loadS' rfl hc1 Tryd.isAgg25 Tryd.sizeOf25 rfl rfl) <| .cons rfl (ob_guard (b := true) 123 rfl rfl (fun hg9 => ob_callE rfl (.cons rfl <| .cons rfl <| .nil) Tryd.call50 (fun w m hK => by have hle_ := KC.le hK; have hA := KC.agree hK; have h_t := h_t.mono hle_; exact atoms_c (n := 2) hA h_t (by simp at hg9; omega)))) <| .cons rfl (ob_and rfl rfl rfl) <| .cons rfl (ob_assign rfl) <| .nil) ?_
              intro a14 w14 m14 hst14 hle14 hk14
              have hfr14 := hk14.fr (T' := [(2, _)]) (.new rfl <| .nil)
              clear hst13 hfr13 hk14
              refine hK26 _ _ ?_; clear hK26
              refine wp_ret ?_
              repeat (with_reducible first | refine then_ret ?_ | refine block_ret ?_)
              exact fn_ret hst14 hfr14 rfl (.tmp rfl <| .nil) (by refine congrArg Value.bool ?_; unfold headC; simp_all [Bool.and_assoc, dN1, dN2, dN3])
            · try simp only [nq1, nq2, nq3, nq4, nq5, nq6, nq7, nq8, nq9, u8_eq] at hb109
              refine seq_any fun _ hK28 => ?_
              refine seq_any fun _ hK29 => ?_
              refine rp0 hst13 hfr13 (.cons rfl (ob_eql rfl rfl) <| .cons rfl (ob_assign rfl) <| .nil) ?_
              intro a14 w14 m14 hst14 hle14 hk14
              have hfr14 := hk14.fr (T' := [(1, _), (3, _), (4, _), (5, _), (6, _), (7, _), (34, _), (127, _)]) (.old rfl rfl <| .old rfl rfl <| .old rfl rfl <| .old rfl rfl <| .old rfl rfl <| .old rfl rfl <| .old rfl rfl <| .new rfl <| .nil)
              replace h_t := h_t.mono hle14
              replace hc1 := hc1.mono hle14
              clear hst13 hfr13 hk14
              refine hK29 _ _ ?_; clear hK29
              refine cond_any hfr14 rfl rfl (fun hb127 => ?_) (fun hb127 => ?_)
              · try simp only [nq1, nq2, nq3, nq4, nq5, nq6, nq7, nq8, nq9, u8_eq] at hb127
                refine wp_skip ?_
                refine hK28 _ _ ?_; clear hK28
                refine cond_any hfr14 rfl rfl (fun hb127x => ?_) (fun hb127x => ?_)
                · try simp only [nq1, nq2, nq3, nq4, nq5, nq6, nq7, nq8, nq9, u8_eq] at hb127x
                  refine seq_any fun _ hK30 => ?_
                  refine rp0 hst14 hfr14 (.cons rfl (ob_move rfl) <| .cons rfl (ob_eql rfl rfl) <| .cons rfl (ob_move rfl) <| .cons rfl (ob_move rfl) <| .cons rfl (ob_eql rfl rfl) <| .cons rfl (ob_and rfl rfl rfl) <| .cons rfl (ob_move rfl) <| .cons rfl (ob_move rfl) <| .cons rfl (ob_and rfl rfl rfl) <| .cons rfl (ob_move rfl) <| .cons rfl (ob_move rfl) <| .cons rfl (ob_and rfl rfl rfl) <| .cons rfl (ob_assign rfl) <| .nil) ?_
                  intro a15 w15 m15 hst15 hle15 hk15
                  have hfr15 := hk15.fr (T' := [(2, _)]) (.new rfl <| .nil)
                  clear hst14 hfr14 hk15
                  refine hK30 _ _ ?_; clear hK30
                  refine wp_ret ?_
                  repeat (with_reducible first | refine then_ret ?_ | refine block_ret ?_)
                  exact fn_ret hst15 hfr15 rfl (.tmp rfl <| .nil) (by refine congrArg Value.bool ?_; unfold headC; simp_all [Bool.and_assoc, dN1, dN2, dN3])
                · exfalso; try simp only [nq1, nq2, nq3, nq4, nq5, nq6, nq7, nq8, nq9, u8_eq] at hb127x
                  first | exact absurd hb127x hb127 | exact absurd hb127 hb127x | simp_all
              · try simp only [nq1, nq2, nq3, nq4, nq5, nq6, nq7, nq8, nq9, u8_eq] at hb127
                refine rp0 hst14 hfr14 (.cons rfl (ob_eql rfl rfl) <| .cons rfl (ob_assign rfl) <| .nil) ?_
                intro a15 w15 m15 hst15 hle15 hk15
                have hfr15 := hk15.fr (T' := [(1, _), (3, _), (4, _), (5, _), (6, _), (7, _), (34, _), (127, _)]) (.old rfl rfl <| .old rfl rfl <| .old rfl rfl <| .old rfl rfl <| .old rfl rfl <| .old rfl rfl <| .old rfl rfl <| .new rfl <| .nil)
                replace h_t := h_t.mono hle15
                replace hc1 := hc1.mono hle15
                clear hst14 hfr14 hk15
                refine hK28 _ _ ?_; clear hK28
                refine cond_any hfr15 rfl rfl (fun hb127 => ?_) (fun hb127 => ?_)
                · try simp only [nq1, nq2, nq3, nq4, nq5, nq6, nq7, nq8, nq9, u8_eq] at hb127
                  refine seq_any fun _ hK32 => ?_
                  refine rp0 hst15 hfr15 (.cons rfl (ob_move rfl) <| .cons rfl (ob_eql rfl rfl) <| .cons rfl (ob_move rfl) <| .cons rfl (ob_move rfl) <| .cons rfl (ob_eql rfl rfl) <| .cons rfl (ob_and rfl rfl rfl) <| .cons rfl (ob_move rfl) <| .cons rfl (ob_move rfl) <| .cons rfl (ob_and rfl rfl rfl) <| .cons rfl (ob_move rfl) <| .cons rfl (ob_move rfl) <| .cons rfl (ob_and rfl rfl rfl) <| .cons rfl (ob_assign rfl) <| .nil) ?_
                  intro a16 w16 m16 hst16 hle16 hk16
                  have hfr16 := hk16.fr (T' := [(2, _)]) (.new rfl <| .nil)
                  clear hst15 hfr15 hk16
                  refine hK32 _ _ ?_; clear hK32
                  refine wp_ret ?_
                  repeat (with_reducible first | refine then_ret ?_ | refine block_ret ?_)
                  exact fn_ret hst16 hfr16 rfl (.tmp rfl <| .nil) (by refine congrArg Value.bool ?_; unfold headC; simp_all [Bool.and_assoc, dN1, dN2, dN3])
                · try simp only [nq1, nq2, nq3, nq4, nq5, nq6, nq7, nq8, nq9, u8_eq] at hb127
                  refine seq_any fun _ hK34 => ?_
                  refine rp0 hst15 hfr15 (.cons rfl (ob_eql rfl rfl) <| .cons rfl (ob_assign rfl) <| .nil) ?_
                  intro a16 w16 m16 hst16 hle16 hk16
                  have hfr16 := hk16.fr (T' := [(1, _), (3, _), (4, _), (5, _), (6, _), (7, _), (34, _), (142, _)]) (.old rfl rfl <| .old rfl rfl <| .old rfl rfl <| .old rfl rfl <| .old rfl rfl <| .old rfl rfl <| .old rfl rfl <| .new rfl <| .nil)
                  replace h_t := h_t.mono hle16
                  replace hc1 := hc1.mono hle16
                  clear hst15 hfr15 hk16
                  refine hK34 _ _ ?_; clear hK34
                  refine cond_any hfr16 rfl rfl (fun hb142 => ?_) (fun hb142 => ?_)
                  · try simp only [nq1, nq2, nq3, nq4, nq5, nq6, nq7, nq8, nq9, u8_eq] at hb142
                    refine seq_any fun _ hK35 => ?_
                    refine rp0 hst16 hfr16 (.cons rfl (ob_move rfl) <| .cons rfl (ob_eql rfl rfl) <| .cons rfl (ob_move rfl) <| .cons rfl (ob_move rfl) <| .cons rfl (ob_eql rfl rfl) <| .cons rfl (ob_and rfl rfl rfl) <| .cons rfl (ob_move rfl) <| .cons rfl (ob_fieldAddrO (off := 1) rfl Tryd.underlying25 rfl rfl Tryd.sizeOf9 rfl) <| .cons rfl (ob_load1 rfl hc1 Tryd.isAgg9 rfl) <| .cons rfl (ob_sneq rfl rfl) <| .cons rfl (ob_and rfl rfl rfl) <| .cons rfl (ob_move rfl) <| .cons rfl (ob_fieldAddrO (off := 2) rfl Tryd.underlying25 rfl rfl Tryd.sizeOf9 rfl) <| .cons rfl (ob_load1 rfl hc1 Tryd.isAgg9 rfl) <| .cons rfl (ob_sneq rfl rfl) <| .cons rfl (ob_and rfl rfl rfl) <| .cons rfl (ob_move rfl) <| .cons rfl (ob_move rfl) <| .cons rfl (ob_and rfl rfl rfl) <| .cons rfl (ob_assign rfl) <| .nil) ?_
                    intro a17 w17 m17 hst17 hle17 hk17
                    have hfr17 := hk17.fr (T' := [(2, _)]) (.new rfl <| .nil)
                    clear hst16 hfr16 hk17
                    refine hK35 _ _ ?_; clear hK35
                    refine wp_ret ?_
                    repeat (with_reducible first | refine then_ret ?_ | refine block_ret ?_)
                    exact fn_ret hst17 hfr17 rfl (.tmp rfl <| .nil) (by refine congrArg Value.bool ?_; unfold headC; simp_all [Bool.and_assoc, dN1, dN2, dN3])
                  · try simp only [nq1, nq2, nq3, nq4, nq5, nq6, nq7, nq8, nq9, u8_eq] at hb142
                    refine seq_any fun _ hK37 => ?_
                    refine rp0 hst16 hfr16 (.cons rfl (ob_eql rfl rfl) <| .cons rfl (ob_assign rfl) <| .nil) ?_
                    intro a17 w17 m17 hst17 hle17 hk17
                    have hfr17 := hk17.fr (T' := [(1, _), (3, _), (4, _), (5, _), (6, _), (7, _), (34, _), (163, _)]) (.old rfl rfl <| .old rfl rfl <| .old rfl rfl <| .old rfl rfl <| .old rfl rfl <| .old rfl rfl <| .old rfl rfl <| .new rfl <| .nil)
                    replace h_t := h_t.mono hle17
                    replace hc1 := hc1.mono hle17
                    clear hst16 hfr16 hk17
                    refine hK37 _ _ ?_; clear hK37
                    refine cond_any hfr17 rfl rfl (fun hb163 => ?_) (fun hb163 => ?_)
                    · try simp only [nq1, nq2, nq3, nq4, nq5, nq6, nq7, nq8, nq9, u8_eq] at hb163
                      refine seq_any fun _ hK38 => ?_
                      refine rp0 hst17 hfr17 (.cons rfl (ob_move rfl) <| .cons rfl (ob_eql rfl rfl) <| .cons rfl (ob_move rfl) <| .cons rfl (ob_move rfl) <| .cons rfl (ob_eql rfl rfl) <| .cons rfl (ob_and rfl rfl rfl) <| .cons rfl (ob_move rfl) <| .cons rfl (ob_move rfl) <| .cons rfl (ob_and rfl rfl rfl) <| .cons rfl (ob_move rfl) <| .cons rfl (ob_move rfl) <| .cons rfl (ob_and rfl rfl rfl) <| .cons rfl (ob_move rfl) <| .cons rfl (ob_loadS' rfl hc1 Tryd.isAgg25 Tryd.sizeOf25 rfl rfl) <| .cons rfl (ob_guard (b := true) 177 rfl rfl (fun hg9 => ob_callE rfl (.cons rfl <| .cons rfl <| .nil) Tryd.call50 (fun w m hK => by have hle_ := KC.le hK; have hA := KC.agree hK; have h_t := h_t.mono hle_; exact atoms_c (n := 1) hA h_t (by simp at hg9; omega)))) <| .cons rfl (ob_and rfl rfl rfl) <| .cons rfl (ob_assign rfl) <| .nil) ?_
                      intro a18 w18 m18 hst18 hle18 hk18
                      have hfr18 := hk18.fr (T' := [(2, _)]) (.new rfl <| .nil)
                      clear hst17 hfr17 hk18
                      refine hK38 _ _ ?_; clear hK38
                      refine wp_ret ?_
                      repeat (with_reducible first | refine then_ret ?_ | refine block_ret ?_)
                      exact fn_ret hst18 hfr18 rfl (.tmp rfl <| .nil) (by refine congrArg Value.bool ?_; unfold headC; simp_all [Bool.and_assoc, dN1, dN2, dN3])
                    · try simp only [nq1, nq2, nq3, nq4, nq5, nq6, nq7, nq8, nq9, u8_eq] at hb163
                      refine seq_any fun _ hK40 => ?_
                      refine rp0 hst17 hfr17 (.cons rfl (ob_eql rfl rfl) <| .cons rfl (ob_assign rfl) <| .nil) ?_
                      intro a18 w18 m18 hst18 hle18 hk18
                      have hfr18 := hk18.fr (T' := [(1, _), (3, _), (4, _), (5, _), (6, _), (7, _), (34, _), (181, _)]) (.old rfl rfl <| .old rfl rfl <| .old rfl rfl <| .old rfl rfl <| .old rfl rfl <| .old rfl rfl <| .old rfl rfl <| .new rfl <| .nil)
                      replace h_t := h_t.mono hle18
                      replace hc1 := hc1.mono hle18
                      clear hst17 hfr17 hk18
                      refine hK40 _ _ ?_; clear hK40
                      refine cond_any hfr18 rfl rfl (fun hb181 => ?_) (fun hb181 => ?_)
                      · try simp only [nq1, nq2, nq3, nq4, nq5, nq6, nq7, nq8, nq9, u8_eq] at hb181
                        refine seq_any fun _ hK41 => ?_
                        refine rp0 hst18 hfr18 (.cons rfl (ob_move rfl) <| .cons rfl (ob_fieldAddrO (off := 1) rfl Tryd.underlying25 rfl rfl Tryd.sizeOf9 rfl) <| .cons rfl (ob_load1 rfl hc1 Tryd.isAgg9 rfl) <| .cons rfl (ob_callE rfl (.cons rfl <| .nil) Tryd.call51 (fun w m hK => by have hle_ := KC.le hK; have hA := KC.agree hK; exact prim_c (s := t.name) hA)) <| .cons rfl (ob_eql rfl rfl) <| .cons rfl (ob_move rfl) <| .cons rfl (ob_move rfl) <| .cons rfl (ob_eql rfl rfl) <| .cons rfl (ob_and rfl rfl rfl) <| .cons rfl (ob_move rfl) <| .cons rfl (ob_move rfl) <| .cons rfl (ob_and rfl rfl rfl) <| .cons rfl (ob_move rfl) <| .cons rfl (ob_move rfl) <| .cons rfl (ob_and rfl rfl rfl) <| .cons rfl (ob_move rfl) <| .cons rfl (ob_loadS' rfl hc1 Tryd.isAgg25 Tryd.sizeOf25 rfl rfl) <| .cons rfl (ob_move rfl) <| .cons rfl (ob_guard (b := true) 198 rfl rfl (fun hg9 => ob_callE rfl (.cons rfl <| .cons rfl <| .nil) Tryd.call50 (fun w m hK => by have hle_ := KC.le hK; have hA := KC.agree hK; have h_t := h_t.mono hle_; exact atoms_c (n := t.kids.length) hA h_t (by simp at hg9; omega)))) <| .cons rfl (ob_and rfl rfl rfl) <| .cons rfl (ob_assign rfl) <| .nil) ?_
                        intro a19 w19 m19 hst19 hle19 hk19
                        have hfr19 := hk19.fr (T' := [(2, _)]) (.new rfl <| .nil)
                        clear hst18 hfr18 hk19
                        refine hK41 _ _ ?_; clear hK41
                        refine wp_ret ?_
                        repeat (with_reducible first | refine then_ret ?_ | refine block_ret ?_)
                        exact fn_ret hst19 hfr19 rfl (.tmp rfl <| .nil) (by refine congrArg Value.bool ?_; unfold headC; simp_all [Bool.and_assoc, dN1, dN2, dN3])
                      · try simp only [nq1, nq2, nq3, nq4, nq5, nq6, nq7, nq8, nq9, u8_eq] at hb181
                        refine seq_any fun _ hK43 => ?_
                        refine rp0 hst18 hfr18 (.cons rfl (ob_eql rfl rfl) <| .cons rfl (ob_assign rfl) <| .nil) ?_
                        intro a19 w19 m19 hst19 hle19 hk19
                        have hfr19 := hk19.fr (T' := [(1, _), (3, _), (4, _), (5, _), (6, _), (7, _), (34, _), (203, _)]) (.old rfl rfl <| .old rfl rfl <| .old rfl rfl <| .old rfl rfl <| .old rfl rfl <| .old rfl rfl <| .old rfl rfl <| .new rfl <| .nil)
                        replace h_t := h_t.mono hle19
                        replace hc1 := hc1.mono hle19
                        clear hst18 hfr18 hk19
                        refine hK43 _ _ ?_; clear hK43
                        refine cond_any hfr19 rfl rfl (fun hb203 => ?_) (fun hb203 => ?_)
                        · try simp only [nq1, nq2, nq3, nq4, nq5, nq6, nq7, nq8, nq9, u8_eq] at hb203
                          refine seq_any fun _ hK44 => ?_
                          refine rp0 hst19 hfr19 (.cons rfl (ob_move rfl) <| .cons rfl (ob_eql rfl rfl) <| .cons rfl (ob_move rfl) <| .cons rfl (ob_move rfl) <| .cons rfl (ob_and rfl rfl rfl) <| .cons rfl (ob_move rfl) <| .cons rfl (ob_move rfl) <| .cons rfl (ob_and rfl rfl rfl) <| .cons rfl (ob_move rfl) <| .cons rfl (ob_loadS' rfl hc1 Tryd.isAgg25 Tryd.sizeOf25 rfl rfl) <| .cons rfl (ob_move rfl) <| .cons rfl (ob_guard (b := true) 213 rfl rfl (fun hg9 => ob_callE rfl (.cons rfl <| .cons rfl <| .nil) Tryd.call50 (fun w m hK => by have hle_ := KC.le hK; have hA := KC.agree hK; have h_t := h_t.mono hle_; exact atoms_c (n := t.kids.length) hA h_t (by simp at hg9; omega)))) <| .cons rfl (ob_and rfl rfl rfl) <| .cons rfl (ob_assign rfl) <| .nil) ?_
                          intro a20 w20 m20 hst20 hle20 hk20
                          have hfr20 := hk20.fr (T' := [(2, _)]) (.new rfl <| .nil)
                          clear hst19 hfr19 hk20
                          refine hK44 _ _ ?_; clear hK44
                          refine wp_ret ?_
                          repeat (with_reducible first | refine then_ret ?_ | refine block_ret ?_)
                          exact fn_ret hst20 hfr20 rfl (.tmp rfl <| .nil) (by refine congrArg Value.bool ?_; unfold headC; simp_all [Bool.and_assoc, dN1, dN2, dN3])
                        · try simp only [nq1, nq2, nq3, nq4, nq5, nq6, nq7, nq8, nq9, u8_eq] at hb203
                          refine seq_any fun _ hK46 => ?_
                          refine rp0 hst19 hfr19 (.cons rfl (ob_eql rfl rfl) <| .cons rfl (ob_assign rfl) <| .nil) ?_
                          intro a20 w20 m20 hst20 hle20 hk20
                          have hfr20 := hk20.fr (T' := [(1, _), (3, _), (4, _), (5, _), (6, _), (7, _), (34, _), (218, _)]) (.old rfl rfl <| .old rfl rfl <| .old rfl rfl <| .old rfl rfl <| .old rfl rfl <| .old rfl rfl <| .old rfl rfl <| .new rfl <| .nil)
                          replace h_t := h_t.mono hle20
                          replace hc1 := hc1.mono hle20
                          clear hst19 hfr19 hk20
                          refine hK46 _ _ ?_; clear hK46
                          refine cond_any hfr20 rfl rfl (fun hb218 => ?_) (fun hb218 => ?_)
                          · try simp only [nq1, nq2, nq3, nq4, nq5, nq6, nq7, nq8, nq9, u8_eq] at hb218
                            refine seq_any fun _ hK47 => ?_
                            refine rp0 hst20 hfr20 (.cons rfl (ob_move rfl) <| .cons rfl (ob_eql rfl rfl) <| .cons rfl (ob_move rfl) <| .cons rfl (ob_move rfl) <| .cons rfl (ob_gtr rfl rfl) <| .cons rfl (ob_and rfl rfl rfl) <| .cons rfl (ob_move rfl) <| .cons rfl (ob_move rfl) <| .cons rfl (ob_and rfl rfl rfl) <| .cons rfl (ob_move rfl) <| .cons rfl (ob_move rfl) <| .cons rfl (ob_and rfl rfl rfl) <| .cons rfl (ob_move rfl) <| .cons rfl (ob_loadS' rfl hc1 Tryd.isAgg25 Tryd.sizeOf25 rfl rfl) <| .cons rfl (ob_guard (b := true) 232 rfl rfl (fun hg9 => ob_callE rfl (.cons rfl <| .cons rfl <| .nil) Tryd.call50 (fun w m hK => by have hle_ := KC.le hK; have hA := KC.agree hK; have h_t := h_t.mono hle_; exact atoms_c (n := 1) hA h_t (by simp at hg9; omega)))) <| .cons rfl (ob_and rfl rfl rfl) <| .cons rfl (ob_assign rfl) <| .nil) ?_
                            intro a21 w21 m21 hst21 hle21 hk21
                            have hfr21 := hk21.fr (T' := [(2, _)]) (.new rfl <| .nil)
                            clear hst20 hfr20 hk21
                            refine hK47 _ _ ?_; clear hK47
                            refine wp_ret ?_
                            repeat (with_reducible first | refine then_ret ?_ | refine block_ret ?_)
                            exact fn_ret hst21 hfr21 rfl (.tmp rfl <| .nil) (by refine congrArg Value.bool ?_; unfold headC; simp_all [Bool.and_assoc, dN1, dN2, dN3])
                          · try simp only [nq1, nq2, nq3, nq4, nq5, nq6, nq7, nq8, nq9, u8_eq] at hb218
                            refine seq_any fun _ hK49 => ?_
                            refine rp0 hst20 hfr20 (.cons rfl (ob_eql rfl rfl) <| .cons rfl (ob_assign rfl) <| .nil) ?_
                            intro a21 w21 m21 hst21 hle21 hk21
                            have hfr21 := hk21.fr (T' := [(1, _), (3, _), (4, _), (6, _), (7, _), (34, _), (236, _)]) (.old rfl rfl <| .old rfl rfl <| .old rfl rfl <| .old rfl rfl <| .old rfl rfl <| .old rfl rfl <| .new rfl <| .nil)
                            replace h_t := h_t.mono hle21
                            replace hc1 := hc1.mono hle21
                            clear hst20 hfr20 hk21
                            refine hK49 _ _ ?_; clear hK49
                            refine cond_any hfr21 rfl rfl (fun hb236 => ?_) (fun hb236 => ?_)
                            · try simp only [nq1, nq2, nq3, nq4, nq5, nq6, nq7, nq8, nq9, u8_eq] at hb236
                              refine seq_any fun _ hK50 => ?_
                              refine rp0 hst21 hfr21 (.cons rfl (ob_move rfl) <| .cons rfl (ob_eql rfl rfl) <| .cons rfl (ob_move rfl) <| .cons rfl (ob_move rfl) <| .cons rfl (ob_eql rfl rfl) <| .cons rfl (ob_and rfl rfl rfl) <| .cons rfl (ob_move rfl) <| .cons rfl (ob_move rfl) <| .cons rfl (ob_and rfl rfl rfl) <| .cons rfl (ob_move rfl) <| .cons rfl (ob_move rfl) <| .cons rfl (ob_and rfl rfl rfl) <| .cons rfl (ob_move rfl) <| .cons rfl (ob_loadS' rfl hc1 Tryd.isAgg25 Tryd.sizeOf25 rfl rfl) <| .cons rfl (ob_guard (b := true) 250 rfl rfl (fun hg9 => ob_callE rfl (.cons rfl <| .cons rfl <| .nil) Tryd.call50 (fun w m hK => by have hle_ := KC.le hK; have hA := KC.agree hK; have h_t := h_t.mono hle_; exact atoms_c (n := 1) hA h_t (by simp at hg9; omega)))) <| .cons rfl (ob_and rfl rfl rfl) <| .cons rfl (ob_assign rfl) <| .nil) ?_
                              intro a22 w22 m22 hst22 hle22 hk22
                              have hfr22 := hk22.fr (T' := [(2, _)]) (.new rfl <| .nil)
                              clear hst21 hfr21 hk22
                              refine hK50 _ _ ?_; clear hK50
                              refine wp_ret ?_
                              repeat (with_reducible first | refine then_ret ?_ | refine block_ret ?_)
                              exact fn_ret hst22 hfr22 rfl (.tmp rfl <| .nil) (by refine congrArg Value.bool ?_; unfold headC; simp_all [Bool.and_assoc, dN1, dN2, dN3])
                            · try simp only [nq1, nq2, nq3, nq4, nq5, nq6, nq7, nq8, nq9, u8_eq] at hb236
                              refine seq_any fun _ hK52 => ?_
                              refine rp0 hst21 hfr21 (.cons rfl (ob_eql rfl rfl) <| .cons rfl (ob_assign rfl) <| .nil) ?_
                              intro a22 w22 m22 hst22 hle22 hk22
                              have hfr22 := hk22.fr (T' := [(3, _), (4, _), (6, _), (7, _), (254, _)]) (.old rfl rfl <| .old rfl rfl <| .old rfl rfl <| .old rfl rfl <| .new rfl <| .nil)
                              clear hst21 hfr21 hk22
                              refine hK52 _ _ ?_; clear hK52
                              refine cond_any hfr22 rfl rfl (fun hb254 => ?_) (fun hb254 => ?_)
                              · try simp only [nq1, nq2, nq3, nq4, nq5, nq6, nq7, nq8, nq9, u8_eq] at hb254
                                refine seq_any fun _ hK53 => ?_
                                refine rp0 hst22 hfr22 (.cons rfl (ob_move rfl) <| .cons rfl (ob_eql rfl rfl) <| .cons rfl (ob_move rfl) <| .cons rfl (ob_move rfl) <| .cons rfl (ob_gtr rfl rfl) <| .cons rfl (ob_and rfl rfl rfl) <| .cons rfl (ob_move rfl) <| .cons rfl (ob_move rfl) <| .cons rfl (ob_and rfl rfl rfl) <| .cons rfl (ob_move rfl) <| .cons rfl (ob_move rfl) <| .cons rfl (ob_and rfl rfl rfl) <| .cons rfl (ob_assign rfl) <| .nil) ?_
                                intro a23 w23 m23 hst23 hle23 hk23
                                have hfr23 := hk23.fr (T' := [(2, _)]) (.new rfl <| .nil)
                                clear hst22 hfr22 hk23
                                refine hK53 _ _ ?_; clear hK53
                                refine wp_ret ?_
                                repeat (with_reducible first | refine then_ret ?_ | refine block_ret ?_)
                                exact fn_ret hst23 hfr23 rfl (.tmp rfl <| .nil) (by refine congrArg Value.bool ?_; unfold headC; simp_all [Bool.and_assoc, dN1, dN2, dN3])
                              · try simp only [nq1, nq2, nq3, nq4, nq5, nq6, nq7, nq8, nq9, u8_eq] at hb254
                                refine wp_skip ?_
                                refine hK8 _ _ ?_; clear hK8
                                refine seq_any fun _ hK55 => ?_
                                refine rp0 hst22 hfr22 (.cons rfl (ob_assign rfl) <| .nil) ?_
                                intro a23 w23 m23 hst23 hle23 hk23
                                have hfr23 := hk23.fr (T' := [(2, _)]) (.new rfl <| .nil)
                                clear hst22 hfr22 hk23
                                refine hK55 _ _ ?_; clear hK55
                                refine wp_ret ?_
                                repeat (with_reducible first | refine then_ret ?_ | refine block_ret ?_)
                                exact fn_ret hst23 hfr23 rfl (.tmp rfl <| .nil) (by refine congrArg Value.bool ?_; unfold headC; simp_all [Bool.and_assoc, dN1, dN2, dN3])

set_option maxHeartbeats 1600000 in
theorem arm_c {w : World} {m : Mem} {t : Cd} {vs_t : List Value} {i : Nat} (hA : Agree w m) (h_t : CdR m t vs_t) (hi : i < t.arms.length) : FnV Tryd.prog 35 #[.agg vs_t.toArray, .int .i64 (i : Int)] w m (fun _ _ v => v = .bool (armAt t i)) := by
  obtain ⟨⟨oK_t, cK_t, oA_t, cA_t⟩, rfl, ⟨hik_t, hin_t⟩, hkk_t, haa_t⟩ := h_t.open_
  dsimp only at hkk_t haa_t
  have hbg_t := hkk_t.big; have hcp_t := hkk_t.cap; have hbh_t := haa_t.big; have hcq_t := haa_t.cap
  refine fn_enter (vs := [_, _]) Tryd.func35 rfl rfl rfl fun a0 hfr0 => ?_
  have hst0 := st_enter hA (loc_nil [] _ w m)
  have hM : MLe m m := MLe.refl m
  refine seq_any fun _ hK1 => ?_
  refine rp0 hst0 hfr0 (.cons rfl (ob_box rfl rfl) <| .cons rfl (ob_assign rfl) <| .nil) ?_
  intro a1 w1 m1 hst1 hle1 hk1
  have hfr1 := hk1.fr (T' := [(1, _)]) (.old rfl rfl <| .nil)
  obtain ⟨g2, e2, hc2⟩ := hk1.ex 2 rfl
  replace hfr1 := hfr1.cons e2
  replace haa_t := haa_t.mono hle1
  clear hst0 hfr0 hk1
  refine hK1 _ _ ?_; clear hK1
  refine seq_any fun _ hK3 => ?_
  obtain ⟨p4, vs4, x4, ho4, hd4, hm_x4, ht4, hcv4, hl4, hv4⟩ := haa_t.nth (k := i) (by omega)
  cases ho4
  obtain ⟨oV4, cV4, bs4, rfl, hva4, hbd4⟩ := hv4.open_
  have hbv4 := hva4.big; have hcv4_ := hva4.cap
  obtain ⟨⟨oK4b, cK4b, oA4b, cA4b⟩, rfl, ⟨hik4b, hin4b⟩, hkk4b, haa4b⟩ := hbd4.open_
  dsimp only at hkk4b haa4b
  have hbg4b := hkk4b.big; have hcp4b := hkk4b.cap; have hbh4b := haa4b.big; have hcq4b := haa4b.cap
  have hat : armAt t i = armOk t.kind i x4 := by unfold armAt; rw [at_of_drop hd4]
  replace hst1 := hst1.more (r := .free) trivial List.nodup_nil (by simp [Res.blocks])
  refine ra0 (tch := [(5, 0, (fun v => .blk v _)), (6, 0, (fun v => .blk v _))]) hst1 hfr1 (.cons rfl (ob_fieldAddrO (off := 5) rfl Tryd.underlying25 rfl rfl Tryd.sizeOf23 rfl) <| .cons rfl (ob_load1 rfl hc2 Tryd.isAgg23 rfl) <| .cons rfl (ob_move rfl) <| .cons rfl (ob_indexAddr (k := i) rfl rfl Tryd.underlying23 Tryd.sizeOf35 rfl (by omega)) <| .cons rfl (ob_loadS' rfl hcv4 Tryd.isAgg35 Tryd.sizeOf35 rfl rfl) <| .consT rfl rfl (fun _ => rfl) rfl (ob_allocL Tryd.zeroValue35 rfl) <| .consT rfl rfl (fun _ => rfl) rfl (ob_imgT 5 rfl rfl rfl fun y5 => ob_storeF rfl rfl rfl rfl rfl Tryd.sizeOf35 rfl rfl hv4.one) <| .nil) ?_
  intro a2 w2 m2 hst2 hle2 hk2
  have hfr2 := hk2.fr (T' := [(1, _), (2, _)]) (.old rfl rfl <| .old rfl rfl <| .nil)
  obtain ⟨g5, e5, _⟩ := hk2.ex 5 rfl
  replace hfr2 := hfr2.cons e5
  replace hst2 := hst2.fin (L' := [_]) (.cons e5 <| .cons e5 <| .nil)
  try simp only [List.take_succ_cons, List.take_zero, List.drop_succ_cons, List.drop_zero, List.cons_append, List.nil_append, List.append_nil, List.length_cons, List.length_nil, Nat.zero_add, Nat.reduceAdd] at hst2
  replace hc2 := hc2.mono hle2
  replace hva4 := hva4.mono hle2
  clear hst1 hfr1 hk2
  refine hK3 _ _ ?_; clear hK3
  refine seq_any fun _ hK6 => ?_
  refine rp0 hst2 hfr2 (.cons rfl (ob_fieldAddrO (off := 1) rfl Tryd.underlying35 rfl rfl Tryd.sizeOf29 rfl) <| .cons rfl (ob_loadL (j := 0) rfl rfl Tryd.isAgg29 rfl) <| .cons rfl (ob_callE rfl (.cons rfl <| .nil) Tryd.call52 (fun w m hK => by have hle_ := KC.le hK; have hA := KC.agree hK; have hva4 := hva4.mono hle_; exact names_c (l := x4.vars) hA hva4)) <| .cons rfl (ob_assign rfl) <| .nil) ?_
  intro a3 w3 m3 hst3 hle3 hk3
  have hfr3 := hk3.fr (T' := [(1, _), (2, _), (5, _), (6, _)]) (.old rfl rfl <| .old rfl rfl <| .old rfl rfl <| .new rfl <| .nil)
  replace hc2 := hc2.mono hle3
  clear hst2 hfr2 hk3
  refine hK6 _ _ ?_; clear hK6
  refine seq_any fun _ hK7 => ?_
  refine seq_any fun _ hK8 => ?_
  refine rp0 hst3 hfr3 (.cons rfl (ob_move rfl) <| .cons rfl (ob_not rfl) <| .cons rfl (ob_move rfl) <| .cons rfl (ob_fieldAddrO (off := 0) rfl Tryd.underlying35 rfl rfl Tryd.sizeOf9 rfl) <| .cons rfl (ob_loadL (j := 0) rfl rfl Tryd.isAgg9 rfl) <| .cons rfl (ob_seql rfl rfl) <| .cons rfl (ob_or rfl rfl rfl) <| .nil) ?_
  intro a4 w4 m4 hst4 hle4 hk4
  have hfr4 := hk4.fr (T' := [(1, _), (2, _), (5, _), (21, _)]) (.old rfl rfl <| .old rfl rfl <| .old rfl rfl <| .new rfl <| .nil)
  replace hc2 := hc2.mono hle4
  clear hst3 hfr3 hk4
  refine hK8 _ _ ?_; clear hK8
  refine cond_any hfr4 rfl rfl (fun hb21 => ?_) (fun hb21 => ?_)
  · try simp only [nq1, nq2, nq3, nq4, nq5, nq6, nq7, nq8, nq9, u8_eq] at hb21
    refine seq_any fun _ hK9 => ?_
    refine rp0 hst4 hfr4 (.cons rfl (ob_assign rfl) <| .nil) ?_
    intro a5 w5 m5 hst5 hle5 hk5
    have hfr5 := hk5.fr (T' := [(4, _)]) (.new rfl <| .nil)
    clear hst4 hfr4 hk5
    refine hK9 _ _ ?_; clear hK9
    refine wp_ret ?_
    repeat (with_reducible first | refine then_ret ?_ | refine block_ret ?_)
    exact fn_ret hst5 hfr5 rfl (.tmp rfl <| .nil) (by refine congrArg Value.bool ?_; rw [hat]; unfold armOk; rcases hb21 with h | h <;> simp [h])
  · try simp only [nq1, nq2, nq3, nq4, nq5, nq6, nq7, nq8, nq9, u8_eq] at hb21
    refine wp_skip ?_
    refine hK7 _ _ ?_; clear hK7
    refine seq_any fun _ hK11 => ?_
    refine seq_any fun _ hK12 => ?_
    refine rp0 hst4 hfr4 (.cons rfl (ob_fieldAddrO (off := 0) rfl Tryd.underlying25 rfl rfl Tryd.sizeOf3 rfl) <| .cons rfl (ob_load1 rfl hc2 Tryd.isAgg3 rfl) <| .cons rfl (ob_eql rfl rfl) <| .nil) ?_
    intro a5 w5 m5 hst5 hle5 hk5
    have hfr5 := hk5.fr (T' := [(1, _), (5, _), (24, _)]) (.old rfl rfl <| .old rfl rfl <| .new rfl <| .nil)
    clear hst4 hfr4 hk5
    refine hK12 _ _ ?_; clear hK12
    refine cond_any hfr5 rfl rfl (fun hb24 => ?_) (fun hb24 => ?_)
    · try simp only [nq1, nq2, nq3, nq4, nq5, nq6, nq7, nq8, nq9, u8_eq] at hb24
      refine seq_any fun _ hK13 => ?_
      refine rp0 hst5 hfr5 (.cons rfl (ob_fieldAddrO (off := 2) rfl Tryd.underlying35 rfl rfl Tryd.sizeOf4 rfl) <| .cons rfl (ob_loadL (j := 0) rfl rfl Tryd.isAgg4 rfl) <| .cons rfl (ob_not rfl) <| .cons rfl (ob_assign rfl) <| .nil) ?_
      intro a6 w6 m6 hst6 hle6 hk6
      have hfr6 := hk6.fr (T' := [(4, _)]) (.new rfl <| .nil)
      clear hst5 hfr5 hk6
      refine hK13 _ _ ?_; clear hK13
      refine wp_ret ?_
      repeat (with_reducible first | refine then_ret ?_ | refine block_ret ?_)
      exact fn_ret hst6 hfr6 rfl (.tmp rfl <| .nil) (by refine congrArg Value.bool ?_; rw [hat]; unfold armOk; simp [hb21.1, hb21.2, hb24])
    · try simp only [nq1, nq2, nq3, nq4, nq5, nq6, nq7, nq8, nq9, u8_eq] at hb24
      refine wp_skip ?_
      refine hK11 _ _ ?_; clear hK11
      refine seq_any fun _ hK15 => ?_
      refine seq_any fun _ hK16 => ?_
      refine rp0 hst5 hfr5 (.cons rfl (ob_move rfl) <| .cons rfl (ob_eql rfl rfl) <| .nil) ?_
      intro a6 w6 m6 hst6 hle6 hk6
      have hfr6 := hk6.fr (T' := [(5, _), (29, _)]) (.old rfl rfl <| .new rfl <| .nil)
      clear hst5 hfr5 hk6
      refine hK16 _ _ ?_; clear hK16
      refine cond_any hfr6 rfl rfl (fun hb29 => ?_) (fun hb29 => ?_)
      · try simp only [nq1, nq2, nq3, nq4, nq5, nq6, nq7, nq8, nq9, u8_eq] at hb29
        refine seq_any fun _ hK17 => ?_
        refine rp0 hst6 hfr6 (.cons rfl (ob_fieldAddrO (off := 0) rfl Tryd.underlying35 rfl rfl Tryd.sizeOf9 rfl) <| .cons rfl (ob_loadL (j := 0) rfl rfl Tryd.isAgg9 rfl) <| .cons rfl (ob_seql rfl rfl) <| .cons rfl (ob_move rfl) <| .cons rfl (ob_fieldAddrO (off := 1) rfl Tryd.underlying35 rfl rfl Tryd.sizeOf29 rfl) <| .cons rfl (ob_loadL (j := 0) rfl rfl Tryd.isAgg29 rfl) <| .cons rfl (ob_len rfl Tryd.underlying29) <| .cons rfl (ob_eql rfl rfl) <| .cons rfl (ob_and rfl rfl rfl) <| .cons rfl (ob_move rfl) <| .cons rfl (ob_fieldAddrO (off := 2) rfl Tryd.underlying35 rfl rfl Tryd.sizeOf4 rfl) <| .cons rfl (ob_loadL (j := 0) rfl rfl Tryd.isAgg4 rfl) <| .cons rfl (ob_not rfl) <| .cons rfl (ob_and rfl rfl rfl) <| .cons rfl (ob_assign rfl) <| .nil) ?_
        intro a7 w7 m7 hst7 hle7 hk7
        have hfr7 := hk7.fr (T' := [(4, _)]) (.new rfl <| .nil)
        clear hst6 hfr6 hk7
        refine hK17 _ _ ?_; clear hK17
        refine wp_ret ?_
        repeat (with_reducible first | refine then_ret ?_ | refine block_ret ?_)
        exact fn_ret hst7 hfr7 rfl (.tmp rfl <| .nil) (by refine congrArg Value.bool ?_; rw [hat]; unfold armOk; have hi0 : i = 0 := (by omega); simp [hb21.1, hb21.2, hb24, hi0, dN1])
      · try simp only [nq1, nq2, nq3, nq4, nq5, nq6, nq7, nq8, nq9, u8_eq] at hb29
        refine wp_skip ?_
        refine hK15 _ _ ?_; clear hK15
        refine seq_any fun _ hK19 => ?_
        refine rp0 hst6 hfr6 (.cons rfl (ob_fieldAddrO (off := 2) rfl Tryd.underlying35 rfl rfl Tryd.sizeOf4 rfl) <| .cons rfl (ob_loadL (j := 0) rfl rfl Tryd.isAgg4 rfl) <| .cons rfl (ob_move rfl) <| .cons rfl (ob_fieldAddrO (off := 1) rfl Tryd.underlying35 rfl rfl Tryd.sizeOf29 rfl) <| .cons rfl (ob_loadL (j := 0) rfl rfl Tryd.isAgg29 rfl) <| .cons rfl (ob_len rfl Tryd.underlying29) <| .cons rfl (ob_eql rfl rfl) <| .cons rfl (ob_and rfl rfl rfl) <| .cons rfl (ob_move rfl) <| .cons rfl (ob_fieldAddrO (off := 2) rfl Tryd.underlying35 rfl rfl Tryd.sizeOf4 rfl) <| .cons rfl (ob_loadL (j := 0) rfl rfl Tryd.isAgg4 rfl) <| .cons rfl (ob_not rfl) <| .cons rfl (ob_move rfl) <| .cons rfl (ob_fieldAddrO (off := 1) rfl Tryd.underlying35 rfl rfl Tryd.sizeOf29 rfl) <| .cons rfl (ob_loadL (j := 0) rfl rfl Tryd.isAgg29 rfl) <| .cons rfl (ob_len rfl Tryd.underlying29) <| .cons rfl (ob_eql rfl rfl) <| .cons rfl (ob_and rfl rfl rfl) <| .cons rfl (ob_or rfl rfl rfl) <| .cons rfl (ob_assign rfl) <| .nil) ?_
        intro a7 w7 m7 hst7 hle7 hk7
        have hfr7 := hk7.fr (T' := [(4, _)]) (.new rfl <| .nil)
        clear hst6 hfr6 hk7
        refine hK19 _ _ ?_; clear hK19
        refine wp_ret ?_
        repeat (with_reducible first | refine then_ret ?_ | refine block_ret ?_)
        exact fn_ret hst7 hfr7 rfl (.tmp rfl <| .nil) (by refine congrArg Value.bool ?_; rw [hat]; unfold armOk; have hi0 : ¬ i = 0 := (by omega); simp [hb21.1, hb21.2, hb24, hi0, dN1, dN2])

abbrev rright_G (t : Cd) : Prop := ∀ {w : World} {m : Mem} {vs_t : List Value} (hA : Agree w m) (h_t : CdR m t vs_t), FnV Tryd.prog 16 #[.agg vs_t.toArray] w m (fun _ _ v => v = .bool (rightC t))
set_option maxHeartbeats 1600000 in
theorem rright_s {t : Cd} (ihk : ∀ u ∈ t.kids, rright_G u) (iha : ∀ a ∈ t.arms, rright_G a.body) {w : World} {m : Mem} {vs_t : List Value} (hA : Agree w m) (h_t : CdR m t vs_t) : FnV Tryd.prog 16 #[.agg vs_t.toArray] w m (fun _ _ v => v = .bool (rightC t)) := by
  obtain ⟨⟨oK_t, cK_t, oA_t, cA_t⟩, rfl, ⟨hik_t, hin_t⟩, hkk_t, haa_t⟩ := h_t.open_
  dsimp only at hkk_t haa_t
  have hbg_t := hkk_t.big; have hcp_t := hkk_t.cap; have hbh_t := haa_t.big; have hcq_t := haa_t.cap
  refine fn_enter (vs := [_]) Tryd.func16 rfl rfl rfl fun a0 hfr0 => ?_
  have hst0 := st_enter hA (loc_nil [] _ w m)
  have hM : MLe m m := MLe.refl m
  have hre := rightC_eq t
  have hre2 : rightC t = (headC t && (t.kids.all rightC && (armsOk t.kind 0 t.arms && t.arms.all fun a => rightC a.body))) := by rw [hre]; cases headC t <;> cases armsOk t.kind 0 t.arms <;> cases t.kids.all rightC <;> rfl
  refine seq_any fun _ hK1 => ?_
  refine rp0 hst0 hfr0 (.cons rfl (ob_box rfl rfl) <| .cons rfl (ob_assign rfl) <| .nil) ?_
  intro a1 w1 m1 hst1 hle1 hk1
  have hfr1 := hk1.fr (T' := []) (.nil)
  obtain ⟨g2, e2, hc1⟩ := hk1.ex 1 rfl
  replace hfr1 := hfr1.cons e2
  replace h_t := h_t.mono hle1
  replace hkk_t := hkk_t.mono hle1
  replace haa_t := haa_t.mono hle1
  clear hst0 hfr0 hk1
  refine hK1 _ _ ?_; clear hK1
  refine seq_any fun _ hK3 => ?_
  refine rp0 hst1 hfr1 (.cons rfl (ob_loadS' rfl hc1 Tryd.isAgg25 Tryd.sizeOf25 rfl rfl) <| .cons rfl (ob_callE rfl (.cons rfl <| .nil) Tryd.call34 (fun w m hK => by have hle_ := KC.le hK; have hA := KC.agree hK; have h_t := h_t.mono hle_; exact head_c hA h_t)) <| .cons rfl (ob_assign rfl) <| .nil) ?_
  intro a2 w2 m2 hst2 hle2 hk2
  have hfr2 := hk2.fr (T' := [(1, _), (3, _)]) (.old rfl rfl <| .new rfl <| .nil)
  replace h_t := h_t.mono hle2
  replace hkk_t := hkk_t.mono hle2
  replace haa_t := haa_t.mono hle2
  replace hc1 := hc1.mono hle2
  clear hst1 hfr1 hk2
  refine hK3 _ _ ?_; clear hK3
  refine seq_any fun _ hK4 => ?_
  refine seq_any fun _ hK5 => ?_
  refine rp0 hst2 hfr2 (.cons rfl (ob_move rfl) <| .cons rfl (ob_not rfl) <| .nil) ?_
  intro a3 w3 m3 hst3 hle3 hk3
  have hfr3 := hk3.fr (T' := [(1, _), (12, _)]) (.old rfl rfl <| .new rfl <| .nil)
  replace h_t := h_t.mono hle3
  replace hkk_t := hkk_t.mono hle3
  replace haa_t := haa_t.mono hle3
  replace hc1 := hc1.mono hle3
  clear hst2 hfr2 hk3
  refine hK5 _ _ ?_; clear hK5
  refine cond_any hfr3 rfl rfl (fun hb12 => ?_) (fun hb12 => ?_)
  · try simp only [nq1, nq2, nq3, nq4, nq5, nq6, nq7, nq8, nq9, u8_eq] at hb12
    refine seq_any fun _ hK6 => ?_
    refine rp0 hst3 hfr3 (.cons rfl (ob_assign rfl) <| .nil) ?_
    intro a4 w4 m4 hst4 hle4 hk4
    have hfr4 := hk4.fr (T' := [(2, _)]) (.new rfl <| .nil)
    clear hst3 hfr3 hk4
    refine hK6 _ _ ?_; clear hK6
    refine wp_ret ?_
    repeat (with_reducible first | refine then_ret ?_ | refine block_ret ?_)
    exact fn_ret hst4 hfr4 rfl (.tmp rfl <| .nil) (by refine congrArg Value.bool ?_; rw [hre2, hb12]; rfl)
  · try simp only [nq1, nq2, nq3, nq4, nq5, nq6, nq7, nq8, nq9, u8_eq] at hb12
    refine wp_skip ?_
    refine hK4 _ _ ?_; clear hK4
    refine seq_any fun _ hK8 => ?_
    refine seq_any fun _ hK9 => ?_
    refine rp0 hst3 hfr3 (.cons rfl (ob_assign rfl) <| .nil) ?_
    intro a4 w4 m4 hst4 hle4 hk4
    have hfr4 := hk4.fr (T' := [(1, _), (4, _)]) (.old rfl rfl <| .new rfl <| .nil)
    replace h_t := h_t.mono hle4
    replace hkk_t := hkk_t.mono hle4
    replace haa_t := haa_t.mono hle4
    replace hc1 := hc1.mono hle4
    clear hst3 hfr3 hk4
    refine hK9 _ _ ?_; clear hK9
    refine wp_block ?_
    refine loop_any (T := [(1, _)]) (fun (y : Nat) => ([(4, .int .i64 (y : Int))] : List (Nat × Value))) (fun _ => _) (fun (y : Nat) m => (y ≤ t.kids.length) ∧ (t.kids.all rightC = (t.kids.drop y).all rightC)) (fun y => t.kids.length - y) (0) ⟨hst4, MLe.refl _, hfr4.sub (.cons rfl <| .cons rfl <| .nil), ⟨Nat.zero_le _, rfl⟩⟩ fun y a5 w5 m5 hh5 => ?_
    have hst5 := hh5.st; have hle5 := hh5.le; have hfr5 := hh5.fr; have hrel := hh5.rel; clear hh5
    replace h_t := h_t.mono hle5
    replace hkk_t := hkk_t.mono hle5
    replace haa_t := haa_t.mono hle5
    replace hc1 := hc1.mono hle5
    clear hst4 hfr4
    obtain ⟨hyn, hrem⟩ := hrel
    have hlh5 := hle5
    refine seq_any fun _ hK11 => ?_
    refine seq_any fun _ hK12 => ?_
    refine rp0 hst5 hfr5 (.cons rfl (ob_move rfl) <| .cons rfl (ob_fieldAddrO (off := 4) rfl Tryd.underlying25 rfl rfl Tryd.sizeOf22 rfl) <| .cons rfl (ob_load1 rfl hc1 Tryd.isAgg22 rfl) <| .cons rfl (ob_len rfl Tryd.underlying22) <| .cons rfl (ob_lss rfl rfl) <| .nil) ?_
    intro a6 w6 m6 hst6 hle6 hk6
    have hfr6 := hk6.fr (T' := [(4, _), (1, _), (17, _)]) (.old rfl rfl <| .old rfl rfl <| .new rfl <| .nil)
    replace h_t := h_t.mono hle6
    replace hkk_t := hkk_t.mono hle6
    replace haa_t := haa_t.mono hle6
    replace hc1 := hc1.mono hle6
    have hlh6 := hlh5.trans hle6
    clear hst5 hfr5 hk6
    refine hK12 _ _ ?_; clear hK12
    refine cond_any hfr6 rfl rfl (fun hb17 => ?_) (fun hb17 => ?_)
    · try simp only [nq1, nq2, nq3, nq4, nq5, nq6, nq7, nq8, nq9, u8_eq] at hb17
      refine wp_skip ?_
      refine hK11 _ _ ?_; clear hK11
      refine seq_any fun _ hK13 => ?_
      refine wp_block ?_
      refine seq_any fun _ hK14 => ?_
      obtain ⟨p15, vs15, x15, ho15, hd15, hm_x15, ht15, hcv15, hl15, hv15⟩ := hkk_t.nth (k := y) (by omega)
      cases ho15
      obtain ⟨⟨oK15, cK15, oA15, cA15⟩, rfl, ⟨hik15, hin15⟩, hkk15, haa15⟩ := hv15.open_
      dsimp only at hkk15 haa15
      have hbg15 := hkk15.big; have hcp15 := hkk15.cap; have hbh15 := haa15.big; have hcq15 := haa15.cap
      try rw [hd15] at hrem
      try simp only [List.all_cons, List.all_nil] at hrem
      refine rp0 hst6 hfr6 (.cons rfl (ob_fieldAddrO (off := 4) rfl Tryd.underlying25 rfl rfl Tryd.sizeOf22 rfl) <| .cons rfl (ob_load1 rfl hc1 Tryd.isAgg22 rfl) <| .cons rfl (ob_move rfl) <| .cons rfl (ob_indexAddr (k := y) rfl rfl Tryd.underlying22 Tryd.sizeOf25 rfl (by omega)) <| .cons rfl (ob_loadS' rfl hcv15 Tryd.isAgg25 Tryd.sizeOf25 rfl rfl) <| .cons rfl (ob_callE rfl (.cons rfl <| .nil) Tryd.call16 (fun w m hK => by have hle_ := KC.le hK; have hA := KC.agree hK; have h_t := h_t.mono hle_; have hkk_t := hkk_t.mono hle_; have haa_t := haa_t.mono hle_; have hc1 := hc1.mono hle_; have hcv15 := hcv15.mono hle_; have hv15 := hv15.mono hle_; have hkk15 := hkk15.mono hle_; have haa15 := haa15.mono hle_; exact ihk x15 (by assumption) hA hv15)) <| .cons rfl (ob_assign rfl) <| .nil) ?_
      intro a7 w7 m7 hst7 hle7 hk7
      have hfr7 := hk7.fr (T' := [(4, _), (1, _), (5, _)]) (.old rfl rfl <| .old rfl rfl <| .new rfl <| .nil)
      have hlh7 := hlh6.trans hle7
      clear hst6 hfr6 hk7
      refine hK14 _ _ ?_; clear hK14
      refine seq_any fun _ hK16 => ?_
      refine rp0 hst7 hfr7 (.cons rfl (ob_move rfl) <| .cons rfl (ob_not rfl) <| .nil) ?_
      intro a8 w8 m8 hst8 hle8 hk8
      have hfr8 := hk8.fr (T' := [(4, _), (1, _), (27, _)]) (.old rfl rfl <| .old rfl rfl <| .new rfl <| .nil)
      have hlh8 := hlh7.trans hle8
      clear hst7 hfr7 hk8
      refine hK16 _ _ ?_; clear hK16
      refine cond_any hfr8 rfl rfl (fun hb27 => ?_) (fun hb27 => ?_)
      · try simp only [nq1, nq2, nq3, nq4, nq5, nq6, nq7, nq8, nq9, u8_eq] at hb27
        refine seq_any fun _ hK17 => ?_
        refine rp0 hst8 hfr8 (.cons rfl (ob_assign rfl) <| .nil) ?_
        intro a9 w9 m9 hst9 hle9 hk9
        have hfr9 := hk9.fr (T' := [(4, _), (2, _)]) (.old rfl rfl <| .new rfl <| .nil)
        have hlh9 := hlh8.trans hle9
        clear hst8 hfr8 hk9
        refine hK17 _ _ ?_; clear hK17
        refine wp_ret ?_
        repeat (with_reducible first | refine then_ret ?_ | refine block_ret ?_)
        exact fn_ret hst9 hfr9 rfl (.tmp rfl <| .nil) (by refine congrArg Value.bool ?_; rw [hre2, hrem, hb27]; simp)
      · try simp only [nq1, nq2, nq3, nq4, nq5, nq6, nq7, nq8, nq9, u8_eq] at hb27
        refine wp_skip ?_
        refine hK13 _ _ ?_; clear hK13
        refine rp0 hst8 hfr8 (.cons rfl (ob_move rfl) <| .cons rfl (ob_add rfl rfl ⟨by omega, by omega⟩) <| .cons rfl (ob_assign rfl) <| .nil) ?_
        intro a9 w9 m9 hst9 hle9 hk9
        have hfr9 := hk9.fr (T' := [(1, _), (4, _)]) (.old rfl rfl <| .new rfl <| .nil)
        have hlh9 := hlh8.trans hle9
        clear hst8 hfr8 hk9
        exact ⟨y + 1, m9, by show t.kids.length - (y + 1) < t.kids.length - y; omega, ⟨hst9, hlh9, hfr9.sub (.cons rfl <| .cons rfl <| .nil), ⟨by show y + 1 ≤ t.kids.length; omega, by rw [hrem, hb27]; rfl⟩⟩⟩
    · try simp only [nq1, nq2, nq3, nq4, nq5, nq6, nq7, nq8, nq9, u8_eq] at hb17
      have hge : y = t.kids.length := by omega
      rw [List.drop_of_length_le (by omega), List.all_nil] at hrem
      have hkk9 := hrem
      clear hrem
      refine wp_exit ?_
      refine hK8 _ _ ?_; clear hK8
      refine seq_any fun _ hK19 => ?_
      refine seq_any fun _ hK20 => ?_
      refine rp0 hst6 hfr6 (.cons rfl (ob_assign rfl) <| .nil) ?_
      intro a7 w7 m7 hst7 hle7 hk7
      have hfr7 := hk7.fr (T' := [(4, _), (1, _), (6, _)]) (.old rfl rfl <| .old rfl rfl <| .new rfl <| .nil)
      replace h_t := h_t.mono hle7
      replace hkk_t := hkk_t.mono hle7
      replace haa_t := haa_t.mono hle7
      replace hc1 := hc1.mono hle7
      have hlh7 := hlh6.trans hle7
      clear hst6 hfr6 hk7
      refine hK20 _ _ ?_; clear hK20
      refine wp_block ?_
      have hlq21 := hlh7
      refine loop_any (T := [(4, _), (1, _)]) (fun (y : Nat) => ([(6, .int .i64 (y : Int))] : List (Nat × Value))) (fun _ => _) (fun (y : Nat) m => (y ≤ t.arms.length) ∧ ((armsOk t.kind 0 t.arms && t.arms.all fun a => rightC a.body) = (armsOk t.kind y (t.arms.drop y) && (t.arms.drop y).all fun a => rightC a.body))) (fun y => t.arms.length - y) (0) ⟨hst7, MLe.refl _, hfr7.sub (.cons rfl <| .cons rfl <| .cons rfl <| .nil), ⟨Nat.zero_le _, rfl⟩⟩ fun y a8 w8 m8 hh8 => ?_
      have hst8 := hh8.st; have hle8 := hh8.le; have hfr8 := hh8.fr; have hrel := hh8.rel; clear hh8
      replace h_t := h_t.mono hle8
      replace hkk_t := hkk_t.mono hle8
      replace haa_t := haa_t.mono hle8
      replace hc1 := hc1.mono hle8
      clear hst7 hfr7
      obtain ⟨hyn, hrem⟩ := hrel
      have hlh8 := hle8
      refine seq_any fun _ hK22 => ?_
      refine seq_any fun _ hK23 => ?_
      refine rp0 hst8 hfr8 (.cons rfl (ob_move rfl) <| .cons rfl (ob_fieldAddrO (off := 5) rfl Tryd.underlying25 rfl rfl Tryd.sizeOf23 rfl) <| .cons rfl (ob_load1 rfl hc1 Tryd.isAgg23 rfl) <| .cons rfl (ob_len rfl Tryd.underlying23) <| .cons rfl (ob_lss rfl rfl) <| .nil) ?_
      intro a9 w9 m9 hst9 hle9 hk9
      have hfr9 := hk9.fr (T' := [(6, _), (4, _), (1, _), (32, _)]) (.old rfl rfl <| .old rfl rfl <| .old rfl rfl <| .new rfl <| .nil)
      replace h_t := h_t.mono hle9
      replace hkk_t := hkk_t.mono hle9
      replace haa_t := haa_t.mono hle9
      replace hc1 := hc1.mono hle9
      have hlh9 := hlh8.trans hle9
      clear hst8 hfr8 hk9
      refine hK23 _ _ ?_; clear hK23
      refine cond_any hfr9 rfl rfl (fun hb32 => ?_) (fun hb32 => ?_)
      · try simp only [nq1, nq2, nq3, nq4, nq5, nq6, nq7, nq8, nq9, u8_eq] at hb32
        refine wp_skip ?_
        refine hK22 _ _ ?_; clear hK22
        refine seq_any fun _ hK24 => ?_
        refine wp_block ?_
        refine seq_any fun _ hK25 => ?_
        obtain ⟨p26, vs26, x26, ho26, hd26, hm_x26, ht26, hcv26, hl26, hv26⟩ := haa_t.nth (k := y) (by omega)
        cases ho26
        obtain ⟨oV26, cV26, bs26, rfl, hva26, hbd26⟩ := hv26.open_
        have hbv26 := hva26.big; have hcv26_ := hva26.cap
        obtain ⟨⟨oK26b, cK26b, oA26b, cA26b⟩, rfl, ⟨hik26b, hin26b⟩, hkk26b, haa26b⟩ := hbd26.open_
        dsimp only at hkk26b haa26b
        have hbg26b := hkk26b.big; have hcp26b := hkk26b.cap; have hbh26b := haa26b.big; have hcq26b := haa26b.cap
        try rw [hd26] at hrem
        try simp only [List.all_cons, List.all_nil, armsOk] at hrem
        have hat9 : armAt t y = armOk t.kind y x26 := by unfold armAt; rw [at_of_drop hd26]
        refine rp0 hst9 hfr9 (.cons rfl (ob_loadS' rfl hc1 Tryd.isAgg25 Tryd.sizeOf25 rfl rfl) <| .cons rfl (ob_move rfl) <| .cons rfl (ob_callE rfl (.cons rfl <| .cons rfl <| .nil) Tryd.call35 (fun w m hK => by have hle_ := KC.le hK; have hA := KC.agree hK; have h_t := h_t.mono hle_; exact arm_c (i := y) hA h_t (by omega))) <| .cons rfl (ob_assign rfl) <| .nil) ?_
        intro a10 w10 m10 hst10 hle10 hk10
        have hfr10 := hk10.fr (T' := [(6, _), (4, _), (1, _), (7, _)]) (.old rfl rfl <| .old rfl rfl <| .old rfl rfl <| .new rfl <| .nil)
        replace h_t := h_t.mono hle10
        replace hkk_t := hkk_t.mono hle10
        replace haa_t := haa_t.mono hle10
        replace hc1 := hc1.mono hle10
        replace hcv26 := hcv26.mono hle10
        replace hv26 := hv26.mono hle10
        replace hva26 := hva26.mono hle10
        replace hbd26 := hbd26.mono hle10
        replace hkk26b := hkk26b.mono hle10
        replace haa26b := haa26b.mono hle10
        have hlh10 := hlh9.trans hle10
        clear hst9 hfr9 hk10
        refine hK25 _ _ ?_; clear hK25
        refine seq_any fun _ hK27 => ?_
        refine seq_any fun _ hK28 => ?_
        refine rp0 hst10 hfr10 (.cons rfl (ob_move rfl) <| .cons rfl (ob_not rfl) <| .nil) ?_
        intro a11 w11 m11 hst11 hle11 hk11
        have hfr11 := hk11.fr (T' := [(6, _), (4, _), (1, _), (39, _)]) (.old rfl rfl <| .old rfl rfl <| .old rfl rfl <| .new rfl <| .nil)
        replace h_t := h_t.mono hle11
        replace hkk_t := hkk_t.mono hle11
        replace haa_t := haa_t.mono hle11
        replace hc1 := hc1.mono hle11
        replace hcv26 := hcv26.mono hle11
        replace hv26 := hv26.mono hle11
        replace hva26 := hva26.mono hle11
        replace hbd26 := hbd26.mono hle11
        replace hkk26b := hkk26b.mono hle11
        replace haa26b := haa26b.mono hle11
        have hlh11 := hlh10.trans hle11
        clear hst10 hfr10 hk11
        refine hK28 _ _ ?_; clear hK28
        refine cond_any hfr11 rfl rfl (fun hb39 => ?_) (fun hb39 => ?_)
        · try simp only [nq1, nq2, nq3, nq4, nq5, nq6, nq7, nq8, nq9, u8_eq] at hb39
          refine seq_any fun _ hK29 => ?_
          refine rp0 hst11 hfr11 (.cons rfl (ob_assign rfl) <| .nil) ?_
          intro a12 w12 m12 hst12 hle12 hk12
          have hfr12 := hk12.fr (T' := [(6, _), (4, _), (2, _)]) (.old rfl rfl <| .old rfl rfl <| .new rfl <| .nil)
          have hlh12 := hlh11.trans hle12
          clear hst11 hfr11 hk12
          refine hK29 _ _ ?_; clear hK29
          refine wp_ret ?_
          repeat (with_reducible first | refine then_ret ?_ | refine block_ret ?_)
          exact fn_ret hst12 hfr12 rfl (.tmp rfl <| .nil) (by refine congrArg Value.bool ?_; rw [hre2, hrem, ← hat9, hb39]; simp)
        · try simp only [nq1, nq2, nq3, nq4, nq5, nq6, nq7, nq8, nq9, u8_eq] at hb39
          refine wp_skip ?_
          refine hK27 _ _ ?_; clear hK27
          refine seq_any fun _ hK31 => ?_
          refine rp0 hst11 hfr11 (.cons rfl (ob_fieldAddrO (off := 5) rfl Tryd.underlying25 rfl rfl Tryd.sizeOf23 rfl) <| .cons rfl (ob_load1 rfl hc1 Tryd.isAgg23 rfl) <| .cons rfl (ob_move rfl) <| .cons rfl (ob_indexAddr (k := y) rfl rfl Tryd.underlying23 Tryd.sizeOf35 rfl (by omega)) <| .cons rfl (ob_fieldAddrO (off := 3) rfl Tryd.underlying35 rfl rfl Tryd.sizeOf25 rfl) <| .cons rfl (ob_loadS rfl hcv26 Tryd.isAgg25 Tryd.sizeOf25 rfl rfl) <| .cons rfl (ob_callE rfl (.cons rfl <| .nil) Tryd.call16 (fun w m hK => by have hle_ := KC.le hK; have hA := KC.agree hK; have h_t := h_t.mono hle_; have hkk_t := hkk_t.mono hle_; have haa_t := haa_t.mono hle_; have hc1 := hc1.mono hle_; have hcv26 := hcv26.mono hle_; have hv26 := hv26.mono hle_; have hva26 := hva26.mono hle_; have hbd26 := hbd26.mono hle_; have hkk26b := hkk26b.mono hle_; have haa26b := haa26b.mono hle_; exact iha x26 (by assumption) hA hbd26)) <| .cons rfl (ob_assign rfl) <| .nil) ?_
          intro a12 w12 m12 hst12 hle12 hk12
          have hfr12 := hk12.fr (T' := [(6, _), (4, _), (1, _), (8, _)]) (.old rfl rfl <| .old rfl rfl <| .old rfl rfl <| .new rfl <| .nil)
          have hlh12 := hlh11.trans hle12
          clear hst11 hfr11 hk12
          refine hK31 _ _ ?_; clear hK31
          refine seq_any fun _ hK32 => ?_
          refine rp0 hst12 hfr12 (.cons rfl (ob_move rfl) <| .cons rfl (ob_not rfl) <| .nil) ?_
          intro a13 w13 m13 hst13 hle13 hk13
          have hfr13 := hk13.fr (T' := [(6, _), (4, _), (1, _), (48, _)]) (.old rfl rfl <| .old rfl rfl <| .old rfl rfl <| .new rfl <| .nil)
          have hlh13 := hlh12.trans hle13
          clear hst12 hfr12 hk13
          refine hK32 _ _ ?_; clear hK32
          refine cond_any hfr13 rfl rfl (fun hb48 => ?_) (fun hb48 => ?_)
          · try simp only [nq1, nq2, nq3, nq4, nq5, nq6, nq7, nq8, nq9, u8_eq] at hb48
            refine seq_any fun _ hK33 => ?_
            refine rp0 hst13 hfr13 (.cons rfl (ob_assign rfl) <| .nil) ?_
            intro a14 w14 m14 hst14 hle14 hk14
            have hfr14 := hk14.fr (T' := [(6, _), (4, _), (2, _)]) (.old rfl rfl <| .old rfl rfl <| .new rfl <| .nil)
            have hlh14 := hlh13.trans hle14
            clear hst13 hfr13 hk14
            refine hK33 _ _ ?_; clear hK33
            refine wp_ret ?_
            repeat (with_reducible first | refine then_ret ?_ | refine block_ret ?_)
            exact fn_ret hst14 hfr14 rfl (.tmp rfl <| .nil) (by refine congrArg Value.bool ?_; rw [hre2, hrem, hb48]; simp)
          · try simp only [nq1, nq2, nq3, nq4, nq5, nq6, nq7, nq8, nq9, u8_eq] at hb48
            refine wp_skip ?_
            refine hK24 _ _ ?_; clear hK24
            refine rp0 hst13 hfr13 (.cons rfl (ob_move rfl) <| .cons rfl (ob_add rfl rfl ⟨by omega, by omega⟩) <| .cons rfl (ob_assign rfl) <| .nil) ?_
            intro a14 w14 m14 hst14 hle14 hk14
            have hfr14 := hk14.fr (T' := [(4, _), (1, _), (6, _)]) (.old rfl rfl <| .old rfl rfl <| .new rfl <| .nil)
            have hlh14 := hlh13.trans hle14
            clear hst13 hfr13 hk14
            exact ⟨y + 1, m14, by show t.arms.length - (y + 1) < t.arms.length - y; omega, ⟨hst14, hlh14, hfr14.sub (.cons rfl <| .cons rfl <| .cons rfl <| .nil), ⟨by show y + 1 ≤ t.arms.length; omega, by rw [hrem, ← hat9, hb39, hb48]; simp⟩⟩⟩
      · try simp only [nq1, nq2, nq3, nq4, nq5, nq6, nq7, nq8, nq9, u8_eq] at hb32
        have hge : y = t.arms.length := by omega
        rw [List.drop_of_length_le (by omega)] at hrem
        simp only [List.all_cons, List.all_nil, armsOk] at hrem
        refine wp_exit ?_
        refine hK19 _ _ ?_; clear hK19
        refine seq_any fun _ hK35 => ?_
        refine rp0 hst9 hfr9 (.cons rfl (ob_assign rfl) <| .nil) ?_
        intro a10 w10 m10 hst10 hle10 hk10
        have hfr10 := hk10.fr (T' := [(6, _), (4, _), (2, _)]) (.old rfl rfl <| .old rfl rfl <| .new rfl <| .nil)
        have hlh10 := hlh9.trans hle10
        clear hst9 hfr9 hk10
        refine hK35 _ _ ?_; clear hK35
        refine wp_ret ?_
        repeat (with_reducible first | refine then_ret ?_ | refine block_ret ?_)
        exact fn_ret hst10 hfr10 rfl (.tmp rfl <| .nil) (by refine congrArg Value.bool ?_; rw [hre2, hb12, hkk9, hrem]; simp)
theorem rright_c (t : Cd) : rright_G t := Cd.rec_ (p := rright_G) (fun t ihk iha => rright_s ihk iha) t

end Go.Proofs.YtlihpgjabohebaaDoor
