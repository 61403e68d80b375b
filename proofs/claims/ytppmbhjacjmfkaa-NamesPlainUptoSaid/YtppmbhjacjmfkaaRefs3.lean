/-
  Names: the document's answers. Conditions: those of each theorem.
-/
import Derived.Test.YtppmbhjacjmfkaaPlain3
namespace Go.Proofs.Ytppmbhjacjmfkaa
set_option linter.all false
set_option maxRecDepth 4000
open Go.RowKit
def quietT (t : Tm) : Bool := plainT t || calmS t.row.labels t.row.var
theorem calm_take {l : List Str} {rv : Int} (h : (l.all fun s => decide (s = consoleS)) = true) : calmS l rv = decide (rv = 0) := by
  unfold calmS
  rw [show (l.any fun s => !decide (s = consoleS)) = false by rw [List.any_eq_false]; intro s hs; have := List.all_eq_true.1 h s hs; simp_all]
  simp
theorem plainKs_start (b : Bool) (l : List Tm) : plainKs b l = plainKs (b && decide (0 = 0)) (l.drop 0) := by simp
theorem plainKs_step {b : Bool} {l : List Tm} {y : Nat} {x : Tm} (h : plainKs (b && decide (y = 0)) (l.drop y) = plainKs b l) (hd : l.drop y = x :: l.drop (y + 1)) (hx : (b && decide (y = 0) || plainT x) = true) : plainKs b l = plainKs (b && decide (y + 1 = 0)) (l.drop (y + 1)) := by
  rw [← h, hd, plainKs, hx, Bool.true_and]; simp
theorem plainKs_stop {b : Bool} {l : List Tm} {y : Nat} {x : Tm} (h : plainKs (b && decide (y = 0)) (l.drop y) = plainKs b l) (hd : l.drop y = x :: l.drop (y + 1)) (hx : (b && decide (y = 0) || plainT x) = false) : plainKs b l = false := by
  rw [← h, hd, plainKs, hx, Bool.false_and]
set_option maxHeartbeats 400000 in
theorem calm1_c {w : World} {m : Mem} {s : Str} (hA : Agree w m)  : FnV Try.prog 49 #[S s] w m (fun _ _ v => v = .bool (!decide (s = consoleS))) := by
  refine fn_enter (vs := [_]) Try.func49 rfl rfl rfl fun a0 hfr0 => ?_
  have hst0 := st_enter hA (loc_nil [] _ w m)
  have hM : MLe m m := MLe.refl m
  refine seq_any fun _ hK1 => ?_
  refine rp0 hst0 hfr0 (.cons rfl (ob_assign rfl) <| .nil) ?_
  intro a1 w1 m1 hst1 hle1 hk1
  have hfr1 := hk1.fr (T' := [(0, _)]) (.old rfl rfl <| .nil)
  clear hst0 hfr0 hk1
  refine hK1 _ _ ?_; clear hK1
  refine seq_any fun _ hK2 => ?_
  refine rp0 hst1 hfr1 (.cons rfl (ob_move rfl) <| .cons rfl (ob_sneq rfl rfl) <| .cons rfl (ob_assign rfl) <| .nil) ?_
  intro a2 w2 m2 hst2 hle2 hk2
  have hfr2 := hk2.fr (T' := [(2, _)]) (.new rfl <| .nil)
  clear hst1 hfr1 hk2
  refine hK2 _ _ ?_; clear hK2
  refine wp_ret ?_
  repeat (with_reducible first | refine then_ret ?_ | refine block_ret ?_)
  exact fn_ret hst2 hfr2 rfl (.tmp rfl <| .nil) (rfl)

set_option maxHeartbeats 400000 in
theorem calm_c {w : World} {m : Mem} {r : Rw} {vs_r : List Value} (hA : Agree w m) (h_r : RwR m r vs_r) : FnV Try.prog 37 #[.agg vs_r.toArray] w m (fun _ _ v => v = .bool (calmS r.labels r.var)) := by
  obtain ⟨o_r, c_r, rfl, hs_r, hr_r⟩ := h_r.open_
  have hbs_r := hs_r.big; have hcs_r := hs_r.cap
  refine fn_enter (vs := [_]) Try.func37 rfl rfl rfl fun a0 hfr0 => ?_
  have hst0 := st_enter hA (loc_nil [] _ w m)
  have hM : MLe m m := MLe.refl m
  refine seq_any fun _ hK1 => ?_
  refine rp0 hst0 hfr0 (.cons rfl (ob_box rfl rfl) <| .cons rfl (ob_assign rfl) <| .nil) ?_
  intro a1 w1 m1 hst1 hle1 hk1
  have hfr1 := hk1.fr (T' := []) (.nil)
  obtain ⟨g2, e2, hc1⟩ := hk1.ex 1 rfl
  replace hfr1 := hfr1.cons e2
  replace hs_r := hs_r.mono hle1
  clear hst0 hfr0 hk1
  refine hK1 _ _ ?_; clear hK1
  refine seq_any fun _ hK3 => ?_
  refine rp0 hst1 hfr1 (.cons rfl (ob_fieldAddrO (off := 1) rfl Try.underlying29 rfl rfl Try.sizeOf3 rfl) <| .cons rfl (ob_load1 rfl hc1 Try.isAgg3 rfl) <| .cons rfl (ob_eql rfl rfl) <| .cons rfl (ob_move rfl) <| .cons rfl (ob_fieldAddrO (off := 0) rfl Try.underlying29 rfl rfl Try.sizeOf27 rfl) <| .cons rfl (ob_load1 rfl hc1 Try.isAgg27 rfl) <| .cons rfl (ob_callE rfl (.cons rfl <| .cons rfl <| .nil) Try.call48 (fun w m hK => by have hle_ := KC.le hK; have hA := KC.agree hK; have hs_r := hs_r.mono hle_; exact containsfS_c (φ := fun s => !decide (s = consoleS)) (cap := []) hA hs_r Try.call49 (fun w m2 t hm ha ht => calm1_c ha))) <| .cons rfl (ob_not rfl) <| .cons rfl (ob_and rfl rfl rfl) <| .cons rfl (ob_assign rfl) <| .nil) ?_
  intro a2 w2 m2 hst2 hle2 hk2
  have hfr2 := hk2.fr (T' := [(2, _)]) (.new rfl <| .nil)
  clear hst1 hfr1 hk2
  refine hK3 _ _ ?_; clear hK3
  refine wp_ret ?_
  repeat (with_reducible first | refine then_ret ?_ | refine block_ret ?_)
  exact fn_ret hst2 hfr2 rfl (.tmp rfl <| .nil) (rfl)

set_option maxHeartbeats 400000 in
theorem quiet_c {w : World} {m : Mem} {t : Tm} {vs_t : List Value} (hA : Agree w m) (h_t : TmR m t vs_t) (hb : countM t ≤ 1000000000) : FnV Try.prog 25 #[.agg vs_t.toArray] w m (fun _ _ v => v = .bool (quietT t)) := by
  obtain ⟨⟨oK_t, cK_t, oA_t, cA_t, oR_t, cR_t, t0_t, t1_t, t2_t, t3_t, t4_t, t5_t, u0_t, u1_t, u2_t, u3_t, u4_t, u5_t⟩, rfl, hon_t, hkk_t, haa_t, hrr_t⟩ := h_t.open_
  dsimp only at hkk_t haa_t hrr_t
  have hbg_t := hkk_t.big; have hcp_t := hkk_t.cap; have hbh_t := haa_t.big; have hcq_t := haa_t.cap
  refine fn_enter (vs := [_]) Try.func25 rfl rfl rfl fun a0 hfr0 => ?_
  have hst0 := st_enter hA (loc_nil [] _ w m)
  have hM : MLe m m := MLe.refl m
  refine seq_any fun _ hK1 => ?_
  refine rp0 hst0 hfr0 (.cons rfl (ob_box rfl rfl) <| .cons rfl (ob_assign rfl) <| .nil) ?_
  intro a1 w1 m1 hst1 hle1 hk1
  have hfr1 := hk1.fr (T' := []) (.nil)
  obtain ⟨g2, e2, hc1⟩ := hk1.ex 1 rfl
  replace hfr1 := hfr1.cons e2
  replace h_t := h_t.mono hle1
  replace hrr_t := hrr_t.mono hle1
  clear hst0 hfr0 hk1
  refine hK1 _ _ ?_; clear hK1
  refine seq_any fun _ hK3 => ?_
  refine rp0 hst1 hfr1 (.cons rfl (ob_loadS' rfl hc1 Try.isAgg33 Try.sizeOf33 rfl rfl) <| .cons rfl (ob_callE rfl (.cons rfl <| .nil) Try.call23 (fun w m hK => by have hle_ := KC.le hK; have hA := KC.agree hK; have h_t := h_t.mono hle_; exact plain_c t hA h_t hb)) <| .cons rfl (ob_move rfl) <| .cons rfl (ob_fieldAddrO (off := 13) rfl Try.underlying33 rfl rfl Try.sizeOf29 rfl) <| .cons rfl (ob_loadS rfl hc1 Try.isAgg29 Try.sizeOf29 rfl rfl) <| .cons rfl (ob_callE rfl (.cons rfl <| .nil) Try.call37 (fun w m hK => by have hle_ := KC.le hK; have hA := KC.agree hK; have hrr_t := hrr_t.mono hle_; exact calm_c (r := t.row) hA hrr_t)) <| .cons rfl (ob_or rfl rfl rfl) <| .cons rfl (ob_assign rfl) <| .nil) ?_
  intro a2 w2 m2 hst2 hle2 hk2
  have hfr2 := hk2.fr (T' := [(2, _)]) (.new rfl <| .nil)
  clear hst1 hfr1 hk2
  refine hK3 _ _ ?_; clear hK3
  refine wp_ret ?_
  repeat (with_reducible first | refine then_ret ?_ | refine block_ret ?_)
  exact fn_ret hst2 hfr2 rfl (.tmp rfl <| .nil) (rfl)

set_option maxHeartbeats 400000 in
theorem calm6_c {w : World} {m : Mem} {r : Rw} {vs_r : List Value} (hA : Agree w m) (h_r : RwR m r vs_r) : FnV Try.prog 38 #[.agg vs_r.toArray] w m (fun _ _ v => v = .bool (calmS r.labels r.var)) := by
  obtain ⟨o_r, c_r, rfl, hs_r, hr_r⟩ := h_r.open_
  have hbs_r := hs_r.big; have hcs_r := hs_r.cap
  refine fn_enter (vs := [_]) Try.func38 rfl rfl rfl fun a0 hfr0 => ?_
  have hst0 := st_enter hA (loc_nil [] _ w m)
  have hM : MLe m m := MLe.refl m
  refine seq_any fun _ hK1 => ?_
  refine rp0 hst0 hfr0 (.cons rfl (ob_box rfl rfl) <| .cons rfl (ob_assign rfl) <| .nil) ?_
  intro a1 w1 m1 hst1 hle1 hk1
  have hfr1 := hk1.fr (T' := []) (.nil)
  obtain ⟨g2, e2, hc1⟩ := hk1.ex 1 rfl
  replace hfr1 := hfr1.cons e2
  replace hs_r := hs_r.mono hle1
  clear hst0 hfr0 hk1
  refine hK1 _ _ ?_; clear hK1
  refine seq_any fun _ hK3 => ?_
  refine seq_any fun _ hK4 => ?_
  refine rp0 hst1 hfr1 (.cons rfl (ob_assign rfl) <| .nil) ?_
  intro a2 w2 m2 hst2 hle2 hk2
  have hfr2 := hk2.fr (T' := [(1, _), (3, _)]) (.old rfl rfl <| .new rfl <| .nil)
  replace hs_r := hs_r.mono hle2
  replace hc1 := hc1.mono hle2
  clear hst1 hfr1 hk2
  refine hK4 _ _ ?_; clear hK4
  refine wp_block ?_
  refine loop_any (T := [(1, _)]) (fun (y : Nat) => ([(3, .int .i64 (y : Int))] : List (Nat × Value))) (fun _ => _) (fun (y : Nat) m => (y ≤ r.labels.length) ∧ (((r.labels.take y).all fun s => decide (s = consoleS)) = true)) (fun y => r.labels.length - y) (0) ⟨hst2, MLe.refl _, hfr2.sub (.cons rfl <| .cons rfl <| .nil), ⟨Nat.zero_le _, by simp⟩⟩ fun y a3 w3 m3 hh3 => ?_
  have hst3 := hh3.st; have hle3 := hh3.le; have hfr3 := hh3.fr; have hrel := hh3.rel; clear hh3
  replace hs_r := hs_r.mono hle3
  replace hc1 := hc1.mono hle3
  clear hst2 hfr2
  obtain ⟨hyn, hal⟩ := hrel
  have hlh3 := hle3
  refine seq_any fun _ hK6 => ?_
  refine seq_any fun _ hK7 => ?_
  refine rp0 hst3 hfr3 (.cons rfl (ob_move rfl) <| .cons rfl (ob_fieldAddrO (off := 0) rfl Try.underlying29 rfl rfl Try.sizeOf27 rfl) <| .cons rfl (ob_load1 rfl hc1 Try.isAgg27 rfl) <| .cons rfl (ob_len rfl Try.underlying27) <| .cons rfl (ob_lss rfl rfl) <| .nil) ?_
  intro a4 w4 m4 hst4 hle4 hk4
  have hfr4 := hk4.fr (T' := [(3, _), (1, _), (8, _)]) (.old rfl rfl <| .old rfl rfl <| .new rfl <| .nil)
  replace hs_r := hs_r.mono hle4
  replace hc1 := hc1.mono hle4
  have hlh4 := hlh3.trans hle4
  clear hst3 hfr3 hk4
  refine hK7 _ _ ?_; clear hK7
  refine cond_any hfr4 rfl rfl (fun hb8 => ?_) (fun hb8 => ?_)
  · try simp only [nq1, nq2, nq3, nq4, nq5, nq6, nq7, nq8, nq9, u8_eq] at hb8
    refine wp_skip ?_
    refine hK6 _ _ ?_; clear hK6
    refine seq_any fun _ hK8 => ?_
    refine wp_block ?_
    refine seq_any fun _ hK9 => ?_
    obtain ⟨p10, vs10, x10, ho10, hd10, hm_x10, ht10, hcv10, hl10, hv10⟩ := hs_r.nth (k := y) (by omega)
    cases ho10
    subst hv10
    refine rp0 hst4 hfr4 (.cons rfl (ob_fieldAddrO (off := 0) rfl Try.underlying29 rfl rfl Try.sizeOf27 rfl) <| .cons rfl (ob_load1 rfl hc1 Try.isAgg27 rfl) <| .cons rfl (ob_move rfl) <| .cons rfl (ob_indexAddr (k := y) rfl rfl Try.underlying27 Try.sizeOf9 rfl (by omega)) <| .cons rfl (ob_load1' rfl hcv10 Try.isAgg9 rfl) <| .cons rfl (ob_sneq rfl rfl) <| .nil) ?_
    intro a5 w5 m5 hst5 hle5 hk5
    have hfr5 := hk5.fr (T' := [(3, _), (1, _), (16, _)]) (.old rfl rfl <| .old rfl rfl <| .new rfl <| .nil)
    have hlh5 := hlh4.trans hle5
    clear hst4 hfr4 hk5
    refine hK9 _ _ ?_; clear hK9
    refine cond_any hfr5 rfl rfl (fun hb16 => ?_) (fun hb16 => ?_)
    · try simp only [nq1, nq2, nq3, nq4, nq5, nq6, nq7, nq8, nq9, u8_eq] at hb16
      have hbad : calmS r.labels r.var = false := by unfold calmS; rw [show (r.labels.any fun s => !decide (s = consoleS)) = true from List.any_eq_true.2 ⟨_, hm_x10, by rw [decide_eq_false (show ¬ x10 = consoleS from hb16)]; rfl⟩]; simp
      refine seq_any fun _ hK11 => ?_
      refine rp0 hst5 hfr5 (.cons rfl (ob_assign rfl) <| .nil) ?_
      intro a6 w6 m6 hst6 hle6 hk6
      have hfr6 := hk6.fr (T' := [(3, _), (2, _)]) (.old rfl rfl <| .new rfl <| .nil)
      have hlh6 := hlh5.trans hle6
      clear hst5 hfr5 hk6
      refine hK11 _ _ ?_; clear hK11
      refine wp_ret ?_
      repeat (with_reducible first | refine then_ret ?_ | refine block_ret ?_)
      exact fn_ret hst6 hfr6 rfl (.tmp rfl <| .nil) (by refine congrArg Value.bool ?_; rw [hbad])
    · try simp only [nq1, nq2, nq3, nq4, nq5, nq6, nq7, nq8, nq9, u8_eq] at hb16
      refine wp_skip ?_
      refine hK8 _ _ ?_; clear hK8
      refine rp0 hst5 hfr5 (.cons rfl (ob_move rfl) <| .cons rfl (ob_add rfl rfl ⟨by omega, by omega⟩) <| .cons rfl (ob_assign rfl) <| .nil) ?_
      intro a6 w6 m6 hst6 hle6 hk6
      have hfr6 := hk6.fr (T' := [(1, _), (3, _)]) (.old rfl rfl <| .new rfl <| .nil)
      have hlh6 := hlh5.trans hle6
      clear hst5 hfr5 hk6
      exact ⟨y + 1, m6, by show r.labels.length - (y + 1) < r.labels.length - y; omega, ⟨hst6, hlh6, hfr6.sub (.cons rfl <| .cons rfl <| .nil), ⟨by show y + 1 ≤ r.labels.length; omega, by rw [ht10, List.all_append, hal]; simp [consoleS, hb16]⟩⟩⟩
  · try simp only [nq1, nq2, nq3, nq4, nq5, nq6, nq7, nq8, nq9, u8_eq] at hb8
    have hge : y = r.labels.length := by omega
    rw [List.take_of_length_le (by omega)] at hal
    refine wp_exit ?_
    refine hK3 _ _ ?_; clear hK3
    refine seq_any fun _ hK13 => ?_
    refine rp0 hst4 hfr4 (.cons rfl (ob_fieldAddrO (off := 1) rfl Try.underlying29 rfl rfl Try.sizeOf3 rfl) <| .cons rfl (ob_load1 rfl hc1 Try.isAgg3 rfl) <| .cons rfl (ob_eql rfl rfl) <| .cons rfl (ob_assign rfl) <| .nil) ?_
    intro a5 w5 m5 hst5 hle5 hk5
    have hfr5 := hk5.fr (T' := [(3, _), (2, _)]) (.old rfl rfl <| .new rfl <| .nil)
    have hlh5 := hlh4.trans hle5
    clear hst4 hfr4 hk5
    refine hK13 _ _ ?_; clear hK13
    refine wp_ret ?_
    repeat (with_reducible first | refine then_ret ?_ | refine block_ret ?_)
    exact fn_ret hst5 hfr5 rfl (.tmp rfl <| .nil) (by refine congrArg Value.bool ?_; rw [calm_take hal])

abbrev value6_G (t : Tm) : Prop := ∀ {w : World} {m : Mem} {vs_t : List Value} (hA : Agree w m) (h_t : TmR m t vs_t), FnV Try.prog 22 #[.agg vs_t.toArray] w m (fun _ _ v => v = .bool (valueT t))
set_option maxHeartbeats 400000 in
theorem value6_s {t : Tm} (ihk : ∀ u ∈ t.kids, value6_G u) (iha : ∀ a ∈ t.arms, value6_G a.body) {w : World} {m : Mem} {vs_t : List Value} (hA : Agree w m) (h_t : TmR m t vs_t) : FnV Try.prog 22 #[.agg vs_t.toArray] w m (fun _ _ v => v = .bool (valueT t)) := by
  obtain ⟨⟨oK_t, cK_t, oA_t, cA_t, oR_t, cR_t, t0_t, t1_t, t2_t, t3_t, t4_t, t5_t, u0_t, u1_t, u2_t, u3_t, u4_t, u5_t⟩, rfl, hon_t, hkk_t, haa_t, hrr_t⟩ := h_t.open_
  dsimp only at hkk_t haa_t hrr_t
  have hbg_t := hkk_t.big; have hcp_t := hkk_t.cap; have hbh_t := haa_t.big; have hcq_t := haa_t.cap
  refine fn_enter (vs := [_]) Try.func22 rfl rfl rfl fun a0 hfr0 => ?_
  have hst0 := st_enter hA (loc_nil [] _ w m)
  have hM : MLe m m := MLe.refl m
  have hve := valueT_eq t
  refine seq_any fun _ hK1 => ?_
  refine rp0 hst0 hfr0 (.cons rfl (ob_box rfl rfl) <| .cons rfl (ob_assign rfl) <| .nil) ?_
  intro a1 w1 m1 hst1 hle1 hk1
  have hfr1 := hk1.fr (T' := []) (.nil)
  obtain ⟨g2, e2, hc1⟩ := hk1.ex 1 rfl
  replace hfr1 := hfr1.cons e2
  replace hkk_t := hkk_t.mono hle1
  clear hst0 hfr0 hk1
  refine hK1 _ _ ?_; clear hK1
  refine seq_any fun _ hK3 => ?_
  refine seq_any fun _ hK4 => ?_
  refine rp0 hst1 hfr1 (.cons rfl (ob_fieldAddrO (off := 0) rfl Try.underlying33 rfl rfl Try.sizeOf3 rfl) <| .cons rfl (ob_load1 rfl hc1 Try.isAgg3 rfl) <| .nil) ?_
  intro a2 w2 m2 hst2 hle2 hk2
  have hfr2 := hk2.fr (T' := [(1, _), (6, _)]) (.old rfl rfl <| .new rfl <| .nil)
  replace hkk_t := hkk_t.mono hle2
  replace hc1 := hc1.mono hle2
  clear hst1 hfr1 hk2
  refine hK4 _ _ ?_; clear hK4
  refine wp_block ?_
  refine seq_any fun _ hK5 => ?_
  refine seq_any fun _ hK6 => ?_
  refine rp0 hst2 hfr2 (.cons rfl (ob_eql rfl rfl) <| .cons rfl (ob_assign rfl) <| .nil) ?_
  intro a3 w3 m3 hst3 hle3 hk3
  have hfr3 := hk3.fr (T' := [(1, _), (6, _), (7, _)]) (.old rfl rfl <| .old rfl rfl <| .new rfl <| .nil)
  replace hkk_t := hkk_t.mono hle3
  replace hc1 := hc1.mono hle3
  clear hst2 hfr2 hk3
  refine hK6 _ _ ?_; clear hK6
  refine cond_any hfr3 rfl rfl (fun hb7 => ?_) (fun hb7 => ?_)
  · try simp only [nq1, nq2, nq3, nq4, nq5, nq6, nq7, nq8, nq9, u8_eq] at hb7
    refine wp_skip ?_
    refine hK5 _ _ ?_; clear hK5
    refine cond_any hfr3 rfl rfl (fun hb7x => ?_) (fun hb7x => ?_)
    · try simp only [nq1, nq2, nq3, nq4, nq5, nq6, nq7, nq8, nq9, u8_eq] at hb7x
      refine seq_any fun _ hK7 => ?_
      refine rp0 hst3 hfr3 (.cons rfl (ob_assign rfl) <| .nil) ?_
      intro a4 w4 m4 hst4 hle4 hk4
      have hfr4 := hk4.fr (T' := [(2, _)]) (.new rfl <| .nil)
      clear hst3 hfr3 hk4
      refine hK7 _ _ ?_; clear hK7
      refine wp_ret ?_
      repeat (with_reducible first | refine then_ret ?_ | refine block_ret ?_)
      exact fn_ret hst4 hfr4 rfl (.tmp rfl <| .nil) (by refine congrArg Value.bool ?_; rw [hve]; simp_all)
    · exfalso; try simp only [nq1, nq2, nq3, nq4, nq5, nq6, nq7, nq8, nq9, u8_eq] at hb7x
      first | exact absurd hb7x hb7 | exact absurd hb7 hb7x | simp_all
  · try simp only [nq1, nq2, nq3, nq4, nq5, nq6, nq7, nq8, nq9, u8_eq] at hb7
    refine seq_any fun _ hK9 => ?_
    refine rp0 hst3 hfr3 (.cons rfl (ob_eql rfl rfl) <| .cons rfl (ob_assign rfl) <| .nil) ?_
    intro a4 w4 m4 hst4 hle4 hk4
    have hfr4 := hk4.fr (T' := [(1, _), (6, _), (7, _)]) (.old rfl rfl <| .old rfl rfl <| .new rfl <| .nil)
    replace hkk_t := hkk_t.mono hle4
    replace hc1 := hc1.mono hle4
    clear hst3 hfr3 hk4
    refine hK9 _ _ ?_; clear hK9
    refine cond_any hfr4 rfl rfl (fun hb7 => ?_) (fun hb7 => ?_)
    · try simp only [nq1, nq2, nq3, nq4, nq5, nq6, nq7, nq8, nq9, u8_eq] at hb7
      refine wp_skip ?_
      refine hK5 _ _ ?_; clear hK5
      refine cond_any hfr4 rfl rfl (fun hb7x => ?_) (fun hb7x => ?_)
      · try simp only [nq1, nq2, nq3, nq4, nq5, nq6, nq7, nq8, nq9, u8_eq] at hb7x
        refine seq_any fun _ hK10 => ?_
        refine rp0 hst4 hfr4 (.cons rfl (ob_assign rfl) <| .nil) ?_
        intro a5 w5 m5 hst5 hle5 hk5
        have hfr5 := hk5.fr (T' := [(2, _)]) (.new rfl <| .nil)
        clear hst4 hfr4 hk5
        refine hK10 _ _ ?_; clear hK10
        refine wp_ret ?_
        repeat (with_reducible first | refine then_ret ?_ | refine block_ret ?_)
        exact fn_ret hst5 hfr5 rfl (.tmp rfl <| .nil) (by refine congrArg Value.bool ?_; rw [hve]; simp_all)
      · exfalso; try simp only [nq1, nq2, nq3, nq4, nq5, nq6, nq7, nq8, nq9, u8_eq] at hb7x
        first | exact absurd hb7x hb7 | exact absurd hb7 hb7x | simp_all
    · try simp only [nq1, nq2, nq3, nq4, nq5, nq6, nq7, nq8, nq9, u8_eq] at hb7
      refine seq_any fun _ hK12 => ?_
      refine rp0 hst4 hfr4 (.cons rfl (ob_eql rfl rfl) <| .cons rfl (ob_assign rfl) <| .nil) ?_
      intro a5 w5 m5 hst5 hle5 hk5
      have hfr5 := hk5.fr (T' := [(1, _), (6, _), (7, _)]) (.old rfl rfl <| .old rfl rfl <| .new rfl <| .nil)
      replace hkk_t := hkk_t.mono hle5
      replace hc1 := hc1.mono hle5
      clear hst4 hfr4 hk5
      refine hK12 _ _ ?_; clear hK12
      refine cond_any hfr5 rfl rfl (fun hb7 => ?_) (fun hb7 => ?_)
      · try simp only [nq1, nq2, nq3, nq4, nq5, nq6, nq7, nq8, nq9, u8_eq] at hb7
        refine wp_skip ?_
        refine hK5 _ _ ?_; clear hK5
        refine cond_any hfr5 rfl rfl (fun hb7x => ?_) (fun hb7x => ?_)
        · try simp only [nq1, nq2, nq3, nq4, nq5, nq6, nq7, nq8, nq9, u8_eq] at hb7x
          refine seq_any fun _ hK13 => ?_
          refine rp0 hst5 hfr5 (.cons rfl (ob_assign rfl) <| .nil) ?_
          intro a6 w6 m6 hst6 hle6 hk6
          have hfr6 := hk6.fr (T' := [(2, _)]) (.new rfl <| .nil)
          clear hst5 hfr5 hk6
          refine hK13 _ _ ?_; clear hK13
          refine wp_ret ?_
          repeat (with_reducible first | refine then_ret ?_ | refine block_ret ?_)
          exact fn_ret hst6 hfr6 rfl (.tmp rfl <| .nil) (by refine congrArg Value.bool ?_; rw [hve]; simp_all)
        · exfalso; try simp only [nq1, nq2, nq3, nq4, nq5, nq6, nq7, nq8, nq9, u8_eq] at hb7x
          first | exact absurd hb7x hb7 | exact absurd hb7 hb7x | simp_all
      · try simp only [nq1, nq2, nq3, nq4, nq5, nq6, nq7, nq8, nq9, u8_eq] at hb7
        refine seq_any fun _ hK15 => ?_
        refine rp0 hst5 hfr5 (.cons rfl (ob_eql rfl rfl) <| .cons rfl (ob_assign rfl) <| .nil) ?_
        intro a6 w6 m6 hst6 hle6 hk6
        have hfr6 := hk6.fr (T' := [(1, _), (6, _), (7, _)]) (.old rfl rfl <| .old rfl rfl <| .new rfl <| .nil)
        replace hkk_t := hkk_t.mono hle6
        replace hc1 := hc1.mono hle6
        clear hst5 hfr5 hk6
        refine hK15 _ _ ?_; clear hK15
        refine cond_any hfr6 rfl rfl (fun hb7 => ?_) (fun hb7 => ?_)
        · try simp only [nq1, nq2, nq3, nq4, nq5, nq6, nq7, nq8, nq9, u8_eq] at hb7
          refine wp_skip ?_
          refine hK5 _ _ ?_; clear hK5
          refine cond_any hfr6 rfl rfl (fun hb7x => ?_) (fun hb7x => ?_)
          · try simp only [nq1, nq2, nq3, nq4, nq5, nq6, nq7, nq8, nq9, u8_eq] at hb7x
            refine seq_any fun _ hK16 => ?_
            refine rp0 hst6 hfr6 (.cons rfl (ob_assign rfl) <| .nil) ?_
            intro a7 w7 m7 hst7 hle7 hk7
            have hfr7 := hk7.fr (T' := [(2, _)]) (.new rfl <| .nil)
            clear hst6 hfr6 hk7
            refine hK16 _ _ ?_; clear hK16
            refine wp_ret ?_
            repeat (with_reducible first | refine then_ret ?_ | refine block_ret ?_)
            exact fn_ret hst7 hfr7 rfl (.tmp rfl <| .nil) (by refine congrArg Value.bool ?_; rw [hve]; simp_all)
          · exfalso; try simp only [nq1, nq2, nq3, nq4, nq5, nq6, nq7, nq8, nq9, u8_eq] at hb7x
            first | exact absurd hb7x hb7 | exact absurd hb7 hb7x | simp_all
        · try simp only [nq1, nq2, nq3, nq4, nq5, nq6, nq7, nq8, nq9, u8_eq] at hb7
          refine rp0 hst6 hfr6 (.cons rfl (ob_eql rfl rfl) <| .cons rfl (ob_assign rfl) <| .nil) ?_
          intro a7 w7 m7 hst7 hle7 hk7
          have hfr7 := hk7.fr (T' := [(1, _), (6, _), (7, _)]) (.old rfl rfl <| .old rfl rfl <| .new rfl <| .nil)
          replace hkk_t := hkk_t.mono hle7
          replace hc1 := hc1.mono hle7
          clear hst6 hfr6 hk7
          refine hK5 _ _ ?_; clear hK5
          refine cond_any hfr7 rfl rfl (fun hb7 => ?_) (fun hb7 => ?_)
          · try simp only [nq1, nq2, nq3, nq4, nq5, nq6, nq7, nq8, nq9, u8_eq] at hb7
            refine seq_any fun _ hK18 => ?_
            refine rp0 hst7 hfr7 (.cons rfl (ob_assign rfl) <| .nil) ?_
            intro a8 w8 m8 hst8 hle8 hk8
            have hfr8 := hk8.fr (T' := [(2, _)]) (.new rfl <| .nil)
            clear hst7 hfr7 hk8
            refine hK18 _ _ ?_; clear hK18
            refine wp_ret ?_
            repeat (with_reducible first | refine then_ret ?_ | refine block_ret ?_)
            exact fn_ret hst8 hfr8 rfl (.tmp rfl <| .nil) (by refine congrArg Value.bool ?_; rw [hve]; simp_all)
          · try simp only [nq1, nq2, nq3, nq4, nq5, nq6, nq7, nq8, nq9, u8_eq] at hb7
            refine seq_any fun _ hK20 => ?_
            refine rp0 hst7 hfr7 (.cons rfl (ob_eql rfl rfl) <| .cons rfl (ob_assign rfl) <| .nil) ?_
            intro a8 w8 m8 hst8 hle8 hk8
            have hfr8 := hk8.fr (T' := [(1, _), (13, _)]) (.old rfl rfl <| .new rfl <| .nil)
            replace hkk_t := hkk_t.mono hle8
            replace hc1 := hc1.mono hle8
            clear hst7 hfr7 hk8
            refine hK20 _ _ ?_; clear hK20
            refine cond_any hfr8 rfl rfl (fun hb13 => ?_) (fun hb13 => ?_)
            · try simp only [nq1, nq2, nq3, nq4, nq5, nq6, nq7, nq8, nq9, u8_eq] at hb13
              refine seq_any fun _ hK21 => ?_
              refine seq_any fun _ hK22 => ?_
              refine rp0 hst8 hfr8 (.cons rfl (ob_assign rfl) <| .nil) ?_
              intro a9 w9 m9 hst9 hle9 hk9
              have hfr9 := hk9.fr (T' := [(1, _), (3, _)]) (.old rfl rfl <| .new rfl <| .nil)
              replace hkk_t := hkk_t.mono hle9
              replace hc1 := hc1.mono hle9
              clear hst8 hfr8 hk9
              refine hK22 _ _ ?_; clear hK22
              refine wp_block ?_
              refine loop_any (T := [(1, _)]) (fun (y : Nat) => ([(3, .int .i64 (y : Int))] : List (Nat × Value))) (fun _ => _) (fun (y : Nat) m => (y ≤ t.kids.length) ∧ (valueKs t.kids = valueKs (t.kids.drop y))) (fun y => t.kids.length - y) (0) ⟨hst9, MLe.refl _, hfr9.sub (.cons rfl <| .cons rfl <| .nil), ⟨Nat.zero_le _, by rw [List.drop_zero]⟩⟩ fun y a10 w10 m10 hh10 => ?_
              have hst10 := hh10.st; have hle10 := hh10.le; have hfr10 := hh10.fr; have hrel := hh10.rel; clear hh10
              replace hkk_t := hkk_t.mono hle10
              replace hc1 := hc1.mono hle10
              clear hst9 hfr9
              obtain ⟨hyn, hrm⟩ := hrel
              have hlh10 := hle10
              refine seq_any fun _ hK24 => ?_
              refine seq_any fun _ hK25 => ?_
              refine rp0 hst10 hfr10 (.cons rfl (ob_move rfl) <| .cons rfl (ob_fieldAddrO (off := 5) rfl Try.underlying33 rfl rfl Try.sizeOf24 rfl) <| .cons rfl (ob_load1 rfl hc1 Try.isAgg24 rfl) <| .cons rfl (ob_len rfl Try.underlying24) <| .cons rfl (ob_lss rfl rfl) <| .nil) ?_
              intro a11 w11 m11 hst11 hle11 hk11
              have hfr11 := hk11.fr (T' := [(3, _), (1, _), (19, _)]) (.old rfl rfl <| .old rfl rfl <| .new rfl <| .nil)
              replace hkk_t := hkk_t.mono hle11
              replace hc1 := hc1.mono hle11
              have hlh11 := hlh10.trans hle11
              clear hst10 hfr10 hk11
              refine hK25 _ _ ?_; clear hK25
              refine cond_any hfr11 rfl rfl (fun hb19 => ?_) (fun hb19 => ?_)
              · try simp only [nq1, nq2, nq3, nq4, nq5, nq6, nq7, nq8, nq9, u8_eq] at hb19
                refine wp_skip ?_
                refine hK24 _ _ ?_; clear hK24
                refine seq_any fun _ hK26 => ?_
                refine wp_block ?_
                refine seq_any fun _ hK27 => ?_
                obtain ⟨p28, vs28, x28, ho28, hd28, hm_x28, ht28, hcv28, hl28, hv28⟩ := hkk_t.nth (k := y) (by omega)
                cases ho28
                obtain ⟨⟨oK28, cK28, oA28, cA28, oR28, cR28, t028, t128, t228, t328, t428, t528, u028, u128, u228, u328, u428, u528⟩, rfl, hon28, hkk28, haa28, hrr28⟩ := hv28.open_
                dsimp only at hkk28 haa28 hrr28
                have hbg28 := hkk28.big; have hcp28 := hkk28.cap; have hbh28 := haa28.big; have hcq28 := haa28.cap
                refine rp0 hst11 hfr11 (.cons rfl (ob_fieldAddrO (off := 5) rfl Try.underlying33 rfl rfl Try.sizeOf24 rfl) <| .cons rfl (ob_load1 rfl hc1 Try.isAgg24 rfl) <| .cons rfl (ob_move rfl) <| .cons rfl (ob_indexAddr (k := y) rfl rfl Try.underlying24 Try.sizeOf33 rfl (by omega)) <| .cons rfl (ob_loadS' rfl hcv28 Try.isAgg33 Try.sizeOf33 rfl rfl) <| .cons rfl (ob_callE rfl (.cons rfl <| .nil) Try.call22 (fun w m hK => by have hle_ := KC.le hK; have hA := KC.agree hK; have hv28 := hv28.mono hle_; exact ihk _ hm_x28 hA hv28)) <| .cons rfl (ob_assign rfl) <| .nil) ?_
                intro a12 w12 m12 hst12 hle12 hk12
                have hfr12 := hk12.fr (T' := [(3, _), (1, _), (4, _)]) (.old rfl rfl <| .old rfl rfl <| .new rfl <| .nil)
                have hlh12 := hlh11.trans hle12
                clear hst11 hfr11 hk12
                refine hK27 _ _ ?_; clear hK27
                refine seq_any fun _ hK29 => ?_
                refine rp0 hst12 hfr12 (.cons rfl (ob_move rfl) <| .cons rfl (ob_not rfl) <| .nil) ?_
                intro a13 w13 m13 hst13 hle13 hk13
                have hfr13 := hk13.fr (T' := [(3, _), (1, _), (29, _)]) (.old rfl rfl <| .old rfl rfl <| .new rfl <| .nil)
                have hlh13 := hlh12.trans hle13
                clear hst12 hfr12 hk13
                refine hK29 _ _ ?_; clear hK29
                refine cond_any hfr13 rfl rfl (fun hb29 => ?_) (fun hb29 => ?_)
                · try simp only [nq1, nq2, nq3, nq4, nq5, nq6, nq7, nq8, nq9, u8_eq] at hb29
                  have hbad : valueKs t.kids = false := by rw [hrm, hd28, valueKs, hb29, Bool.false_and]
                  refine seq_any fun _ hK30 => ?_
                  refine rp0 hst13 hfr13 (.cons rfl (ob_assign rfl) <| .nil) ?_
                  intro a14 w14 m14 hst14 hle14 hk14
                  have hfr14 := hk14.fr (T' := [(3, _), (2, _)]) (.old rfl rfl <| .new rfl <| .nil)
                  have hlh14 := hlh13.trans hle14
                  clear hst13 hfr13 hk14
                  refine hK30 _ _ ?_; clear hK30
                  refine wp_ret ?_
                  repeat (with_reducible first | refine then_ret ?_ | refine block_ret ?_)
                  exact fn_ret hst14 hfr14 rfl (.tmp rfl <| .nil) (by refine congrArg Value.bool ?_; rw [hve, hbad]; simp_all)
                · try simp only [nq1, nq2, nq3, nq4, nq5, nq6, nq7, nq8, nq9, u8_eq] at hb29
                  refine wp_skip ?_
                  refine hK26 _ _ ?_; clear hK26
                  refine rp0 hst13 hfr13 (.cons rfl (ob_move rfl) <| .cons rfl (ob_add rfl rfl ⟨by omega, by omega⟩) <| .cons rfl (ob_assign rfl) <| .nil) ?_
                  intro a14 w14 m14 hst14 hle14 hk14
                  have hfr14 := hk14.fr (T' := [(1, _), (3, _)]) (.old rfl rfl <| .new rfl <| .nil)
                  have hlh14 := hlh13.trans hle14
                  clear hst13 hfr13 hk14
                  exact ⟨y + 1, m14, by show t.kids.length - (y + 1) < t.kids.length - y; omega, ⟨hst14, hlh14, hfr14.sub (.cons rfl <| .cons rfl <| .nil), ⟨by show y + 1 ≤ t.kids.length; omega, by rw [hrm, hd28, valueKs, hb29, Bool.true_and]⟩⟩⟩
              · try simp only [nq1, nq2, nq3, nq4, nq5, nq6, nq7, nq8, nq9, u8_eq] at hb19
                have hge : y = t.kids.length := by omega
                rw [List.drop_of_length_le (by omega), valueKs] at hrm
                refine wp_exit ?_
                refine hK21 _ _ ?_; clear hK21
                refine seq_any fun _ hK32 => ?_
                refine rp0 hst11 hfr11 (.cons rfl (ob_assign rfl) <| .nil) ?_
                intro a12 w12 m12 hst12 hle12 hk12
                have hfr12 := hk12.fr (T' := [(3, _), (2, _)]) (.old rfl rfl <| .new rfl <| .nil)
                have hlh12 := hlh11.trans hle12
                clear hst11 hfr11 hk12
                refine hK32 _ _ ?_; clear hK32
                refine wp_ret ?_
                repeat (with_reducible first | refine then_ret ?_ | refine block_ret ?_)
                exact fn_ret hst12 hfr12 rfl (.tmp rfl <| .nil) (by refine congrArg Value.bool ?_; rw [hve, hrm]; simp_all)
            · try simp only [nq1, nq2, nq3, nq4, nq5, nq6, nq7, nq8, nq9, u8_eq] at hb13
              refine wp_skip ?_
              refine hK3 _ _ ?_; clear hK3
              refine seq_any fun _ hK34 => ?_
              refine rp0 hst8 hfr8 (.cons rfl (ob_assign rfl) <| .nil) ?_
              intro a9 w9 m9 hst9 hle9 hk9
              have hfr9 := hk9.fr (T' := [(2, _)]) (.new rfl <| .nil)
              clear hst8 hfr8 hk9
              refine hK34 _ _ ?_; clear hK34
              refine wp_ret ?_
              repeat (with_reducible first | refine then_ret ?_ | refine block_ret ?_)
              exact fn_ret hst9 hfr9 rfl (.tmp rfl <| .nil) (by refine congrArg Value.bool ?_; rw [hve]; simp_all)
theorem value6_c (t : Tm) : value6_G t := Tm.rec_ (p := value6_G) (fun t ihk iha => value6_s ihk iha) t

abbrev plain6_G (t : Tm) : Prop := ∀ {w : World} {m : Mem} {vs_t : List Value} (hA : Agree w m) (h_t : TmR m t vs_t), FnV Try.prog 24 #[.agg vs_t.toArray] w m (fun _ _ v => v = .bool (plainT t))
set_option maxHeartbeats 1600000 in
theorem plain6_s {t : Tm} (ihk : ∀ u ∈ t.kids, plain6_G u) (iha : ∀ a ∈ t.arms, plain6_G a.body) {w : World} {m : Mem} {vs_t : List Value} (hA : Agree w m) (h_t : TmR m t vs_t) : FnV Try.prog 24 #[.agg vs_t.toArray] w m (fun _ _ v => v = .bool (plainT t)) := by
  obtain ⟨⟨oK_t, cK_t, oA_t, cA_t, oR_t, cR_t, t0_t, t1_t, t2_t, t3_t, t4_t, t5_t, u0_t, u1_t, u2_t, u3_t, u4_t, u5_t⟩, rfl, hon_t, hkk_t, haa_t, hrr_t⟩ := h_t.open_
  dsimp only at hkk_t haa_t hrr_t
  have hbg_t := hkk_t.big; have hcp_t := hkk_t.cap; have hbh_t := haa_t.big; have hcq_t := haa_t.cap
  refine fn_enter (vs := [_]) Try.func24 rfl rfl rfl fun a0 hfr0 => ?_
  have hst0 := st_enter hA (loc_nil [] _ w m)
  have hM : MLe m m := MLe.refl m
  have hve := plainT_eq t
  refine seq_any fun _ hK1 => ?_
  refine rp0 hst0 hfr0 (.cons rfl (ob_box rfl rfl) <| .cons rfl (ob_assign rfl) <| .nil) ?_
  intro a1 w1 m1 hst1 hle1 hk1
  have hfr1 := hk1.fr (T' := []) (.nil)
  obtain ⟨g2, e2, hc1⟩ := hk1.ex 1 rfl
  replace hfr1 := hfr1.cons e2
  replace hkk_t := hkk_t.mono hle1
  replace haa_t := haa_t.mono hle1
  clear hst0 hfr0 hk1
  refine hK1 _ _ ?_; clear hK1
  refine seq_any fun _ hK3 => ?_
  refine seq_any fun _ hK4 => ?_
  refine rp0 hst1 hfr1 (.cons rfl (ob_fieldAddrO (off := 0) rfl Try.underlying33 rfl rfl Try.sizeOf3 rfl) <| .cons rfl (ob_load1 rfl hc1 Try.isAgg3 rfl) <| .nil) ?_
  intro a2 w2 m2 hst2 hle2 hk2
  have hfr2 := hk2.fr (T' := [(1, _), (8, _)]) (.old rfl rfl <| .new rfl <| .nil)
  replace hkk_t := hkk_t.mono hle2
  replace haa_t := haa_t.mono hle2
  replace hc1 := hc1.mono hle2
  clear hst1 hfr1 hk2
  refine hK4 _ _ ?_; clear hK4
  refine wp_block ?_
  refine seq_any fun _ hK5 => ?_
  refine seq_any fun _ hK6 => ?_
  refine rp0 hst2 hfr2 (.cons rfl (ob_eql rfl rfl) <| .cons rfl (ob_assign rfl) <| .nil) ?_
  intro a3 w3 m3 hst3 hle3 hk3
  have hfr3 := hk3.fr (T' := [(1, _), (8, _), (9, _)]) (.old rfl rfl <| .old rfl rfl <| .new rfl <| .nil)
  replace hkk_t := hkk_t.mono hle3
  replace haa_t := haa_t.mono hle3
  replace hc1 := hc1.mono hle3
  clear hst2 hfr2 hk3
  refine hK6 _ _ ?_; clear hK6
  refine cond_any hfr3 rfl rfl (fun hb9 => ?_) (fun hb9 => ?_)
  · try simp only [nq1, nq2, nq3, nq4, nq5, nq6, nq7, nq8, nq9, u8_eq] at hb9
    refine wp_skip ?_
    refine hK5 _ _ ?_; clear hK5
    refine cond_any hfr3 rfl rfl (fun hb9x => ?_) (fun hb9x => ?_)
    · try simp only [nq1, nq2, nq3, nq4, nq5, nq6, nq7, nq8, nq9, u8_eq] at hb9x
      refine seq_any fun _ hK7 => ?_
      refine rp0 hst3 hfr3 (.cons rfl (ob_assign rfl) <| .nil) ?_
      intro a4 w4 m4 hst4 hle4 hk4
      have hfr4 := hk4.fr (T' := [(2, _)]) (.new rfl <| .nil)
      clear hst3 hfr3 hk4
      refine hK7 _ _ ?_; clear hK7
      refine wp_ret ?_
      repeat (with_reducible first | refine then_ret ?_ | refine block_ret ?_)
      exact fn_ret hst4 hfr4 rfl (.tmp rfl <| .nil) (by refine congrArg Value.bool ?_; rw [hve, if_pos (by omega)])
    · exfalso; try simp only [nq1, nq2, nq3, nq4, nq5, nq6, nq7, nq8, nq9, u8_eq] at hb9x
      first | exact absurd hb9x hb9 | exact absurd hb9 hb9x | simp_all
  · try simp only [nq1, nq2, nq3, nq4, nq5, nq6, nq7, nq8, nq9, u8_eq] at hb9
    refine seq_any fun _ hK9 => ?_
    refine rp0 hst3 hfr3 (.cons rfl (ob_eql rfl rfl) <| .cons rfl (ob_assign rfl) <| .nil) ?_
    intro a4 w4 m4 hst4 hle4 hk4
    have hfr4 := hk4.fr (T' := [(1, _), (8, _), (9, _)]) (.old rfl rfl <| .old rfl rfl <| .new rfl <| .nil)
    replace hkk_t := hkk_t.mono hle4
    replace haa_t := haa_t.mono hle4
    replace hc1 := hc1.mono hle4
    clear hst3 hfr3 hk4
    refine hK9 _ _ ?_; clear hK9
    refine cond_any hfr4 rfl rfl (fun hb9 => ?_) (fun hb9 => ?_)
    · try simp only [nq1, nq2, nq3, nq4, nq5, nq6, nq7, nq8, nq9, u8_eq] at hb9
      refine wp_skip ?_
      refine hK5 _ _ ?_; clear hK5
      refine cond_any hfr4 rfl rfl (fun hb9x => ?_) (fun hb9x => ?_)
      · try simp only [nq1, nq2, nq3, nq4, nq5, nq6, nq7, nq8, nq9, u8_eq] at hb9x
        refine seq_any fun _ hK10 => ?_
        refine rp0 hst4 hfr4 (.cons rfl (ob_assign rfl) <| .nil) ?_
        intro a5 w5 m5 hst5 hle5 hk5
        have hfr5 := hk5.fr (T' := [(2, _)]) (.new rfl <| .nil)
        clear hst4 hfr4 hk5
        refine hK10 _ _ ?_; clear hK10
        refine wp_ret ?_
        repeat (with_reducible first | refine then_ret ?_ | refine block_ret ?_)
        exact fn_ret hst5 hfr5 rfl (.tmp rfl <| .nil) (by refine congrArg Value.bool ?_; rw [hve, if_pos (by omega)])
      · exfalso; try simp only [nq1, nq2, nq3, nq4, nq5, nq6, nq7, nq8, nq9, u8_eq] at hb9x
        first | exact absurd hb9x hb9 | exact absurd hb9 hb9x | simp_all
    · try simp only [nq1, nq2, nq3, nq4, nq5, nq6, nq7, nq8, nq9, u8_eq] at hb9
      refine rp0 hst4 hfr4 (.cons rfl (ob_eql rfl rfl) <| .cons rfl (ob_assign rfl) <| .nil) ?_
      intro a5 w5 m5 hst5 hle5 hk5
      have hfr5 := hk5.fr (T' := [(1, _), (8, _), (9, _)]) (.old rfl rfl <| .old rfl rfl <| .new rfl <| .nil)
      replace hkk_t := hkk_t.mono hle5
      replace haa_t := haa_t.mono hle5
      replace hc1 := hc1.mono hle5
      clear hst4 hfr4 hk5
      refine hK5 _ _ ?_; clear hK5
      refine cond_any hfr5 rfl rfl (fun hb9 => ?_) (fun hb9 => ?_)
      · try simp only [nq1, nq2, nq3, nq4, nq5, nq6, nq7, nq8, nq9, u8_eq] at hb9
        refine seq_any fun _ hK12 => ?_
        refine rp0 hst5 hfr5 (.cons rfl (ob_assign rfl) <| .nil) ?_
        intro a6 w6 m6 hst6 hle6 hk6
        have hfr6 := hk6.fr (T' := [(2, _)]) (.new rfl <| .nil)
        clear hst5 hfr5 hk6
        refine hK12 _ _ ?_; clear hK12
        refine wp_ret ?_
        repeat (with_reducible first | refine then_ret ?_ | refine block_ret ?_)
        exact fn_ret hst6 hfr6 rfl (.tmp rfl <| .nil) (by refine congrArg Value.bool ?_; rw [hve, if_pos (by omega)])
      · try simp only [nq1, nq2, nq3, nq4, nq5, nq6, nq7, nq8, nq9, u8_eq] at hb9
        refine seq_any fun _ hK14 => ?_
        refine rp0 hst5 hfr5 (.cons rfl (ob_eql rfl rfl) <| .cons rfl (ob_assign rfl) <| .nil) ?_
        intro a6 w6 m6 hst6 hle6 hk6
        have hfr6 := hk6.fr (T' := [(1, _), (13, _)]) (.old rfl rfl <| .new rfl <| .nil)
        replace hkk_t := hkk_t.mono hle6
        replace haa_t := haa_t.mono hle6
        replace hc1 := hc1.mono hle6
        clear hst5 hfr5 hk6
        refine hK14 _ _ ?_; clear hK14
        refine cond_any hfr6 rfl rfl (fun hb13 => ?_) (fun hb13 => ?_)
        · try simp only [nq1, nq2, nq3, nq4, nq5, nq6, nq7, nq8, nq9, u8_eq] at hb13
          refine seq_any fun _ hK15 => ?_
          refine rp0 hst6 hfr6 (.cons rfl (ob_assign rfl) <| .nil) ?_
          intro a7 w7 m7 hst7 hle7 hk7
          have hfr7 := hk7.fr (T' := [(2, _)]) (.new rfl <| .nil)
          clear hst6 hfr6 hk7
          refine hK15 _ _ ?_; clear hK15
          refine wp_ret ?_
          repeat (with_reducible first | refine then_ret ?_ | refine block_ret ?_)
          exact fn_ret hst7 hfr7 rfl (.tmp rfl <| .nil) (by refine congrArg Value.bool ?_; rw [hve, if_neg (by omega), if_pos hb13])
        · try simp only [nq1, nq2, nq3, nq4, nq5, nq6, nq7, nq8, nq9, u8_eq] at hb13
          refine wp_skip ?_
          refine hK3 _ _ ?_; clear hK3
          refine seq_any fun _ hK17 => ?_
          refine seq_any fun _ hK18 => ?_
          refine rp0 hst6 hfr6 (.cons rfl (ob_assign rfl) <| .nil) ?_
          intro a7 w7 m7 hst7 hle7 hk7
          have hfr7 := hk7.fr (T' := [(1, _), (3, _)]) (.old rfl rfl <| .new rfl <| .nil)
          replace hkk_t := hkk_t.mono hle7
          replace haa_t := haa_t.mono hle7
          replace hc1 := hc1.mono hle7
          clear hst6 hfr6 hk7
          refine hK18 _ _ ?_; clear hK18
          refine wp_block ?_
          refine loop_any (T := [(1, _)]) (fun (y : Nat) => ([(3, .int .i64 (y : Int))] : List (Nat × Value))) (fun _ => _) (fun (y : Nat) m => (y ≤ t.kids.length) ∧ (plainKs (decide (t.kind = 8) && decide (y = 0)) (t.kids.drop y) = plainKs (decide (t.kind = 8)) t.kids)) (fun y => t.kids.length - y) (0) ⟨hst7, MLe.refl _, hfr7.sub (.cons rfl <| .cons rfl <| .nil), ⟨Nat.zero_le _, (plainKs_start _ _).symm⟩⟩ fun y a8 w8 m8 hh8 => ?_
          have hst8 := hh8.st; have hle8 := hh8.le; have hfr8 := hh8.fr; have hrel := hh8.rel; clear hh8
          replace hkk_t := hkk_t.mono hle8
          replace haa_t := haa_t.mono hle8
          replace hc1 := hc1.mono hle8
          clear hst7 hfr7
          obtain ⟨hyn, hrm⟩ := hrel
          have hlh8 := hle8
          refine seq_any fun _ hK20 => ?_
          refine seq_any fun _ hK21 => ?_
          refine rp0 hst8 hfr8 (.cons rfl (ob_move rfl) <| .cons rfl (ob_fieldAddrO (off := 5) rfl Try.underlying33 rfl rfl Try.sizeOf24 rfl) <| .cons rfl (ob_load1 rfl hc1 Try.isAgg24 rfl) <| .cons rfl (ob_len rfl Try.underlying24) <| .cons rfl (ob_lss rfl rfl) <| .nil) ?_
          intro a9 w9 m9 hst9 hle9 hk9
          have hfr9 := hk9.fr (T' := [(3, _), (1, _), (19, _)]) (.old rfl rfl <| .old rfl rfl <| .new rfl <| .nil)
          replace hkk_t := hkk_t.mono hle9
          replace haa_t := haa_t.mono hle9
          replace hc1 := hc1.mono hle9
          have hlh9 := hlh8.trans hle9
          clear hst8 hfr8 hk9
          refine hK21 _ _ ?_; clear hK21
          refine cond_any hfr9 rfl rfl (fun hb19 => ?_) (fun hb19 => ?_)
          · try simp only [nq1, nq2, nq3, nq4, nq5, nq6, nq7, nq8, nq9, u8_eq] at hb19
            refine wp_skip ?_
            refine hK20 _ _ ?_; clear hK20
            refine seq_any fun _ hK22 => ?_
            refine wp_block ?_
            refine seq_any fun _ hK23 => ?_
            obtain ⟨p24, vs24, x24, ho24, hd24, hm_x24, ht24, hcv24, hl24, hv24⟩ := hkk_t.nth (k := y) (by omega)
            cases ho24
            obtain ⟨⟨oK24, cK24, oA24, cA24, oR24, cR24, t024, t124, t224, t324, t424, t524, u024, u124, u224, u324, u424, u524⟩, rfl, hon24, hkk24, haa24, hrr24⟩ := hv24.open_
            dsimp only at hkk24 haa24 hrr24
            have hbg24 := hkk24.big; have hcp24 := hkk24.cap; have hbh24 := haa24.big; have hcq24 := haa24.cap
            refine rp0 hst9 hfr9 (.cons rfl (ob_fieldAddrO (off := 0) rfl Try.underlying33 rfl rfl Try.sizeOf3 rfl) <| .cons rfl (ob_load1 rfl hc1 Try.isAgg3 rfl) <| .cons rfl (ob_eql rfl rfl) <| .cons rfl (ob_move rfl) <| .cons rfl (ob_move rfl) <| .cons rfl (ob_eql rfl rfl) <| .cons rfl (ob_and rfl rfl rfl) <| .cons rfl (ob_move rfl) <| .cons rfl (ob_fieldAddrO (off := 5) rfl Try.underlying33 rfl rfl Try.sizeOf24 rfl) <| .cons rfl (ob_load1 rfl hc1 Try.isAgg24 rfl) <| .cons rfl (ob_move rfl) <| .cons rfl (ob_indexAddr (k := y) rfl rfl Try.underlying24 Try.sizeOf33 rfl (by omega)) <| .cons rfl (ob_loadS' rfl hcv24 Try.isAgg33 Try.sizeOf33 rfl rfl) <| .cons rfl (ob_callE rfl (.cons rfl <| .nil) Try.call24 (fun w m hK => by have hle_ := KC.le hK; have hA := KC.agree hK; have hv24 := hv24.mono hle_; exact ihk _ hm_x24 hA hv24)) <| .cons rfl (ob_or rfl rfl rfl) <| .cons rfl (ob_assign rfl) <| .nil) ?_
            intro a10 w10 m10 hst10 hle10 hk10
            have hfr10 := hk10.fr (T' := [(3, _), (1, _), (4, _)]) (.old rfl rfl <| .old rfl rfl <| .new rfl <| .nil)
            have hlh10 := hlh9.trans hle10
            clear hst9 hfr9 hk10
            refine hK23 _ _ ?_; clear hK23
            refine seq_any fun _ hK25 => ?_
            refine rp0 hst10 hfr10 (.cons rfl (ob_move rfl) <| .cons rfl (ob_not rfl) <| .nil) ?_
            intro a11 w11 m11 hst11 hle11 hk11
            have hfr11 := hk11.fr (T' := [(3, _), (1, _), (38, _)]) (.old rfl rfl <| .old rfl rfl <| .new rfl <| .nil)
            have hlh11 := hlh10.trans hle11
            clear hst10 hfr10 hk11
            refine hK25 _ _ ?_; clear hK25
            refine cond_any hfr11 rfl rfl (fun hb38 => ?_) (fun hb38 => ?_)
            · try simp only [nq1, nq2, nq3, nq4, nq5, nq6, nq7, nq8, nq9, u8_eq] at hb38
              have hbad := plainKs_stop hrm hd24 (by simp only [Bool.or_eq_false_iff, Bool.and_eq_false_iff, decide_eq_false_iff_not]; exact ⟨hb38.1.imp id (fun h h2 => h (by omega)), hb38.2⟩)
              refine seq_any fun _ hK26 => ?_
              refine rp0 hst11 hfr11 (.cons rfl (ob_assign rfl) <| .nil) ?_
              intro a12 w12 m12 hst12 hle12 hk12
              have hfr12 := hk12.fr (T' := [(3, _), (2, _)]) (.old rfl rfl <| .new rfl <| .nil)
              have hlh12 := hlh11.trans hle12
              clear hst11 hfr11 hk12
              refine hK26 _ _ ?_; clear hK26
              refine wp_ret ?_
              repeat (with_reducible first | refine then_ret ?_ | refine block_ret ?_)
              exact fn_ret hst12 hfr12 rfl (.tmp rfl <| .nil) (by refine congrArg Value.bool ?_; rw [hve, if_neg (by omega), if_neg (by omega), hbad, Bool.false_and])
            · try simp only [nq1, nq2, nq3, nq4, nq5, nq6, nq7, nq8, nq9, u8_eq] at hb38
              refine wp_skip ?_
              refine hK22 _ _ ?_; clear hK22
              refine rp0 hst11 hfr11 (.cons rfl (ob_move rfl) <| .cons rfl (ob_add rfl rfl ⟨by omega, by omega⟩) <| .cons rfl (ob_assign rfl) <| .nil) ?_
              intro a12 w12 m12 hst12 hle12 hk12
              have hfr12 := hk12.fr (T' := [(1, _), (3, _)]) (.old rfl rfl <| .new rfl <| .nil)
              have hlh12 := hlh11.trans hle12
              clear hst11 hfr11 hk12
              exact ⟨y + 1, m12, by show t.kids.length - (y + 1) < t.kids.length - y; omega, ⟨hst12, hlh12, hfr12.sub (.cons rfl <| .cons rfl <| .nil), ⟨by show y + 1 ≤ t.kids.length; omega, (plainKs_step hrm hd24 (by simpa using hb38)).symm⟩⟩⟩
          · try simp only [nq1, nq2, nq3, nq4, nq5, nq6, nq7, nq8, nq9, u8_eq] at hb19
            have hge : y = t.kids.length := by omega
            rw [List.drop_of_length_le (by omega), plainKs] at hrm
            refine wp_exit ?_
            refine hK17 _ _ ?_; clear hK17
            refine seq_any fun _ hK28 => ?_
            refine seq_any fun _ hK29 => ?_
            refine rp0 hst9 hfr9 (.cons rfl (ob_assign rfl) <| .nil) ?_
            intro a10 w10 m10 hst10 hle10 hk10
            have hfr10 := hk10.fr (T' := [(3, _), (1, _), (5, _)]) (.old rfl rfl <| .old rfl rfl <| .new rfl <| .nil)
            replace haa_t := haa_t.mono hle10
            replace hc1 := hc1.mono hle10
            have hlh10 := hlh9.trans hle10
            clear hst9 hfr9 hk10
            refine hK29 _ _ ?_; clear hK29
            refine wp_block ?_
            have hlq30 := hlh10
            refine loop_any (T := [(3, _), (1, _)]) (fun (y : Nat) => ([(5, .int .i64 (y : Int))] : List (Nat × Value))) (fun _ => _) (fun (y : Nat) m => (y ≤ t.arms.length) ∧ (plainAs t.arms = plainAs (t.arms.drop y))) (fun y => t.arms.length - y) (0) ⟨hst10, MLe.refl _, hfr10.sub (.cons rfl <| .cons rfl <| .cons rfl <| .nil), ⟨Nat.zero_le _, by rw [List.drop_zero]⟩⟩ fun y a11 w11 m11 hh11 => ?_
            have hst11 := hh11.st; have hle11 := hh11.le; have hfr11 := hh11.fr; have hrel := hh11.rel; clear hh11
            replace haa_t := haa_t.mono hle11
            replace hc1 := hc1.mono hle11
            clear hst10 hfr10
            obtain ⟨hyn, hra⟩ := hrel
            have hlh11 := hle11
            refine seq_any fun _ hK31 => ?_
            refine seq_any fun _ hK32 => ?_
            refine rp0 hst11 hfr11 (.cons rfl (ob_move rfl) <| .cons rfl (ob_fieldAddrO (off := 6) rfl Try.underlying33 rfl rfl Try.sizeOf25 rfl) <| .cons rfl (ob_load1 rfl hc1 Try.isAgg25 rfl) <| .cons rfl (ob_len rfl Try.underlying25) <| .cons rfl (ob_lss rfl rfl) <| .nil) ?_
            intro a12 w12 m12 hst12 hle12 hk12
            have hfr12 := hk12.fr (T' := [(5, _), (3, _), (1, _), (43, _)]) (.old rfl rfl <| .old rfl rfl <| .old rfl rfl <| .new rfl <| .nil)
            replace haa_t := haa_t.mono hle12
            replace hc1 := hc1.mono hle12
            have hlh12 := hlh11.trans hle12
            clear hst11 hfr11 hk12
            refine hK32 _ _ ?_; clear hK32
            refine cond_any hfr12 rfl rfl (fun hb43 => ?_) (fun hb43 => ?_)
            · try simp only [nq1, nq2, nq3, nq4, nq5, nq6, nq7, nq8, nq9, u8_eq] at hb43
              refine wp_skip ?_
              refine hK31 _ _ ?_; clear hK31
              refine seq_any fun _ hK33 => ?_
              refine wp_block ?_
              refine seq_any fun _ hK34 => ?_
              obtain ⟨p35, vs35, x35, ho35, hd35, hm_x35, ht35, hcv35, hl35, hv35⟩ := haa_t.nth (k := y) (by omega)
              cases ho35
              obtain ⟨oV35, cV35, bs35, rfl, hva35, hbd35⟩ := hv35.open_
              have hbv35 := hva35.big; have hcv35_ := hva35.cap
              obtain ⟨⟨oK35b, cK35b, oA35b, cA35b, oR35b, cR35b, t035b, t135b, t235b, t335b, t435b, t535b, u035b, u135b, u235b, u335b, u435b, u535b⟩, rfl, hon35b, hkk35b, haa35b, hrr35b⟩ := hbd35.open_
              dsimp only at hkk35b haa35b hrr35b
              have hbg35b := hkk35b.big; have hcp35b := hkk35b.cap; have hbh35b := haa35b.big; have hcq35b := haa35b.cap
              refine rp0 hst12 hfr12 (.cons rfl (ob_fieldAddrO (off := 6) rfl Try.underlying33 rfl rfl Try.sizeOf25 rfl) <| .cons rfl (ob_load1 rfl hc1 Try.isAgg25 rfl) <| .cons rfl (ob_move rfl) <| .cons rfl (ob_indexAddr (k := y) rfl rfl Try.underlying25 Try.sizeOf40 rfl (by omega)) <| .cons rfl (ob_fieldAddrO (off := 2) rfl Try.underlying40 rfl rfl Try.sizeOf33 rfl) <| .cons rfl (ob_loadS rfl hcv35 Try.isAgg33 Try.sizeOf33 rfl rfl) <| .cons rfl (ob_callE rfl (.cons rfl <| .nil) Try.call24 (fun w m hK => by have hle_ := KC.le hK; have hA := KC.agree hK; have hbd35 := hbd35.mono hle_; exact iha _ hm_x35 hA hbd35)) <| .cons rfl (ob_assign rfl) <| .nil) ?_
              intro a13 w13 m13 hst13 hle13 hk13
              have hfr13 := hk13.fr (T' := [(5, _), (3, _), (1, _), (6, _)]) (.old rfl rfl <| .old rfl rfl <| .old rfl rfl <| .new rfl <| .nil)
              have hlh13 := hlh12.trans hle13
              clear hst12 hfr12 hk13
              refine hK34 _ _ ?_; clear hK34
              refine seq_any fun _ hK36 => ?_
              refine rp0 hst13 hfr13 (.cons rfl (ob_move rfl) <| .cons rfl (ob_not rfl) <| .nil) ?_
              intro a14 w14 m14 hst14 hle14 hk14
              have hfr14 := hk14.fr (T' := [(5, _), (3, _), (1, _), (54, _)]) (.old rfl rfl <| .old rfl rfl <| .old rfl rfl <| .new rfl <| .nil)
              have hlh14 := hlh13.trans hle14
              clear hst13 hfr13 hk14
              refine hK36 _ _ ?_; clear hK36
              refine cond_any hfr14 rfl rfl (fun hb54 => ?_) (fun hb54 => ?_)
              · try simp only [nq1, nq2, nq3, nq4, nq5, nq6, nq7, nq8, nq9, u8_eq] at hb54
                have hbad2 : plainAs t.arms = false := by rw [hra, hd35, plainAs_cons, hb54, Bool.false_and]
                refine seq_any fun _ hK37 => ?_
                refine rp0 hst14 hfr14 (.cons rfl (ob_assign rfl) <| .nil) ?_
                intro a15 w15 m15 hst15 hle15 hk15
                have hfr15 := hk15.fr (T' := [(5, _), (3, _), (2, _)]) (.old rfl rfl <| .old rfl rfl <| .new rfl <| .nil)
                have hlh15 := hlh14.trans hle15
                clear hst14 hfr14 hk15
                refine hK37 _ _ ?_; clear hK37
                refine wp_ret ?_
                repeat (with_reducible first | refine then_ret ?_ | refine block_ret ?_)
                exact fn_ret hst15 hfr15 rfl (.tmp rfl <| .nil) (by refine congrArg Value.bool ?_; rw [hve, if_neg (by omega), if_neg (by omega), hbad2, Bool.and_false])
              · try simp only [nq1, nq2, nq3, nq4, nq5, nq6, nq7, nq8, nq9, u8_eq] at hb54
                refine wp_skip ?_
                refine hK33 _ _ ?_; clear hK33
                refine rp0 hst14 hfr14 (.cons rfl (ob_move rfl) <| .cons rfl (ob_add rfl rfl ⟨by omega, by omega⟩) <| .cons rfl (ob_assign rfl) <| .nil) ?_
                intro a15 w15 m15 hst15 hle15 hk15
                have hfr15 := hk15.fr (T' := [(3, _), (1, _), (5, _)]) (.old rfl rfl <| .old rfl rfl <| .new rfl <| .nil)
                have hlh15 := hlh14.trans hle15
                clear hst14 hfr14 hk15
                exact ⟨y + 1, m15, by show t.arms.length - (y + 1) < t.arms.length - y; omega, ⟨hst15, hlh15, hfr15.sub (.cons rfl <| .cons rfl <| .cons rfl <| .nil), ⟨by show y + 1 ≤ t.arms.length; omega, by rw [hra, hd35, plainAs_cons, hb54, Bool.true_and]⟩⟩⟩
            · try simp only [nq1, nq2, nq3, nq4, nq5, nq6, nq7, nq8, nq9, u8_eq] at hb43
              have hge : y = t.arms.length := by omega
              rw [List.drop_of_length_le (by omega), plainAs] at hra
              refine wp_exit ?_
              refine hK28 _ _ ?_; clear hK28
              refine seq_any fun _ hK39 => ?_
              refine rp0 hst12 hfr12 (.cons rfl (ob_assign rfl) <| .nil) ?_
              intro a13 w13 m13 hst13 hle13 hk13
              have hfr13 := hk13.fr (T' := [(5, _), (3, _), (2, _)]) (.old rfl rfl <| .old rfl rfl <| .new rfl <| .nil)
              have hlh13 := hlh12.trans hle13
              clear hst12 hfr12 hk13
              refine hK39 _ _ ?_; clear hK39
              refine wp_ret ?_
              repeat (with_reducible first | refine then_ret ?_ | refine block_ret ?_)
              exact fn_ret hst13 hfr13 rfl (.tmp rfl <| .nil) (by refine congrArg Value.bool ?_; rw [hve, if_neg (by omega), if_neg (by omega), ← hrm, hra]; rfl)
theorem plain6_c (t : Tm) : plain6_G t := Tm.rec_ (p := plain6_G) (fun t ihk iha => plain6_s ihk iha) t

set_option maxHeartbeats 400000 in
theorem quiet6_c {w : World} {m : Mem} {t : Tm} {vs_t : List Value} (hA : Agree w m) (h_t : TmR m t vs_t) : FnV Try.prog 26 #[.agg vs_t.toArray] w m (fun _ _ v => v = .bool (quietT t)) := by
  obtain ⟨⟨oK_t, cK_t, oA_t, cA_t, oR_t, cR_t, t0_t, t1_t, t2_t, t3_t, t4_t, t5_t, u0_t, u1_t, u2_t, u3_t, u4_t, u5_t⟩, rfl, hon_t, hkk_t, haa_t, hrr_t⟩ := h_t.open_
  dsimp only at hkk_t haa_t hrr_t
  have hbg_t := hkk_t.big; have hcp_t := hkk_t.cap; have hbh_t := haa_t.big; have hcq_t := haa_t.cap
  refine fn_enter (vs := [_]) Try.func26 rfl rfl rfl fun a0 hfr0 => ?_
  have hst0 := st_enter hA (loc_nil [] _ w m)
  have hM : MLe m m := MLe.refl m
  refine seq_any fun _ hK1 => ?_
  refine rp0 hst0 hfr0 (.cons rfl (ob_box rfl rfl) <| .cons rfl (ob_assign rfl) <| .nil) ?_
  intro a1 w1 m1 hst1 hle1 hk1
  have hfr1 := hk1.fr (T' := []) (.nil)
  obtain ⟨g2, e2, hc1⟩ := hk1.ex 1 rfl
  replace hfr1 := hfr1.cons e2
  replace h_t := h_t.mono hle1
  replace hrr_t := hrr_t.mono hle1
  clear hst0 hfr0 hk1
  refine hK1 _ _ ?_; clear hK1
  refine seq_any fun _ hK3 => ?_
  refine rp0 hst1 hfr1 (.cons rfl (ob_loadS' rfl hc1 Try.isAgg33 Try.sizeOf33 rfl rfl) <| .cons rfl (ob_callE rfl (.cons rfl <| .nil) Try.call24 (fun w m hK => by have hle_ := KC.le hK; have hA := KC.agree hK; have h_t := h_t.mono hle_; exact plain6_c t hA h_t)) <| .cons rfl (ob_assign rfl) <| .nil) ?_
  intro a2 w2 m2 hst2 hle2 hk2
  have hfr2 := hk2.fr (T' := [(1, _), (3, _)]) (.old rfl rfl <| .new rfl <| .nil)
  replace hrr_t := hrr_t.mono hle2
  replace hc1 := hc1.mono hle2
  clear hst1 hfr1 hk2
  refine hK3 _ _ ?_; clear hK3
  refine seq_any fun _ hK4 => ?_
  refine rp0 hst2 hfr2 (.cons rfl (ob_move rfl) <| .cons rfl (ob_move rfl) <| .cons rfl (ob_fieldAddrO (off := 13) rfl Try.underlying33 rfl rfl Try.sizeOf29 rfl) <| .cons rfl (ob_loadS rfl hc1 Try.isAgg29 Try.sizeOf29 rfl rfl) <| .cons rfl (ob_callE rfl (.cons rfl <| .nil) Try.call38 (fun w m hK => by have hle_ := KC.le hK; have hA := KC.agree hK; have hrr_t := hrr_t.mono hle_; exact calm6_c (r := t.row) hA hrr_t)) <| .cons rfl (ob_or rfl rfl rfl) <| .cons rfl (ob_assign rfl) <| .nil) ?_
  intro a3 w3 m3 hst3 hle3 hk3
  have hfr3 := hk3.fr (T' := [(2, _)]) (.new rfl <| .nil)
  clear hst2 hfr2 hk3
  refine hK4 _ _ ?_; clear hK4
  refine wp_ret ?_
  repeat (with_reducible first | refine then_ret ?_ | refine block_ret ?_)
  exact fn_ret hst3 hfr3 rfl (.tmp rfl <| .nil) (rfl)

abbrev same_G (t : Tm) : Prop := ∀ {w : World} {m : Mem} {vs_t : List Value} {us_t : List Value} (hA : Agree w m) (h_t : TmR m t vs_t) (g_t : TmR m t us_t), FnV Try.prog 14 #[.agg vs_t.toArray, .agg us_t.toArray] w m (fun _ _ v => v = .bool true)
set_option maxHeartbeats 1600000 in
theorem same_s {t : Tm} (ihk : ∀ u ∈ t.kids, same_G u) (iha : ∀ a ∈ t.arms, same_G a.body) {w : World} {m : Mem} {vs_t : List Value} {us_t : List Value} (hA : Agree w m) (h_t : TmR m t vs_t) (g_t : TmR m t us_t) : FnV Try.prog 14 #[.agg vs_t.toArray, .agg us_t.toArray] w m (fun _ _ v => v = .bool true) := by
  obtain ⟨⟨oK_t, cK_t, oA_t, cA_t, oR_t, cR_t, t0_t, t1_t, t2_t, t3_t, t4_t, t5_t, u0_t, u1_t, u2_t, u3_t, u4_t, u5_t⟩, rfl, hon_t, hkk_t, haa_t, hrr_t⟩ := h_t.open_
  dsimp only at hkk_t haa_t hrr_t
  have hbg_t := hkk_t.big; have hcp_t := hkk_t.cap; have hbh_t := haa_t.big; have hcq_t := haa_t.cap
  obtain ⟨⟨oK_z, cK_z, oA_z, cA_z, oR_z, cR_z, t0_z, t1_z, t2_z, t3_z, t4_z, t5_z, u0_z, u1_z, u2_z, u3_z, u4_z, u5_z⟩, rfl, hon_z, hkk_z, haa_z, hrr_z⟩ := g_t.open_
  dsimp only at hkk_z haa_z hrr_z
  have hbg_z := hkk_z.big; have hcp_z := hkk_z.cap; have hbh_z := haa_z.big; have hcq_z := haa_z.cap
  refine fn_enter (vs := [_, _]) Try.func14 rfl rfl rfl fun a0 hfr0 => ?_
  have hst0 := st_enter hA (loc_nil [] _ w m)
  have hM : MLe m m := MLe.refl m
  refine seq_any fun _ hK1 => ?_
  refine rp0 hst0 hfr0 (.cons rfl (ob_box rfl rfl) <| .cons rfl (ob_box rfl rfl) <| .cons rfl (ob_assign rfl) <| .nil) ?_
  intro a1 w1 m1 hst1 hle1 hk1
  have hfr1 := hk1.fr (T' := []) (.nil)
  obtain ⟨g2, e2, hc2⟩ := hk1.ex 2 rfl
  replace hfr1 := hfr1.cons e2
  obtain ⟨g3, e3, hc3⟩ := hk1.ex 3 rfl
  replace hfr1 := hfr1.cons e3
  replace hkk_t := hkk_t.mono hle1
  replace haa_t := haa_t.mono hle1
  replace hkk_z := hkk_z.mono hle1
  replace haa_z := haa_z.mono hle1
  clear hst0 hfr0 hk1
  refine hK1 _ _ ?_; clear hK1
  refine seq_any fun _ hK4 => ?_
  refine seq_any fun _ hK5 => ?_
  refine rp0 hst1 hfr1 (.cons rfl (ob_fieldAddrO (off := 0) rfl Try.underlying33 rfl rfl Try.sizeOf3 rfl) <| .cons rfl (ob_load1 rfl hc2 Try.isAgg3 rfl) <| .cons rfl (ob_fieldAddrO (off := 0) rfl Try.underlying33 rfl rfl Try.sizeOf3 rfl) <| .cons rfl (ob_load1 rfl hc3 Try.isAgg3 rfl) <| .cons rfl (ob_neq rfl rfl) <| .cons rfl (ob_move rfl) <| .cons rfl (ob_fieldAddrO (off := 2) rfl Try.underlying33 rfl rfl Try.sizeOf9 rfl) <| .cons rfl (ob_load1 rfl hc2 Try.isAgg9 rfl) <| .cons rfl (ob_fieldAddrO (off := 2) rfl Try.underlying33 rfl rfl Try.sizeOf9 rfl) <| .cons rfl (ob_load1 rfl hc3 Try.isAgg9 rfl) <| .cons rfl (ob_sneq rfl rfl) <| .cons rfl (ob_or rfl rfl rfl) <| .cons rfl (ob_move rfl) <| .cons rfl (ob_fieldAddrO (off := 3) rfl Try.underlying33 rfl rfl Try.sizeOf9 rfl) <| .cons rfl (ob_load1 rfl hc2 Try.isAgg9 rfl) <| .cons rfl (ob_fieldAddrO (off := 3) rfl Try.underlying33 rfl rfl Try.sizeOf9 rfl) <| .cons rfl (ob_load1 rfl hc3 Try.isAgg9 rfl) <| .cons rfl (ob_sneq rfl rfl) <| .cons rfl (ob_or rfl rfl rfl) <| .cons rfl (ob_move rfl) <| .cons rfl (ob_fieldAddrO (off := 4) rfl Try.underlying33 rfl rfl Try.sizeOf3 rfl) <| .cons rfl (ob_load1 rfl hc2 Try.isAgg3 rfl) <| .cons rfl (ob_fieldAddrO (off := 4) rfl Try.underlying33 rfl rfl Try.sizeOf3 rfl) <| .cons rfl (ob_load1 rfl hc3 Try.isAgg3 rfl) <| .cons rfl (ob_neq rfl rfl) <| .cons rfl (ob_or rfl rfl rfl) <| .cons rfl (ob_move rfl) <| .cons rfl (ob_fieldAddrO (off := 5) rfl Try.underlying33 rfl rfl Try.sizeOf24 rfl) <| .cons rfl (ob_load1 rfl hc2 Try.isAgg24 rfl) <| .cons rfl (ob_len rfl Try.underlying24) <| .cons rfl (ob_fieldAddrO (off := 5) rfl Try.underlying33 rfl rfl Try.sizeOf24 rfl) <| .cons rfl (ob_load1 rfl hc3 Try.isAgg24 rfl) <| .cons rfl (ob_len rfl Try.underlying24) <| .cons rfl (ob_neq rfl rfl) <| .cons rfl (ob_or rfl rfl rfl) <| .cons rfl (ob_move rfl) <| .cons rfl (ob_fieldAddrO (off := 6) rfl Try.underlying33 rfl rfl Try.sizeOf25 rfl) <| .cons rfl (ob_load1 rfl hc2 Try.isAgg25 rfl) <| .cons rfl (ob_len rfl Try.underlying25) <| .cons rfl (ob_fieldAddrO (off := 6) rfl Try.underlying33 rfl rfl Try.sizeOf25 rfl) <| .cons rfl (ob_load1 rfl hc3 Try.isAgg25 rfl) <| .cons rfl (ob_len rfl Try.underlying25) <| .cons rfl (ob_neq rfl rfl) <| .cons rfl (ob_or rfl rfl rfl) <| .nil) ?_
  intro a2 w2 m2 hst2 hle2 hk2
  have hfr2 := hk2.fr (T' := [(2, _), (3, _), (54, _)]) (.old rfl rfl <| .old rfl rfl <| .new rfl <| .nil)
  replace hkk_t := hkk_t.mono hle2
  replace haa_t := haa_t.mono hle2
  replace hkk_z := hkk_z.mono hle2
  replace haa_z := haa_z.mono hle2
  replace hc2 := hc2.mono hle2
  replace hc3 := hc3.mono hle2
  clear hst1 hfr1 hk2
  refine hK5 _ _ ?_; clear hK5
  refine cond_any hfr2 rfl rfl (fun hb54 => ?_) (fun hb54 => ?_)
  · simp at hb54
  · try simp only [nq1, nq2, nq3, nq4, nq5, nq6, nq7, nq8, nq9, u8_eq] at hb54
    refine wp_skip ?_
    refine hK4 _ _ ?_; clear hK4
    refine seq_any fun _ hK6 => ?_
    refine seq_any fun _ hK7 => ?_
    refine rp0 hst2 hfr2 (.cons rfl (ob_assign rfl) <| .nil) ?_
    intro a3 w3 m3 hst3 hle3 hk3
    have hfr3 := hk3.fr (T' := [(2, _), (3, _), (5, _)]) (.old rfl rfl <| .old rfl rfl <| .new rfl <| .nil)
    replace hkk_t := hkk_t.mono hle3
    replace haa_t := haa_t.mono hle3
    replace hkk_z := hkk_z.mono hle3
    replace haa_z := haa_z.mono hle3
    replace hc2 := hc2.mono hle3
    replace hc3 := hc3.mono hle3
    clear hst2 hfr2 hk3
    refine hK7 _ _ ?_; clear hK7
    refine wp_block ?_
    refine loop_any (T := [(2, _), (3, _)]) (fun (y : Nat) => ([(5, .int .i64 (y : Int))] : List (Nat × Value))) (fun _ => _) (fun (y : Nat) m => (y ≤ t.kids.length)) (fun y => t.kids.length - y) (0) ⟨hst3, MLe.refl _, hfr3.sub (.cons rfl <| .cons rfl <| .cons rfl <| .nil), Nat.zero_le _⟩ fun y a4 w4 m4 hh4 => ?_
    have hst4 := hh4.st; have hle4 := hh4.le; have hfr4 := hh4.fr; have hrel := hh4.rel; clear hh4
    replace hkk_t := hkk_t.mono hle4
    replace haa_t := haa_t.mono hle4
    replace hkk_z := hkk_z.mono hle4
    replace haa_z := haa_z.mono hle4
    replace hc2 := hc2.mono hle4
    replace hc3 := hc3.mono hle4
    clear hst3 hfr3
    have hyn := hrel
    have hlh4 := hle4
    refine seq_any fun _ hK9 => ?_
    refine seq_any fun _ hK10 => ?_
    refine rp0 hst4 hfr4 (.cons rfl (ob_move rfl) <| .cons rfl (ob_fieldAddrO (off := 5) rfl Try.underlying33 rfl rfl Try.sizeOf24 rfl) <| .cons rfl (ob_load1 rfl hc2 Try.isAgg24 rfl) <| .cons rfl (ob_len rfl Try.underlying24) <| .cons rfl (ob_lss rfl rfl) <| .nil) ?_
    intro a5 w5 m5 hst5 hle5 hk5
    have hfr5 := hk5.fr (T' := [(5, _), (2, _), (3, _), (59, _)]) (.old rfl rfl <| .old rfl rfl <| .old rfl rfl <| .new rfl <| .nil)
    replace hkk_t := hkk_t.mono hle5
    replace haa_t := haa_t.mono hle5
    replace hkk_z := hkk_z.mono hle5
    replace haa_z := haa_z.mono hle5
    replace hc2 := hc2.mono hle5
    replace hc3 := hc3.mono hle5
    have hlh5 := hlh4.trans hle5
    clear hst4 hfr4 hk5
    refine hK10 _ _ ?_; clear hK10
    refine cond_any hfr5 rfl rfl (fun hb59 => ?_) (fun hb59 => ?_)
    · try simp only [nq1, nq2, nq3, nq4, nq5, nq6, nq7, nq8, nq9, u8_eq] at hb59
      refine wp_skip ?_
      refine hK9 _ _ ?_; clear hK9
      refine seq_any fun _ hK11 => ?_
      refine wp_block ?_
      refine seq_any fun _ hK12 => ?_
      obtain ⟨p13, vs13, x13, ho13, hd13, hm_x13, ht13, hcv13, hl13, hv13⟩ := hkk_t.nth (k := y) (by omega)
      cases ho13
      obtain ⟨⟨oK13, cK13, oA13, cA13, oR13, cR13, t013, t113, t213, t313, t413, t513, u013, u113, u213, u313, u413, u513⟩, rfl, hon13, hkk13, haa13, hrr13⟩ := hv13.open_
      dsimp only at hkk13 haa13 hrr13
      have hbg13 := hkk13.big; have hcp13 := hkk13.cap; have hbh13 := haa13.big; have hcq13 := haa13.cap
      obtain ⟨p14, vs14, x14, ho14, hd14, hm_x14, ht14, hcv14, hl14, hv14⟩ := hkk_z.nth (k := y) (by omega)
      cases ho14
      obtain ⟨⟨oK14, cK14, oA14, cA14, oR14, cR14, t014, t114, t214, t314, t414, t514, u014, u114, u214, u314, u414, u514⟩, rfl, hon14, hkk14, haa14, hrr14⟩ := hv14.open_
      dsimp only at hkk14 haa14 hrr14
      have hbg14 := hkk14.big; have hcp14 := hkk14.cap; have hbh14 := haa14.big; have hcq14 := haa14.cap
      have hxe := hd13.symm.trans hd14
      injection hxe with hxe _
      subst hxe
      refine region_plain (fun _ => mixed) hst5 hfr5 (by kernel_rfl) (by kernel_rfl) (.cons rfl (ob_fieldAddrO (off := 5) rfl Try.underlying33 rfl rfl Try.sizeOf24 rfl) <| .cons rfl (ob_load1 rfl hc2 Try.isAgg24 rfl) <| .cons rfl (ob_move rfl) <| .cons rfl (ob_indexAddr (k := y) rfl rfl Try.underlying24 Try.sizeOf33 rfl (by omega)) <| .cons rfl (ob_loadS' rfl hcv13 Try.isAgg33 Try.sizeOf33 rfl rfl) <| .cons rfl (ob_fieldAddrO (off := 5) rfl Try.underlying33 rfl rfl Try.sizeOf24 rfl) <| .cons rfl (ob_load1 rfl hc3 Try.isAgg24 rfl) <| .cons rfl (ob_move rfl) <| .cons rfl (ob_indexAddr (k := y) rfl rfl Try.underlying24 Try.sizeOf33 rfl (by omega)) <| .cons rfl (ob_loadS' rfl hcv14 Try.isAgg33 Try.sizeOf33 rfl rfl) <| .cons rfl (ob_callE rfl (.cons rfl <| .cons rfl <| .nil) Try.call14 (fun w m hK => by have hle_ := KC.le hK; have hA := KC.agree hK; have hv13 := hv13.mono hle_; have hv14 := hv14.mono hle_; exact ihk _ hm_x13 hA hv13 hv14)) <| .cons rfl (ob_assign rfl) <| .nil) ?_
      intro a6 w6 m6 hst6 hle6 hk6
      have hfr6 := hk6.fr (T' := [(5, _), (2, _), (3, _), (6, _)]) (.old rfl rfl <| .old rfl rfl <| .old rfl rfl <| .new rfl <| .nil)
      have hlh6 := hlh5.trans hle6
      clear hst5 hfr5 hk6
      refine hK12 _ _ ?_; clear hK12
      refine seq_any fun _ hK15 => ?_
      refine rp0 hst6 hfr6 (.cons rfl (ob_move rfl) <| .cons rfl (ob_not rfl) <| .nil) ?_
      intro a7 w7 m7 hst7 hle7 hk7
      have hfr7 := hk7.fr (T' := [(5, _), (2, _), (3, _), (74, _)]) (.old rfl rfl <| .old rfl rfl <| .old rfl rfl <| .new rfl <| .nil)
      have hlh7 := hlh6.trans hle7
      clear hst6 hfr6 hk7
      refine hK15 _ _ ?_; clear hK15
      refine cond_any hfr7 rfl rfl (fun hb74 => ?_) (fun hb74 => ?_)
      · simp at hb74
      · try simp only [nq1, nq2, nq3, nq4, nq5, nq6, nq7, nq8, nq9, u8_eq] at hb74
        refine wp_skip ?_
        refine hK11 _ _ ?_; clear hK11
        refine rp0 hst7 hfr7 (.cons rfl (ob_move rfl) <| .cons rfl (ob_add rfl rfl ⟨by omega, by omega⟩) <| .cons rfl (ob_assign rfl) <| .nil) ?_
        intro a8 w8 m8 hst8 hle8 hk8
        have hfr8 := hk8.fr (T' := [(2, _), (3, _), (5, _)]) (.old rfl rfl <| .old rfl rfl <| .new rfl <| .nil)
        have hlh8 := hlh7.trans hle8
        clear hst7 hfr7 hk8
        exact ⟨y + 1, m8, by show t.kids.length - (y + 1) < t.kids.length - y; omega, ⟨hst8, hlh8, hfr8.sub (.cons rfl <| .cons rfl <| .cons rfl <| .nil), by show y + 1 ≤ t.kids.length; omega⟩⟩
    · try simp only [nq1, nq2, nq3, nq4, nq5, nq6, nq7, nq8, nq9, u8_eq] at hb59
      have hge : y = t.kids.length := by omega
      refine wp_exit ?_
      refine hK6 _ _ ?_; clear hK6
      refine seq_any fun _ hK16 => ?_
      refine seq_any fun _ hK17 => ?_
      refine rp0 hst5 hfr5 (.cons rfl (ob_assign rfl) <| .nil) ?_
      intro a6 w6 m6 hst6 hle6 hk6
      have hfr6 := hk6.fr (T' := [(5, _), (2, _), (3, _), (7, _)]) (.old rfl rfl <| .old rfl rfl <| .old rfl rfl <| .new rfl <| .nil)
      replace haa_t := haa_t.mono hle6
      replace haa_z := haa_z.mono hle6
      replace hc2 := hc2.mono hle6
      replace hc3 := hc3.mono hle6
      have hlh6 := hlh5.trans hle6
      clear hst5 hfr5 hk6
      refine hK17 _ _ ?_; clear hK17
      refine wp_block ?_
      have hlq18 := hlh6
      refine loop_any (T := [(5, _), (2, _), (3, _)]) (fun (y : Nat) => ([(7, .int .i64 (y : Int))] : List (Nat × Value))) (fun _ => _) (fun (y : Nat) m => (y ≤ t.arms.length)) (fun y => t.arms.length - y) (0) ⟨hst6, MLe.refl _, hfr6.sub (.cons rfl <| .cons rfl <| .cons rfl <| .cons rfl <| .nil), Nat.zero_le _⟩ fun y a7 w7 m7 hh7 => ?_
      have hst7 := hh7.st; have hle7 := hh7.le; have hfr7 := hh7.fr; have hrel := hh7.rel; clear hh7
      replace haa_t := haa_t.mono hle7
      replace haa_z := haa_z.mono hle7
      replace hc2 := hc2.mono hle7
      replace hc3 := hc3.mono hle7
      clear hst6 hfr6
      have hyn := hrel
      have hlh7 := hle7
      refine seq_any fun _ hK19 => ?_
      refine seq_any fun _ hK20 => ?_
      refine rp0 hst7 hfr7 (.cons rfl (ob_move rfl) <| .cons rfl (ob_fieldAddrO (off := 6) rfl Try.underlying33 rfl rfl Try.sizeOf25 rfl) <| .cons rfl (ob_load1 rfl hc2 Try.isAgg25 rfl) <| .cons rfl (ob_len rfl Try.underlying25) <| .cons rfl (ob_lss rfl rfl) <| .nil) ?_
      intro a8 w8 m8 hst8 hle8 hk8
      have hfr8 := hk8.fr (T' := [(7, _), (5, _), (2, _), (3, _), (79, _)]) (.old rfl rfl <| .old rfl rfl <| .old rfl rfl <| .old rfl rfl <| .new rfl <| .nil)
      replace haa_t := haa_t.mono hle8
      replace haa_z := haa_z.mono hle8
      replace hc2 := hc2.mono hle8
      replace hc3 := hc3.mono hle8
      have hlh8 := hlh7.trans hle8
      clear hst7 hfr7 hk8
      refine hK20 _ _ ?_; clear hK20
      refine cond_any hfr8 rfl rfl (fun hb79 => ?_) (fun hb79 => ?_)
      · try simp only [nq1, nq2, nq3, nq4, nq5, nq6, nq7, nq8, nq9, u8_eq] at hb79
        refine wp_skip ?_
        refine hK19 _ _ ?_; clear hK19
        refine seq_any fun _ hK21 => ?_
        refine wp_block ?_
        refine seq_any fun _ hK22 => ?_
        obtain ⟨p23, vs23, x23, ho23, hd23, hm_x23, ht23, hcv23, hl23, hv23⟩ := haa_t.nth (k := y) (by omega)
        cases ho23
        obtain ⟨oV23, cV23, bs23, rfl, hva23, hbd23⟩ := hv23.open_
        have hbv23 := hva23.big; have hcv23_ := hva23.cap
        obtain ⟨⟨oK23b, cK23b, oA23b, cA23b, oR23b, cR23b, t023b, t123b, t223b, t323b, t423b, t523b, u023b, u123b, u223b, u323b, u423b, u523b⟩, rfl, hon23b, hkk23b, haa23b, hrr23b⟩ := hbd23.open_
        dsimp only at hkk23b haa23b hrr23b
        have hbg23b := hkk23b.big; have hcp23b := hkk23b.cap; have hbh23b := haa23b.big; have hcq23b := haa23b.cap
        obtain ⟨p24, vs24, x24, ho24, hd24, hm_x24, ht24, hcv24, hl24, hv24⟩ := haa_z.nth (k := y) (by omega)
        cases ho24
        obtain ⟨oV24, cV24, bs24, rfl, hva24, hbd24⟩ := hv24.open_
        have hbv24 := hva24.big; have hcv24_ := hva24.cap
        obtain ⟨⟨oK24b, cK24b, oA24b, cA24b, oR24b, cR24b, t024b, t124b, t224b, t324b, t424b, t524b, u024b, u124b, u224b, u324b, u424b, u524b⟩, rfl, hon24b, hkk24b, haa24b, hrr24b⟩ := hbd24.open_
        dsimp only at hkk24b haa24b hrr24b
        have hbg24b := hkk24b.big; have hcp24b := hkk24b.cap; have hbh24b := haa24b.big; have hcq24b := haa24b.cap
        have hxe := hd23.symm.trans hd24
        injection hxe with hxe _
        subst hxe
        replace hst8 := hst8.more (r := .free) trivial List.nodup_nil (by simp [Res.blocks])
        refine ra0 (tch := [(5, 0, (fun v => .blk v _)), (6, 0, (fun v => .blk v _))]) hst8 hfr8 (.cons rfl (ob_fieldAddrO (off := 6) rfl Try.underlying33 rfl rfl Try.sizeOf25 rfl) <| .cons rfl (ob_load1 rfl hc2 Try.isAgg25 rfl) <| .cons rfl (ob_move rfl) <| .cons rfl (ob_indexAddr (k := y) rfl rfl Try.underlying25 Try.sizeOf40 rfl (by omega)) <| .cons rfl (ob_loadS' rfl hcv23 Try.isAgg40 Try.sizeOf40 rfl rfl) <| .consT rfl rfl (fun _ => rfl) rfl (ob_allocL Try.zeroValue40 rfl) <| .consT rfl rfl (fun _ => rfl) rfl (ob_imgT 8 rfl rfl rfl fun y8 => ob_storeF rfl rfl rfl rfl rfl Try.sizeOf40 rfl rfl hv23.one) <| .nil) ?_
        intro a9 w9 m9 hst9 hle9 hk9
        have hfr9 := hk9.fr (T' := [(7, _), (5, _), (2, _), (3, _)]) (.old rfl rfl <| .old rfl rfl <| .old rfl rfl <| .old rfl rfl <| .nil)
        obtain ⟨g25, e25, _⟩ := hk9.ex 8 rfl
        replace hfr9 := hfr9.cons e25
        replace hst9 := hst9.fin (L' := [_]) (.cons e25 <| .cons e25 <| .nil)
        try simp only [List.take_succ_cons, List.take_zero, List.drop_succ_cons, List.drop_zero, List.cons_append, List.nil_append, List.append_nil, List.length_cons, List.length_nil, Nat.zero_add, Nat.reduceAdd] at hst9
        replace hc3 := hc3.mono hle9
        replace hva23 := hva23.mono hle9
        replace hbd23 := hbd23.mono hle9
        replace hcv24 := hcv24.mono hle9
        replace hv24 := hv24.mono hle9
        replace hva24 := hva24.mono hle9
        replace hbd24 := hbd24.mono hle9
        have hlh9 := hlh8.trans hle9
        clear hst8 hfr8 hk9
        refine hK22 _ _ ?_; clear hK22
        refine seq_any fun _ hK26 => ?_
        replace hst9 := hst9.more (r := .free) trivial List.nodup_nil (by simp [Res.blocks])
        refine ra0 (tch := [(5, 1, (fun v => .blk v _)), (6, 1, (fun v => .blk v _))]) hst9 hfr9 (.cons rfl (ob_fieldAddrO (off := 6) rfl Try.underlying33 rfl rfl Try.sizeOf25 rfl) <| .cons rfl (ob_load1 rfl hc3 Try.isAgg25 rfl) <| .cons rfl (ob_move rfl) <| .cons rfl (ob_indexAddr (k := y) rfl rfl Try.underlying25 Try.sizeOf40 rfl (by omega)) <| .cons rfl (ob_loadS' rfl hcv24 Try.isAgg40 Try.sizeOf40 rfl rfl) <| .consT rfl rfl (fun _ => rfl) rfl (ob_allocL Try.zeroValue40 rfl) <| .consT rfl rfl (fun _ => rfl) rfl (ob_imgT 9 rfl rfl rfl fun y9 => ob_storeF rfl rfl rfl rfl rfl Try.sizeOf40 rfl rfl hv24.one) <| .nil) ?_
        intro a10 w10 m10 hst10 hle10 hk10
        have hfr10 := hk10.fr (T' := [(7, _), (5, _), (2, _), (3, _), (8, _)]) (.old rfl rfl <| .old rfl rfl <| .old rfl rfl <| .old rfl rfl <| .old rfl rfl <| .nil)
        obtain ⟨g27, e27, _⟩ := hk10.ex 9 rfl
        replace hfr10 := hfr10.cons e27
        replace hst10 := hst10.fin (L' := [_, _]) (.cons e27 <| .cons e27 <| .nil)
        try simp only [List.take_succ_cons, List.take_zero, List.drop_succ_cons, List.drop_zero, List.cons_append, List.nil_append, List.append_nil, List.length_cons, List.length_nil, Nat.zero_add, Nat.reduceAdd] at hst10
        replace hva23 := hva23.mono hle10
        replace hbd23 := hbd23.mono hle10
        replace hva24 := hva24.mono hle10
        replace hbd24 := hbd24.mono hle10
        have hlh10 := hlh9.trans hle10
        clear hst9 hfr9 hk10
        refine hK26 _ _ ?_; clear hK26
        refine seq_any fun _ hK28 => ?_
        refine rp0 hst10 hfr10 (.cons rfl (ob_fieldAddrO (off := 0) rfl Try.underlying40 rfl rfl Try.sizeOf9 rfl) <| .cons rfl (ob_loadL (j := 0) rfl rfl Try.isAgg9 rfl) <| .cons rfl (ob_fieldAddrO (off := 0) rfl Try.underlying40 rfl rfl Try.sizeOf9 rfl) <| .cons rfl (ob_loadL (j := 1) rfl rfl Try.isAgg9 rfl) <| .cons rfl (ob_seql rfl rfl) <| .cons rfl (ob_move rfl) <| .cons rfl (ob_fieldAddrO (off := 1) rfl Try.underlying40 rfl rfl Try.sizeOf27 rfl) <| .cons rfl (ob_loadL (j := 0) rfl rfl Try.isAgg27 rfl) <| .cons rfl (ob_fieldAddrO (off := 1) rfl Try.underlying40 rfl rfl Try.sizeOf27 rfl) <| .cons rfl (ob_loadL (j := 1) rfl rfl Try.isAgg27 rfl) <| .cons rfl (ob_callE rfl (.cons rfl <| .cons rfl <| .nil) Try.call18 (fun w m hK => by have hle_ := KC.le hK; have hA := KC.agree hK; have hva23 := hva23.mono hle_; have hva24 := hva24.mono hle_; exact sameNames_c hA hva23 hva24)) <| .cons rfl (ob_and rfl rfl rfl) <| .cons rfl (ob_move rfl) <| .cons rfl (ob_fieldAddrO (off := 2) rfl Try.underlying40 rfl rfl Try.sizeOf33 rfl) <| .cons rfl (ob_loadLS (j := 0) rfl rfl Try.isAgg33 Try.sizeOf33 rfl rfl) <| .cons rfl (ob_fieldAddrO (off := 2) rfl Try.underlying40 rfl rfl Try.sizeOf33 rfl) <| .cons rfl (ob_loadLS (j := 1) rfl rfl Try.isAgg33 Try.sizeOf33 rfl rfl) <| .cons rfl (ob_callE rfl (.cons rfl <| .cons rfl <| .nil) Try.call14 (fun w m hK => by have hle_ := KC.le hK; have hA := KC.agree hK; have hbd23 := hbd23.mono hle_; have hbd24 := hbd24.mono hle_; exact iha _ hm_x23 hA hbd23 hbd24)) <| .cons rfl (ob_and rfl rfl rfl) <| .cons rfl (ob_assign rfl) <| .nil) ?_
        intro a11 w11 m11 hst11 hle11 hk11
        have hfr11 := hk11.fr (T' := [(7, _), (5, _), (2, _), (3, _), (10, _)]) (.old rfl rfl <| .old rfl rfl <| .old rfl rfl <| .old rfl rfl <| .new rfl <| .nil)
        have hlh11 := hlh10.trans hle11
        clear hst10 hfr10 hk11
        refine hK28 _ _ ?_; clear hK28
        refine seq_any fun _ hK29 => ?_
        refine rp0 hst11 hfr11 (.cons rfl (ob_move rfl) <| .cons rfl (ob_not rfl) <| .nil) ?_
        intro a12 w12 m12 hst12 hle12 hk12
        have hfr12 := hk12.fr (T' := [(7, _), (5, _), (2, _), (3, _), (112, _)]) (.old rfl rfl <| .old rfl rfl <| .old rfl rfl <| .old rfl rfl <| .new rfl <| .nil)
        have hlh12 := hlh11.trans hle12
        clear hst11 hfr11 hk12
        refine hK29 _ _ ?_; clear hK29
        refine cond_any hfr12 rfl rfl (fun hb112 => ?_) (fun hb112 => ?_)
        · simp at hb112
        · try simp only [nq1, nq2, nq3, nq4, nq5, nq6, nq7, nq8, nq9, u8_eq] at hb112
          refine wp_skip ?_
          refine hK21 _ _ ?_; clear hK21
          refine rp0 hst12 hfr12 (.cons rfl (ob_move rfl) <| .cons rfl (ob_add rfl rfl ⟨by omega, by omega⟩) <| .cons rfl (ob_assign rfl) <| .nil) ?_
          intro a13 w13 m13 hst13 hle13 hk13
          have hfr13 := hk13.fr (T' := [(5, _), (2, _), (3, _), (7, _)]) (.old rfl rfl <| .old rfl rfl <| .old rfl rfl <| .new rfl <| .nil)
          have hlh13 := hlh12.trans hle13
          clear hst12 hfr12 hk13
          have hst13 := hst13.take 0
          exact ⟨y + 1, m13, by show t.arms.length - (y + 1) < t.arms.length - y; omega, ⟨hst13, hlh13, hfr13.sub (.cons rfl <| .cons rfl <| .cons rfl <| .cons rfl <| .nil), by show y + 1 ≤ t.arms.length; omega⟩⟩
      · try simp only [nq1, nq2, nq3, nq4, nq5, nq6, nq7, nq8, nq9, u8_eq] at hb79
        have hge : y = t.arms.length := by omega
        refine wp_exit ?_
        refine hK16 _ _ ?_; clear hK16
        refine seq_any fun _ hK30 => ?_
        refine rp0 hst8 hfr8 (.cons rfl (ob_assign rfl) <| .nil) ?_
        intro a9 w9 m9 hst9 hle9 hk9
        have hfr9 := hk9.fr (T' := [(7, _), (5, _), (4, _)]) (.old rfl rfl <| .old rfl rfl <| .new rfl <| .nil)
        have hlh9 := hlh8.trans hle9
        clear hst8 hfr8 hk9
        refine hK30 _ _ ?_; clear hK30
        refine wp_ret ?_
        repeat (with_reducible first | refine then_ret ?_ | refine block_ret ?_)
        exact fn_ret hst9 hfr9 rfl (.tmp rfl <| .nil) (rfl)
theorem same_c (t : Tm) : same_G t := Tm.rec_ (p := same_G) (fun t ihk iha => same_s ihk iha) t

end Go.Proofs.Ytppmbhjacjmfkaa
