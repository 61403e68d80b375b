/-
  Names: values, what is plain, what is quiet. Conditions: those of each theorem.
-/
import Derived.Test.YtppmbhjacjmfkaaFree4
namespace Go.Proofs.Ytppmbhjacjmfkaa
set_option linter.all false
set_option maxRecDepth 4000
open Go.RowKit
mutual
/-- A value. -/
def valueT : Tm → Bool
  | ⟨k, _, _, _, _, ks, _, _⟩ => decide (k = 1 ∨ k = 2 ∨ k = 3 ∨ k = 4 ∨ k = 5) || (decide (k = 11) && valueKs ks)
def valueKs : List Tm → Bool
  | [] => true
  | t :: ts => valueT t && valueKs ts
end
theorem valueT_eq (t : Tm) : valueT t = (decide (t.kind = 1 ∨ t.kind = 2 ∨ t.kind = 3 ∨ t.kind = 4 ∨ t.kind = 5) || (decide (t.kind = 11) && valueKs t.kids)) := by obtain ⟨k, a, s, p, n, ks, az, r⟩ := t; rw [valueT]; rfl
theorem valueKs_all : ∀ l : List Tm, valueKs l = l.all valueT
  | [] => rfl
  | t :: ts => by rw [valueKs, List.all_cons, valueKs_all ts]
mutual
/-- What calls nothing. -/
def plainT : Tm → Bool
  | ⟨k, _, _, _, _, ks, az, _⟩ => if k = 6 ∨ k = 13 ∨ k = 14 then false else if k = 5 then true else plainKs (decide (k = 8)) ks && plainAs az
def plainKs : Bool → List Tm → Bool
  | _, [] => true
  | b, t :: ts => (b || plainT t) && plainKs false ts
def plainAs : List Ar → Bool
  | [] => true
  | ⟨_, _, b⟩ :: ts => plainT b && plainAs ts
end
theorem plainT_eq (t : Tm) : plainT t = if t.kind = 6 ∨ t.kind = 13 ∨ t.kind = 14 then false else if t.kind = 5 then true else plainKs (decide (t.kind = 8)) t.kids && plainAs t.arms := by obtain ⟨k, a, s, p, n, ks, az, r⟩ := t; rw [plainT]; rfl
theorem plainKs_all : ∀ l : List Tm, plainKs false l = l.all plainT
  | [] => rfl
  | t :: ts => by rw [plainKs, List.all_cons, plainKs_all ts, Bool.false_or]
theorem plainKs_drop (l : List Tm) : plainKs true l = (l.drop 1).all plainT := by
  cases l with
  | nil => rfl
  | cons t ts => rw [plainKs, Bool.true_or, Bool.true_and, plainKs_all]; rfl
theorem plainKs_no {k : Int} {l : List Tm} (h : ¬ k = 8 ∨ l.length = 0) : l.all plainT = plainKs (decide (k = 8)) l := by
  rcases h with h | h
  · rw [decide_eq_false h, plainKs_all]
  · obtain rfl := List.eq_nil_of_length_eq_zero h; rfl
theorem plainAs_cons (a : Ar) (ts : List Ar) : plainAs (a :: ts) = (plainT a.body && plainAs ts) := by obtain ⟨x, l, b⟩ := a; rw [plainAs]; rfl
theorem plainAs_all : ∀ l : List Ar, plainAs l = (l.map Ar.body).all plainT
  | [] => rfl
  | a :: ts => by rw [plainAs_cons, List.map_cons, List.all_cons, plainAs_all ts]
def consoleS : Str := [99, 111, 110, 115, 111, 108, 101]
def calmS (ls : List Str) (rv : Int) : Bool := decide (rv = 0) && !ls.any (fun s => !decide (s = consoleS))
set_option maxHeartbeats 400000 in
theorem indexfTm_c {w : World} {m : Mem} {o_l : Option Addr} {c_l : Nat} {l : List Tm} {cid : Nat} {cap : List Value} {φ : Tm → Bool} (hA : Agree w m) (h_l : Tms m o_l l.length c_l l) (hc : ∀ args w, (callFunc cid args).run Try.prog w = .ok (.enter cid args) w) (hφ : ∀ w m' (t : Tm) vs, MLe m m' → Agree w m' → TmR m' t vs → t ∈ l → FnV Try.prog cid ([Value.agg vs.toArray] ++ cap).toArray w m' (fun _ _ v => v = .bool (φ t))) : FnV Try.prog 67 #[.slice o_l l.length c_l, .func (.func cid) #[] cap.toArray] w m (fun _ _ v => ∃ i : Int, v = .int .i64 i ∧ decide (0 ≤ i) = l.any φ) := by
  have hb_l := h_l.big; have hc_l := h_l.cap
  refine fn_enter (vs := [_, _]) Try.func67 rfl rfl rfl fun a0 hfr0 => ?_
  have hst0 := st_enter hA (loc_nil [] _ w m)
  have hM : MLe m m := MLe.refl m
  refine seq_any fun _ hK1 => ?_
  refine rp0 hst0 hfr0 (.cons rfl (ob_assign rfl) <| .nil) ?_
  intro a1 w1 m1 hst1 hle1 hk1
  have hfr1 := hk1.fr (T' := [(0, _), (1, _)]) (.old rfl rfl <| .old rfl rfl <| .nil)
  replace h_l := h_l.mono hle1
  replace hM := hM.trans hle1
  clear hst0 hfr0 hk1
  refine hK1 _ _ ?_; clear hK1
  refine seq_any fun _ hK2 => ?_
  refine seq_any fun _ hK3 => ?_
  refine rp0 hst1 hfr1 (.cons rfl (ob_move rfl) <| .cons rfl (ob_len rfl Try.underlying24) <| .cons rfl (ob_move rfl) <| .nil) ?_
  intro a2 w2 m2 hst2 hle2 hk2
  have hfr2 := hk2.fr (T' := [(0, _), (1, _), (7, _), (8, _)]) (.old rfl rfl <| .old rfl rfl <| .new rfl <| .new rfl <| .nil)
  replace h_l := h_l.mono hle2
  replace hM := hM.trans hle2
  clear hst1 hfr1 hk2
  refine hK3 _ _ ?_; clear hK3
  refine wp_block ?_
  refine loop_any (T := [(0, _), (1, _), (7, _)]) (fun (y : Nat) => ([(8, .int .i64 (y : Int))] : List (Nat × Value))) (fun _ => _) (fun (y : Nat) m => (y ≤ l.length) ∧ (l.any φ = (l.drop y).any φ)) (fun y => l.length - y) (0) ⟨hst2, MLe.refl _, hfr2.sub (.cons rfl <| .cons rfl <| .cons rfl <| .cons rfl <| .nil), ⟨Nat.zero_le _, rfl⟩⟩ fun y a3 w3 m3 hh3 => ?_
  have hst3 := hh3.st; have hle3 := hh3.le; have hfr3 := hh3.fr; have hrel := hh3.rel; clear hh3
  replace h_l := h_l.mono hle3
  clear hst2 hfr2
  replace hM := hM.trans hle3
  obtain ⟨hyn, hrem⟩ := hrel
  have hlh3 := hle3
  refine seq_any fun _ hK5 => ?_
  refine rp0 hst3 hfr3 (.cons rfl (ob_lss rfl rfl) <| .nil) ?_
  intro a4 w4 m4 hst4 hle4 hk4
  have hfr4 := hk4.fr (T' := [(8, _), (0, _), (1, _), (7, _), (9, _)]) (.old rfl rfl <| .old rfl rfl <| .old rfl rfl <| .old rfl rfl <| .new rfl <| .nil)
  replace h_l := h_l.mono hle4
  have hlh4 := hlh3.trans hle4
  replace hM := hM.trans hle4
  clear hst3 hfr3 hk4
  refine hK5 _ _ ?_; clear hK5
  refine seq_any fun _ hK6 => ?_
  refine cond_any hfr4 rfl rfl (fun hb9 => ?_) (fun hb9 => ?_)
  · try simp only [nq1, nq2, nq3, nq4, nq5, nq6, nq7, nq8, nq9, u8_eq] at hb9
    refine wp_skip ?_
    refine hK6 _ _ ?_; clear hK6
    refine seq_any fun _ hK7 => ?_
    refine wp_block ?_
    refine seq_any fun _ hK8 => ?_
    refine rp0 hst4 hfr4 (.cons rfl (ob_move rfl) <| .cons rfl (ob_assign rfl) <| .nil) ?_
    intro a5 w5 m5 hst5 hle5 hk5
    have hfr5 := hk5.fr (T' := [(8, _), (0, _), (1, _), (7, _), (5, _)]) (.old rfl rfl <| .old rfl rfl <| .old rfl rfl <| .old rfl rfl <| .new rfl <| .nil)
    replace h_l := h_l.mono hle5
    have hlh5 := hlh4.trans hle5
    replace hM := hM.trans hle5
    clear hst4 hfr4 hk5
    refine hK8 _ _ ?_; clear hK8
    refine seq_any fun _ hK9 => ?_
    obtain ⟨p10, vs10, x10, ho10, hd10, hm_x10, ht10, hcv10, hl10, hv10⟩ := h_l.nth (k := y) (by omega)
    cases ho10
    obtain ⟨⟨oK10, cK10, oA10, cA10, oR10, cR10, t010, t110, t210, t310, t410, t510, u010, u110, u210, u310, u410, u510⟩, rfl, hon10, hkk10, haa10, hrr10⟩ := hv10.open_
    dsimp only at hkk10 haa10 hrr10
    have hbg10 := hkk10.big; have hcp10 := hkk10.cap; have hbh10 := haa10.big; have hcq10 := haa10.cap
    try rw [hd10] at hrem
    try simp only [List.any_cons, List.any_nil] at hrem
    refine rp0 hst5 hfr5 (.cons rfl (ob_move rfl) <| .cons rfl (ob_move rfl) <| .cons rfl (ob_move rfl) <| .cons rfl (ob_indexAddr (k := y) rfl rfl Try.underlying24 Try.sizeOf33 rfl (by omega)) <| .cons rfl (ob_loadS' rfl hcv10 Try.isAgg33 Try.sizeOf33 rfl rfl) <| .cons rfl (ob_callE rfl (.cons rfl <| .nil) hc (fun w m hK => by have hle_ := KC.le hK; have hA := KC.agree hK; have hM := hM.trans hle_; have h_l := h_l.mono hle_; have hcv10 := hcv10.mono hle_; have hv10 := hv10.mono hle_; have hkk10 := hkk10.mono hle_; have haa10 := haa10.mono hle_; have hrr10 := hrr10.mono hle_; exact hφ w m _ _ hM hA (by assumption) hm_x10)) <| .nil) ?_
    intro a6 w6 m6 hst6 hle6 hk6
    have hfr6 := hk6.fr (T' := [(8, _), (0, _), (1, _), (7, _), (5, _), (16, _)]) (.old rfl rfl <| .old rfl rfl <| .old rfl rfl <| .old rfl rfl <| .old rfl rfl <| .new rfl <| .nil)
    have hlh6 := hlh5.trans hle6
    clear hst5 hfr5 hk6
    refine hK9 _ _ ?_; clear hK9
    refine cond_any hfr6 rfl rfl (fun hb16 => ?_) (fun hb16 => ?_)
    · try simp only [nq1, nq2, nq3, nq4, nq5, nq6, nq7, nq8, nq9, u8_eq] at hb16
      have hres : decide ((0 : Int) ≤ (y : Int)) = l.any φ := by rw [hrem, hb16]; simp
      refine seq_any fun _ hK11 => ?_
      refine rp0 hst6 hfr6 (.cons rfl (ob_move rfl) <| .cons rfl (ob_assign rfl) <| .nil) ?_
      intro a7 w7 m7 hst7 hle7 hk7
      have hfr7 := hk7.fr (T' := [(8, _), (4, _)]) (.old rfl rfl <| .new rfl <| .nil)
      have hlh7 := hlh6.trans hle7
      clear hst6 hfr6 hk7
      refine hK11 _ _ ?_; clear hK11
      refine wp_ret ?_
      repeat (with_reducible first | refine then_ret ?_ | refine block_ret ?_)
      exact fn_ret hst7 hfr7 rfl (.tmp rfl <| .nil) (⟨_, rfl, by first | exact hres | (rw [hrem]; rfl)⟩)
    · try simp only [nq1, nq2, nq3, nq4, nq5, nq6, nq7, nq8, nq9, u8_eq] at hb16
      refine wp_skip ?_
      refine hK7 _ _ ?_; clear hK7
      refine rp0 hst6 hfr6 (.cons rfl (ob_add rfl rfl ⟨by omega, by omega⟩) <| .cons rfl (ob_move rfl) <| .nil) ?_
      intro a7 w7 m7 hst7 hle7 hk7
      have hfr7 := hk7.fr (T' := [(0, _), (1, _), (7, _), (8, _)]) (.old rfl rfl <| .old rfl rfl <| .old rfl rfl <| .new rfl <| .nil)
      have hlh7 := hlh6.trans hle7
      clear hst6 hfr6 hk7
      exact ⟨y + 1, m7, by show l.length - (y + 1) < l.length - y; omega, ⟨hst7, hlh7, hfr7.sub (.cons rfl <| .cons rfl <| .cons rfl <| .cons rfl <| .nil), ⟨by show y + 1 ≤ l.length; omega, by rw [hrem, hb16]; rfl⟩⟩⟩
  · try simp only [nq1, nq2, nq3, nq4, nq5, nq6, nq7, nq8, nq9, u8_eq] at hb9
    have hge : y = l.length := by omega
    rw [List.drop_of_length_le (by omega)] at hrem
    simp only [List.any_cons, List.any_nil] at hrem
    refine wp_exit ?_
    refine hK2 _ _ ?_; clear hK2
    refine seq_any fun _ hK13 => ?_
    refine rp0 hst4 hfr4 (.cons rfl (ob_assign rfl) <| .nil) ?_
    intro a5 w5 m5 hst5 hle5 hk5
    have hfr5 := hk5.fr (T' := [(8, _), (4, _)]) (.old rfl rfl <| .new rfl <| .nil)
    have hlh5 := hlh4.trans hle5
    clear hst4 hfr4 hk5
    refine hK13 _ _ ?_; clear hK13
    refine wp_ret ?_
    repeat (with_reducible first | refine then_ret ?_ | refine block_ret ?_)
    exact fn_ret hst5 hfr5 rfl (.tmp rfl <| .nil) (⟨_, rfl, by first | exact hres | (rw [hrem]; rfl)⟩)

set_option maxHeartbeats 400000 in
theorem containsfTm_c {w : World} {m : Mem} {o_l : Option Addr} {c_l : Nat} {l : List Tm} {cid : Nat} {cap : List Value} {φ : Tm → Bool} (hA : Agree w m) (h_l : Tms m o_l l.length c_l l) (hc : ∀ args w, (callFunc cid args).run Try.prog w = .ok (.enter cid args) w) (hφ : ∀ w m' (t : Tm) vs, MLe m m' → Agree w m' → TmR m' t vs → t ∈ l → FnV Try.prog cid ([Value.agg vs.toArray] ++ cap).toArray w m' (fun _ _ v => v = .bool (φ t))) : FnV Try.prog 46 #[.slice o_l l.length c_l, .func (.func cid) #[] cap.toArray] w m (fun _ _ v => v = .bool (l.any φ)) := by
  have hb_l := h_l.big; have hc_l := h_l.cap
  refine fn_enter (vs := [_, _]) Try.func46 rfl rfl rfl fun a0 hfr0 => ?_
  have hst0 := st_enter hA (loc_nil [] _ w m)
  have hM : MLe m m := MLe.refl m
  refine seq_any fun _ hK1 => ?_
  refine rp0 hst0 hfr0 (.cons rfl (ob_assign rfl) <| .nil) ?_
  intro a1 w1 m1 hst1 hle1 hk1
  have hfr1 := hk1.fr (T' := [(0, _), (1, _)]) (.old rfl rfl <| .old rfl rfl <| .nil)
  replace h_l := h_l.mono hle1
  replace hM := hM.trans hle1
  clear hst0 hfr0 hk1
  refine hK1 _ _ ?_; clear hK1
  refine seq_any fun _ hK2 => ?_
  refine ra0 (tch := []) hst1 hfr1 (.cons rfl (ob_move rfl) <| .cons rfl (ob_move rfl) <| .cons rfl (ob_call (φ := MP.mem (fun i : Int => .int .i64 i) (fun i _ => decide (0 ≤ i) = l.any φ) (fun _ h => h)) rfl (.cons rfl <| .cons rfl <| .nil) Try.call67 (fun w m hK => by have hle_ := KC.le hK; have hA := KC.agree hK; have hM := hM.trans hle_; have h_l := h_l.mono hle_; exact FnG.mono (indexfTm_c (φ := φ) hA h_l hc (fun w m2 t vs hm ha hv ht => hφ w m2 t vs (hM.trans hm) ha hv ht)) fun _ _ _ _ h => h)) <| .cons rfl (ob_imgV 7 rfl rfl rfl fun y7 => ob_geq rfl rfl) <| .consA 8 rfl rfl <| .nil) ?_
  intro a2 w2 m2 hst2 hle2 hk2
  have hfr2 := hk2.fr (T' := []) (.nil)
  obtain ⟨i, e3, hi⟩ := hk2.ex 8 rfl
  replace hfr2 := hfr2.cons (hk2.same 4 rfl e3)
  clear hst1 hfr1 hk2
  refine hK2 _ _ ?_; clear hK2
  refine wp_ret ?_
  repeat (with_reducible first | refine then_ret ?_ | refine block_ret ?_)
  exact fn_ret hst2 hfr2 rfl (.tmp rfl <| .nil) (by dsimp only at hi; rw [← hi]; rfl)

set_option maxHeartbeats 400000 in
theorem indexfS_c {w : World} {m : Mem} {o_l : Option Addr} {c_l : Nat} {l : List Str} {cid : Nat} {cap : List Value} {φ : Str → Bool} (hA : Agree w m) (h_l : Strs m o_l l.length c_l l) (hc : ∀ args w, (callFunc cid args).run Try.prog w = .ok (.enter cid args) w) (hφ : ∀ w m' (t : Str), MLe m m' → Agree w m' → t ∈ l → FnV Try.prog cid ([S t] ++ cap).toArray w m' (fun _ _ v => v = .bool (φ t))) : FnV Try.prog 68 #[.slice o_l l.length c_l, .func (.func cid) #[] cap.toArray] w m (fun _ _ v => ∃ i : Int, v = .int .i64 i ∧ decide (0 ≤ i) = l.any φ) := by
  have hb_l := h_l.big; have hc_l := h_l.cap
  refine fn_enter (vs := [_, _]) Try.func68 rfl rfl rfl fun a0 hfr0 => ?_
  have hst0 := st_enter hA (loc_nil [] _ w m)
  have hM : MLe m m := MLe.refl m
  refine seq_any fun _ hK1 => ?_
  refine rp0 hst0 hfr0 (.cons rfl (ob_assign rfl) <| .nil) ?_
  intro a1 w1 m1 hst1 hle1 hk1
  have hfr1 := hk1.fr (T' := [(0, _), (1, _)]) (.old rfl rfl <| .old rfl rfl <| .nil)
  replace h_l := h_l.mono hle1
  replace hM := hM.trans hle1
  clear hst0 hfr0 hk1
  refine hK1 _ _ ?_; clear hK1
  refine seq_any fun _ hK2 => ?_
  refine seq_any fun _ hK3 => ?_
  refine rp0 hst1 hfr1 (.cons rfl (ob_move rfl) <| .cons rfl (ob_len rfl Try.underlying27) <| .cons rfl (ob_move rfl) <| .nil) ?_
  intro a2 w2 m2 hst2 hle2 hk2
  have hfr2 := hk2.fr (T' := [(0, _), (1, _), (7, _), (8, _)]) (.old rfl rfl <| .old rfl rfl <| .new rfl <| .new rfl <| .nil)
  replace h_l := h_l.mono hle2
  replace hM := hM.trans hle2
  clear hst1 hfr1 hk2
  refine hK3 _ _ ?_; clear hK3
  refine wp_block ?_
  refine loop_any (T := [(0, _), (1, _), (7, _)]) (fun (y : Nat) => ([(8, .int .i64 (y : Int))] : List (Nat × Value))) (fun _ => _) (fun (y : Nat) m => (y ≤ l.length) ∧ (l.any φ = (l.drop y).any φ)) (fun y => l.length - y) (0) ⟨hst2, MLe.refl _, hfr2.sub (.cons rfl <| .cons rfl <| .cons rfl <| .cons rfl <| .nil), ⟨Nat.zero_le _, rfl⟩⟩ fun y a3 w3 m3 hh3 => ?_
  have hst3 := hh3.st; have hle3 := hh3.le; have hfr3 := hh3.fr; have hrel := hh3.rel; clear hh3
  replace h_l := h_l.mono hle3
  clear hst2 hfr2
  replace hM := hM.trans hle3
  obtain ⟨hyn, hrem⟩ := hrel
  have hlh3 := hle3
  refine seq_any fun _ hK5 => ?_
  refine rp0 hst3 hfr3 (.cons rfl (ob_lss rfl rfl) <| .nil) ?_
  intro a4 w4 m4 hst4 hle4 hk4
  have hfr4 := hk4.fr (T' := [(8, _), (0, _), (1, _), (7, _), (9, _)]) (.old rfl rfl <| .old rfl rfl <| .old rfl rfl <| .old rfl rfl <| .new rfl <| .nil)
  replace h_l := h_l.mono hle4
  have hlh4 := hlh3.trans hle4
  replace hM := hM.trans hle4
  clear hst3 hfr3 hk4
  refine hK5 _ _ ?_; clear hK5
  refine seq_any fun _ hK6 => ?_
  refine cond_any hfr4 rfl rfl (fun hb9 => ?_) (fun hb9 => ?_)
  · try simp only [nq1, nq2, nq3, nq4, nq5, nq6, nq7, nq8, nq9, u8_eq] at hb9
    refine wp_skip ?_
    refine hK6 _ _ ?_; clear hK6
    refine seq_any fun _ hK7 => ?_
    refine wp_block ?_
    refine seq_any fun _ hK8 => ?_
    refine rp0 hst4 hfr4 (.cons rfl (ob_move rfl) <| .cons rfl (ob_assign rfl) <| .nil) ?_
    intro a5 w5 m5 hst5 hle5 hk5
    have hfr5 := hk5.fr (T' := [(8, _), (0, _), (1, _), (7, _), (5, _)]) (.old rfl rfl <| .old rfl rfl <| .old rfl rfl <| .old rfl rfl <| .new rfl <| .nil)
    replace h_l := h_l.mono hle5
    have hlh5 := hlh4.trans hle5
    replace hM := hM.trans hle5
    clear hst4 hfr4 hk5
    refine hK8 _ _ ?_; clear hK8
    refine seq_any fun _ hK9 => ?_
    obtain ⟨p10, vs10, x10, ho10, hd10, hm_x10, ht10, hcv10, hl10, hv10⟩ := h_l.nth (k := y) (by omega)
    cases ho10
    subst hv10
    try rw [hd10] at hrem
    try simp only [List.any_cons, List.any_nil] at hrem
    refine rp0 hst5 hfr5 (.cons rfl (ob_move rfl) <| .cons rfl (ob_move rfl) <| .cons rfl (ob_move rfl) <| .cons rfl (ob_indexAddr (k := y) rfl rfl Try.underlying27 Try.sizeOf9 rfl (by omega)) <| .cons rfl (ob_load1' rfl hcv10 Try.isAgg9 rfl) <| .cons rfl (ob_callE rfl (.cons rfl <| .nil) hc (fun w m hK => by have hle_ := KC.le hK; have hA := KC.agree hK; have hM := hM.trans hle_; exact hφ w m _ hM hA hm_x10)) <| .nil) ?_
    intro a6 w6 m6 hst6 hle6 hk6
    have hfr6 := hk6.fr (T' := [(8, _), (0, _), (1, _), (7, _), (5, _), (16, _)]) (.old rfl rfl <| .old rfl rfl <| .old rfl rfl <| .old rfl rfl <| .old rfl rfl <| .new rfl <| .nil)
    have hlh6 := hlh5.trans hle6
    clear hst5 hfr5 hk6
    refine hK9 _ _ ?_; clear hK9
    refine cond_any hfr6 rfl rfl (fun hb16 => ?_) (fun hb16 => ?_)
    · try simp only [nq1, nq2, nq3, nq4, nq5, nq6, nq7, nq8, nq9, u8_eq] at hb16
      have hres : decide ((0 : Int) ≤ (y : Int)) = l.any φ := by rw [hrem, hb16]; simp
      refine seq_any fun _ hK11 => ?_
      refine rp0 hst6 hfr6 (.cons rfl (ob_move rfl) <| .cons rfl (ob_assign rfl) <| .nil) ?_
      intro a7 w7 m7 hst7 hle7 hk7
      have hfr7 := hk7.fr (T' := [(8, _), (4, _)]) (.old rfl rfl <| .new rfl <| .nil)
      have hlh7 := hlh6.trans hle7
      clear hst6 hfr6 hk7
      refine hK11 _ _ ?_; clear hK11
      refine wp_ret ?_
      repeat (with_reducible first | refine then_ret ?_ | refine block_ret ?_)
      exact fn_ret hst7 hfr7 rfl (.tmp rfl <| .nil) (⟨_, rfl, by first | exact hres | (rw [hrem]; rfl)⟩)
    · try simp only [nq1, nq2, nq3, nq4, nq5, nq6, nq7, nq8, nq9, u8_eq] at hb16
      refine wp_skip ?_
      refine hK7 _ _ ?_; clear hK7
      refine rp0 hst6 hfr6 (.cons rfl (ob_add rfl rfl ⟨by omega, by omega⟩) <| .cons rfl (ob_move rfl) <| .nil) ?_
      intro a7 w7 m7 hst7 hle7 hk7
      have hfr7 := hk7.fr (T' := [(0, _), (1, _), (7, _), (8, _)]) (.old rfl rfl <| .old rfl rfl <| .old rfl rfl <| .new rfl <| .nil)
      have hlh7 := hlh6.trans hle7
      clear hst6 hfr6 hk7
      exact ⟨y + 1, m7, by show l.length - (y + 1) < l.length - y; omega, ⟨hst7, hlh7, hfr7.sub (.cons rfl <| .cons rfl <| .cons rfl <| .cons rfl <| .nil), ⟨by show y + 1 ≤ l.length; omega, by rw [hrem, hb16]; rfl⟩⟩⟩
  · try simp only [nq1, nq2, nq3, nq4, nq5, nq6, nq7, nq8, nq9, u8_eq] at hb9
    have hge : y = l.length := by omega
    rw [List.drop_of_length_le (by omega)] at hrem
    simp only [List.any_cons, List.any_nil] at hrem
    refine wp_exit ?_
    refine hK2 _ _ ?_; clear hK2
    refine seq_any fun _ hK13 => ?_
    refine rp0 hst4 hfr4 (.cons rfl (ob_assign rfl) <| .nil) ?_
    intro a5 w5 m5 hst5 hle5 hk5
    have hfr5 := hk5.fr (T' := [(8, _), (4, _)]) (.old rfl rfl <| .new rfl <| .nil)
    have hlh5 := hlh4.trans hle5
    clear hst4 hfr4 hk5
    refine hK13 _ _ ?_; clear hK13
    refine wp_ret ?_
    repeat (with_reducible first | refine then_ret ?_ | refine block_ret ?_)
    exact fn_ret hst5 hfr5 rfl (.tmp rfl <| .nil) (⟨_, rfl, by first | exact hres | (rw [hrem]; rfl)⟩)

set_option maxHeartbeats 400000 in
theorem containsfS_c {w : World} {m : Mem} {o_l : Option Addr} {c_l : Nat} {l : List Str} {cid : Nat} {cap : List Value} {φ : Str → Bool} (hA : Agree w m) (h_l : Strs m o_l l.length c_l l) (hc : ∀ args w, (callFunc cid args).run Try.prog w = .ok (.enter cid args) w) (hφ : ∀ w m' (t : Str), MLe m m' → Agree w m' → t ∈ l → FnV Try.prog cid ([S t] ++ cap).toArray w m' (fun _ _ v => v = .bool (φ t))) : FnV Try.prog 48 #[.slice o_l l.length c_l, .func (.func cid) #[] cap.toArray] w m (fun _ _ v => v = .bool (l.any φ)) := by
  have hb_l := h_l.big; have hc_l := h_l.cap
  refine fn_enter (vs := [_, _]) Try.func48 rfl rfl rfl fun a0 hfr0 => ?_
  have hst0 := st_enter hA (loc_nil [] _ w m)
  have hM : MLe m m := MLe.refl m
  refine seq_any fun _ hK1 => ?_
  refine rp0 hst0 hfr0 (.cons rfl (ob_assign rfl) <| .nil) ?_
  intro a1 w1 m1 hst1 hle1 hk1
  have hfr1 := hk1.fr (T' := [(0, _), (1, _)]) (.old rfl rfl <| .old rfl rfl <| .nil)
  replace h_l := h_l.mono hle1
  replace hM := hM.trans hle1
  clear hst0 hfr0 hk1
  refine hK1 _ _ ?_; clear hK1
  refine seq_any fun _ hK2 => ?_
  refine ra0 (tch := []) hst1 hfr1 (.cons rfl (ob_move rfl) <| .cons rfl (ob_move rfl) <| .cons rfl (ob_call (φ := MP.mem (fun i : Int => .int .i64 i) (fun i _ => decide (0 ≤ i) = l.any φ) (fun _ h => h)) rfl (.cons rfl <| .cons rfl <| .nil) Try.call68 (fun w m hK => by have hle_ := KC.le hK; have hA := KC.agree hK; have hM := hM.trans hle_; have h_l := h_l.mono hle_; exact FnG.mono (indexfS_c (φ := φ) hA h_l hc (fun w m2 t hm ha ht => hφ w m2 t (hM.trans hm) ha ht)) fun _ _ _ _ h => h)) <| .cons rfl (ob_imgV 7 rfl rfl rfl fun y7 => ob_geq rfl rfl) <| .consA 8 rfl rfl <| .nil) ?_
  intro a2 w2 m2 hst2 hle2 hk2
  have hfr2 := hk2.fr (T' := []) (.nil)
  obtain ⟨i, e3, hi⟩ := hk2.ex 8 rfl
  replace hfr2 := hfr2.cons (hk2.same 4 rfl e3)
  clear hst1 hfr1 hk2
  refine hK2 _ _ ?_; clear hK2
  refine wp_ret ?_
  repeat (with_reducible first | refine then_ret ?_ | refine block_ret ?_)
  exact fn_ret hst2 hfr2 rfl (.tmp rfl <| .nil) (by dsimp only at hi; rw [← hi]; rfl)

set_option maxHeartbeats 400000 in
theorem all1_c {w : World} {m : Mem} {t : Tm} {vs_t : List Value} {q : Addr} {fid : Nat} {φ : Tm → Bool} (hA : Agree w m) (h_t : TmR m t vs_t) (hq : CellsAt m q [.func (.func fid) #[] #[]]) (hc : ∀ args w, (callFunc fid args).run Try.prog w = .ok (.enter fid args) w) (hφ : ∀ w m' vs, MLe m m' → Agree w m' → TmR m' t vs → FnV Try.prog fid ([Value.agg vs.toArray]).toArray w m' (fun _ _ v => v = .bool (φ t))) : FnV Try.prog 47 #[.agg vs_t.toArray, .pointer (some q)] w m (fun _ _ v => v = .bool (!φ t)) := by
  obtain ⟨⟨oK_t, cK_t, oA_t, cA_t, oR_t, cR_t, t0_t, t1_t, t2_t, t3_t, t4_t, t5_t, u0_t, u1_t, u2_t, u3_t, u4_t, u5_t⟩, rfl, hon_t, hkk_t, haa_t, hrr_t⟩ := h_t.open_
  dsimp only at hkk_t haa_t hrr_t
  have hbg_t := hkk_t.big; have hcp_t := hkk_t.cap; have hbh_t := haa_t.big; have hcq_t := haa_t.cap
  refine fn_enter (vs := [_, _]) Try.func47 rfl rfl rfl fun a0 hfr0 => ?_
  have hst0 := st_enter hA (loc_nil [] _ w m)
  have hM : MLe m m := MLe.refl m
  refine seq_any fun _ hK1 => ?_
  refine rp0 hst0 hfr0 (.cons rfl (ob_box rfl rfl) <| .cons rfl (ob_assign rfl) <| .nil) ?_
  intro a1 w1 m1 hst1 hle1 hk1
  have hfr1 := hk1.fr (T' := [(1, _)]) (.old rfl rfl <| .nil)
  obtain ⟨g2, e2, hc2⟩ := hk1.ex 2 rfl
  replace hfr1 := hfr1.cons e2
  replace h_t := h_t.mono hle1
  replace hq := hq.mono hle1
  replace hM := hM.trans hle1
  clear hst0 hfr0 hk1
  refine hK1 _ _ ?_; clear hK1
  refine seq_any fun _ hK3 => ?_
  refine rp0 hst1 hfr1 (.cons rfl (ob_load1' rfl hq Try.isAgg52 rfl) <| .cons rfl (ob_loadS' rfl hc2 Try.isAgg33 Try.sizeOf33 rfl rfl) <| .cons rfl (ob_callE rfl (.cons rfl <| .nil) hc (fun w m hK => by have hle_ := KC.le hK; have hA := KC.agree hK; have hM := hM.trans hle_; have h_t := h_t.mono hle_; exact hφ w m _ hM hA h_t)) <| .cons rfl (ob_not rfl) <| .cons rfl (ob_assign rfl) <| .nil) ?_
  intro a2 w2 m2 hst2 hle2 hk2
  have hfr2 := hk2.fr (T' := [(3, _)]) (.new rfl <| .nil)
  clear hst1 hfr1 hk2
  refine hK3 _ _ ?_; clear hK3
  refine wp_ret ?_
  repeat (with_reducible first | refine then_ret ?_ | refine block_ret ?_)
  exact fn_ret hst2 hfr2 rfl (.tmp rfl <| .nil) (rfl)

set_option maxHeartbeats 400000 in
theorem all_c {w : World} {m : Mem} {fid : Nat} {φ : Tm → Bool} {o_l : Option Addr} {c_l : Nat} {l : List Tm} (hA : Agree w m) (h_l : Tms m o_l l.length c_l l) (hc : ∀ args w, (callFunc fid args).run Try.prog w = .ok (.enter fid args) w) (hφ : ∀ w m' (u : Tm) vs, MLe m m' → Agree w m' → TmR m' u vs → u ∈ l → FnV Try.prog fid ([Value.agg vs.toArray]).toArray w m' (fun _ _ v => v = .bool (φ u))) : FnV Try.prog 35 #[.func (.func fid) #[] #[], .slice o_l l.length c_l] w m (fun _ _ v => v = .bool (l.all φ)) := by
  have hb_l := h_l.big; have hc_l := h_l.cap
  refine fn_enter (vs := [_, _]) Try.func35 rfl rfl rfl fun a0 hfr0 => ?_
  have hst0 := st_enter hA (loc_nil [] _ w m)
  have hM : MLe m m := MLe.refl m
  refine seq_any fun _ hK1 => ?_
  refine rp0 hst0 hfr0 (.cons rfl (ob_box rfl rfl) <| .cons rfl (ob_assign rfl) <| .nil) ?_
  intro a1 w1 m1 hst1 hle1 hk1
  have hfr1 := hk1.fr (T' := [(1, _)]) (.old rfl rfl <| .nil)
  obtain ⟨g9, e2, hg9⟩ := hk1.ex 2 rfl
  replace hfr1 := hfr1.cons e2
  replace h_l := h_l.mono hle1
  replace hM := hM.trans hle1
  clear hst0 hfr0 hk1
  refine hK1 _ _ ?_; clear hK1
  refine seq_any fun _ hK3 => ?_
  refine rp0 hst1 hfr1 (.cons rfl (ob_move rfl) <| .cons rfl (ob_makeFunc (.cons rfl <| .nil)) <| .cons rfl (ob_callE rfl (.cons rfl <| .cons rfl <| .nil) Try.call46 (fun w m hK => by have hle_ := KC.le hK; have hA := KC.agree hK; have hM := hM.trans hle_; have h_l := h_l.mono hle_; have hg9 := hg9.mono hle_; exact containsfTm_c (φ := fun u => !φ u) (cap := [.pointer (some ⟨g9, 0, none⟩)]) hA h_l Try.call47 (fun w m2 u vs hm ha hv hu => all1_c ha hv (hg9.mono hm) hc (fun w m3 vs3 hm3 ha3 hv3 => hφ w m3 u vs3 ((hM.trans hm).trans hm3) ha3 hv3 hu)))) <| .cons rfl (ob_not rfl) <| .cons rfl (ob_assign rfl) <| .nil) ?_
  intro a2 w2 m2 hst2 hle2 hk2
  have hfr2 := hk2.fr (T' := [(4, _)]) (.new rfl <| .nil)
  clear hst1 hfr1 hk2
  refine hK3 _ _ ?_; clear hK3
  refine wp_ret ?_
  repeat (with_reducible first | refine then_ret ?_ | refine block_ret ?_)
  exact fn_ret hst2 hfr2 rfl (.tmp rfl <| .nil) (by refine congrArg Value.bool ?_; rw [← List.not_all_eq_any_not]; simp)

abbrev value_G (t : Tm) : Prop := ∀ {w : World} {m : Mem} {vs_t : List Value} (hA : Agree w m) (h_t : TmR m t vs_t), FnV Try.prog 21 #[.agg vs_t.toArray] w m (fun _ _ v => v = .bool (valueT t))
set_option maxHeartbeats 400000 in
theorem value_s {t : Tm} (ihk : ∀ u ∈ t.kids, value_G u) (iha : ∀ a ∈ t.arms, value_G a.body) {w : World} {m : Mem} {vs_t : List Value} (hA : Agree w m) (h_t : TmR m t vs_t) : FnV Try.prog 21 #[.agg vs_t.toArray] w m (fun _ _ v => v = .bool (valueT t)) := by
  obtain ⟨⟨oK_t, cK_t, oA_t, cA_t, oR_t, cR_t, t0_t, t1_t, t2_t, t3_t, t4_t, t5_t, u0_t, u1_t, u2_t, u3_t, u4_t, u5_t⟩, rfl, hon_t, hkk_t, haa_t, hrr_t⟩ := h_t.open_
  dsimp only at hkk_t haa_t hrr_t
  have hbg_t := hkk_t.big; have hcp_t := hkk_t.cap; have hbh_t := haa_t.big; have hcq_t := haa_t.cap
  refine fn_enter (vs := [_]) Try.func21 rfl rfl rfl fun a0 hfr0 => ?_
  have hst0 := st_enter hA (loc_nil [] _ w m)
  have hM : MLe m m := MLe.refl m
  have hve := valueT_eq t
  refine seq_any fun _ hK1 => ?_
  refine rp0 hst0 hfr0 (.cons rfl (ob_box rfl rfl) <| .cons rfl (ob_assign rfl) <| .nil) ?_
  intro a1 w1 m1 hst1 hle1 hk1
  have hfr1 := hk1.fr (T' := []) (.nil)
  obtain ⟨g2, e2, hc1⟩ := hk1.ex 1 rfl
  replace hfr1 := hfr1.cons e2
  replace hkk_t := hkk_t.mono hle1
  clear hst0 hfr0 hk1
  refine hK1 _ _ ?_; clear hK1
  refine seq_any fun _ hK3 => ?_
  refine seq_any fun _ hK4 => ?_
  refine rp0 hst1 hfr1 (.cons rfl (ob_fieldAddrO (off := 0) rfl Try.underlying33 rfl rfl Try.sizeOf3 rfl) <| .cons rfl (ob_load1 rfl hc1 Try.isAgg3 rfl) <| .nil) ?_
  intro a2 w2 m2 hst2 hle2 hk2
  have hfr2 := hk2.fr (T' := [(1, _), (4, _)]) (.old rfl rfl <| .new rfl <| .nil)
  replace hkk_t := hkk_t.mono hle2
  replace hc1 := hc1.mono hle2
  clear hst1 hfr1 hk2
  refine hK4 _ _ ?_; clear hK4
  refine wp_block ?_
  refine seq_any fun _ hK5 => ?_
  refine seq_any fun _ hK6 => ?_
  refine rp0 hst2 hfr2 (.cons rfl (ob_eql rfl rfl) <| .cons rfl (ob_assign rfl) <| .nil) ?_
  intro a3 w3 m3 hst3 hle3 hk3
  have hfr3 := hk3.fr (T' := [(1, _), (4, _), (5, _)]) (.old rfl rfl <| .old rfl rfl <| .new rfl <| .nil)
  replace hkk_t := hkk_t.mono hle3
  replace hc1 := hc1.mono hle3
  clear hst2 hfr2 hk3
  refine hK6 _ _ ?_; clear hK6
  refine cond_any hfr3 rfl rfl (fun hb5 => ?_) (fun hb5 => ?_)
  · try simp only [nq1, nq2, nq3, nq4, nq5, nq6, nq7, nq8, nq9, u8_eq] at hb5
    refine wp_skip ?_
    refine hK5 _ _ ?_; clear hK5
    refine cond_any hfr3 rfl rfl (fun hb5x => ?_) (fun hb5x => ?_)
    · try simp only [nq1, nq2, nq3, nq4, nq5, nq6, nq7, nq8, nq9, u8_eq] at hb5x
      refine seq_any fun _ hK7 => ?_
      refine rp0 hst3 hfr3 (.cons rfl (ob_assign rfl) <| .nil) ?_
      intro a4 w4 m4 hst4 hle4 hk4
      have hfr4 := hk4.fr (T' := [(2, _)]) (.new rfl <| .nil)
      clear hst3 hfr3 hk4
      refine hK7 _ _ ?_; clear hK7
      refine wp_ret ?_
      repeat (with_reducible first | refine then_ret ?_ | refine block_ret ?_)
      exact fn_ret hst4 hfr4 rfl (.tmp rfl <| .nil) (by refine congrArg Value.bool ?_; rw [hve]; simp_all)
    · exfalso; try simp only [nq1, nq2, nq3, nq4, nq5, nq6, nq7, nq8, nq9, u8_eq] at hb5x
      first | exact absurd hb5x hb5 | exact absurd hb5 hb5x | simp_all
  · try simp only [nq1, nq2, nq3, nq4, nq5, nq6, nq7, nq8, nq9, u8_eq] at hb5
    refine seq_any fun _ hK9 => ?_
    refine rp0 hst3 hfr3 (.cons rfl (ob_eql rfl rfl) <| .cons rfl (ob_assign rfl) <| .nil) ?_
    intro a4 w4 m4 hst4 hle4 hk4
    have hfr4 := hk4.fr (T' := [(1, _), (4, _), (5, _)]) (.old rfl rfl <| .old rfl rfl <| .new rfl <| .nil)
    replace hkk_t := hkk_t.mono hle4
    replace hc1 := hc1.mono hle4
    clear hst3 hfr3 hk4
    refine hK9 _ _ ?_; clear hK9
    refine cond_any hfr4 rfl rfl (fun hb5 => ?_) (fun hb5 => ?_)
    · try simp only [nq1, nq2, nq3, nq4, nq5, nq6, nq7, nq8, nq9, u8_eq] at hb5
      refine wp_skip ?_
      refine hK5 _ _ ?_; clear hK5
      refine cond_any hfr4 rfl rfl (fun hb5x => ?_) (fun hb5x => ?_)
      · try simp only [nq1, nq2, nq3, nq4, nq5, nq6, nq7, nq8, nq9, u8_eq] at hb5x
        refine seq_any fun _ hK10 => ?_
        refine rp0 hst4 hfr4 (.cons rfl (ob_assign rfl) <| .nil) ?_
        intro a5 w5 m5 hst5 hle5 hk5
        have hfr5 := hk5.fr (T' := [(2, _)]) (.new rfl <| .nil)
        clear hst4 hfr4 hk5
        refine hK10 _ _ ?_; clear hK10
        refine wp_ret ?_
        repeat (with_reducible first | refine then_ret ?_ | refine block_ret ?_)
        exact fn_ret hst5 hfr5 rfl (.tmp rfl <| .nil) (by refine congrArg Value.bool ?_; rw [hve]; simp_all)
      · exfalso; try simp only [nq1, nq2, nq3, nq4, nq5, nq6, nq7, nq8, nq9, u8_eq] at hb5x
        first | exact absurd hb5x hb5 | exact absurd hb5 hb5x | simp_all
    · try simp only [nq1, nq2, nq3, nq4, nq5, nq6, nq7, nq8, nq9, u8_eq] at hb5
      refine seq_any fun _ hK12 => ?_
      refine rp0 hst4 hfr4 (.cons rfl (ob_eql rfl rfl) <| .cons rfl (ob_assign rfl) <| .nil) ?_
      intro a5 w5 m5 hst5 hle5 hk5
      have hfr5 := hk5.fr (T' := [(1, _), (4, _), (5, _)]) (.old rfl rfl <| .old rfl rfl <| .new rfl <| .nil)
      replace hkk_t := hkk_t.mono hle5
      replace hc1 := hc1.mono hle5
      clear hst4 hfr4 hk5
      refine hK12 _ _ ?_; clear hK12
      refine cond_any hfr5 rfl rfl (fun hb5 => ?_) (fun hb5 => ?_)
      · try simp only [nq1, nq2, nq3, nq4, nq5, nq6, nq7, nq8, nq9, u8_eq] at hb5
        refine wp_skip ?_
        refine hK5 _ _ ?_; clear hK5
        refine cond_any hfr5 rfl rfl (fun hb5x => ?_) (fun hb5x => ?_)
        · try simp only [nq1, nq2, nq3, nq4, nq5, nq6, nq7, nq8, nq9, u8_eq] at hb5x
          refine seq_any fun _ hK13 => ?_
          refine rp0 hst5 hfr5 (.cons rfl (ob_assign rfl) <| .nil) ?_
          intro a6 w6 m6 hst6 hle6 hk6
          have hfr6 := hk6.fr (T' := [(2, _)]) (.new rfl <| .nil)
          clear hst5 hfr5 hk6
          refine hK13 _ _ ?_; clear hK13
          refine wp_ret ?_
          repeat (with_reducible first | refine then_ret ?_ | refine block_ret ?_)
          exact fn_ret hst6 hfr6 rfl (.tmp rfl <| .nil) (by refine congrArg Value.bool ?_; rw [hve]; simp_all)
        · exfalso; try simp only [nq1, nq2, nq3, nq4, nq5, nq6, nq7, nq8, nq9, u8_eq] at hb5x
          first | exact absurd hb5x hb5 | exact absurd hb5 hb5x | simp_all
      · try simp only [nq1, nq2, nq3, nq4, nq5, nq6, nq7, nq8, nq9, u8_eq] at hb5
        refine seq_any fun _ hK15 => ?_
        refine rp0 hst5 hfr5 (.cons rfl (ob_eql rfl rfl) <| .cons rfl (ob_assign rfl) <| .nil) ?_
        intro a6 w6 m6 hst6 hle6 hk6
        have hfr6 := hk6.fr (T' := [(1, _), (4, _), (5, _)]) (.old rfl rfl <| .old rfl rfl <| .new rfl <| .nil)
        replace hkk_t := hkk_t.mono hle6
        replace hc1 := hc1.mono hle6
        clear hst5 hfr5 hk6
        refine hK15 _ _ ?_; clear hK15
        refine cond_any hfr6 rfl rfl (fun hb5 => ?_) (fun hb5 => ?_)
        · try simp only [nq1, nq2, nq3, nq4, nq5, nq6, nq7, nq8, nq9, u8_eq] at hb5
          refine wp_skip ?_
          refine hK5 _ _ ?_; clear hK5
          refine cond_any hfr6 rfl rfl (fun hb5x => ?_) (fun hb5x => ?_)
          · try simp only [nq1, nq2, nq3, nq4, nq5, nq6, nq7, nq8, nq9, u8_eq] at hb5x
            refine seq_any fun _ hK16 => ?_
            refine rp0 hst6 hfr6 (.cons rfl (ob_assign rfl) <| .nil) ?_
            intro a7 w7 m7 hst7 hle7 hk7
            have hfr7 := hk7.fr (T' := [(2, _)]) (.new rfl <| .nil)
            clear hst6 hfr6 hk7
            refine hK16 _ _ ?_; clear hK16
            refine wp_ret ?_
            repeat (with_reducible first | refine then_ret ?_ | refine block_ret ?_)
            exact fn_ret hst7 hfr7 rfl (.tmp rfl <| .nil) (by refine congrArg Value.bool ?_; rw [hve]; simp_all)
          · exfalso; try simp only [nq1, nq2, nq3, nq4, nq5, nq6, nq7, nq8, nq9, u8_eq] at hb5x
            first | exact absurd hb5x hb5 | exact absurd hb5 hb5x | simp_all
        · try simp only [nq1, nq2, nq3, nq4, nq5, nq6, nq7, nq8, nq9, u8_eq] at hb5
          refine rp0 hst6 hfr6 (.cons rfl (ob_eql rfl rfl) <| .cons rfl (ob_assign rfl) <| .nil) ?_
          intro a7 w7 m7 hst7 hle7 hk7
          have hfr7 := hk7.fr (T' := [(1, _), (5, _)]) (.old rfl rfl <| .new rfl <| .nil)
          replace hkk_t := hkk_t.mono hle7
          replace hc1 := hc1.mono hle7
          clear hst6 hfr6 hk7
          refine hK5 _ _ ?_; clear hK5
          refine cond_any hfr7 rfl rfl (fun hb5 => ?_) (fun hb5 => ?_)
          · try simp only [nq1, nq2, nq3, nq4, nq5, nq6, nq7, nq8, nq9, u8_eq] at hb5
            refine seq_any fun _ hK18 => ?_
            refine rp0 hst7 hfr7 (.cons rfl (ob_assign rfl) <| .nil) ?_
            intro a8 w8 m8 hst8 hle8 hk8
            have hfr8 := hk8.fr (T' := [(2, _)]) (.new rfl <| .nil)
            clear hst7 hfr7 hk8
            refine hK18 _ _ ?_; clear hK18
            refine wp_ret ?_
            repeat (with_reducible first | refine then_ret ?_ | refine block_ret ?_)
            exact fn_ret hst8 hfr8 rfl (.tmp rfl <| .nil) (by refine congrArg Value.bool ?_; rw [hve]; simp_all)
          · try simp only [nq1, nq2, nq3, nq4, nq5, nq6, nq7, nq8, nq9, u8_eq] at hb5
            refine wp_skip ?_
            refine hK3 _ _ ?_; clear hK3
            refine seq_any fun _ hK20 => ?_
            refine rp0 hst7 hfr7 (.cons rfl (ob_fieldAddrO (off := 0) rfl Try.underlying33 rfl rfl Try.sizeOf3 rfl) <| .cons rfl (ob_load1 rfl hc1 Try.isAgg3 rfl) <| .cons rfl (ob_eql rfl rfl) <| .cons rfl (ob_move rfl) <| .cons rfl (ob_fieldAddrO (off := 5) rfl Try.underlying33 rfl rfl Try.sizeOf24 rfl) <| .cons rfl (ob_load1 rfl hc1 Try.isAgg24 rfl) <| .cons rfl (ob_callE rfl (.cons rfl <| .cons rfl <| .nil) Try.call35 (fun w m hK => by have hle_ := KC.le hK; have hA := KC.agree hK; have hkk_t := hkk_t.mono hle_; exact all_c (φ := valueT) hA hkk_t Try.call21 (fun w m2 u vs hm ha hv hu => ihk u hu ha hv))) <| .cons rfl (ob_and rfl rfl rfl) <| .cons rfl (ob_assign rfl) <| .nil) ?_
            intro a8 w8 m8 hst8 hle8 hk8
            have hfr8 := hk8.fr (T' := [(2, _)]) (.new rfl <| .nil)
            clear hst7 hfr7 hk8
            refine hK20 _ _ ?_; clear hK20
            refine wp_ret ?_
            repeat (with_reducible first | refine then_ret ?_ | refine block_ret ?_)
            exact fn_ret hst8 hfr8 rfl (.tmp rfl <| .nil) (by refine congrArg Value.bool ?_; rw [hve, valueKs_all]; simp_all)
theorem value_c (t : Tm) : value_G t := Tm.rec_ (p := value_G) (fun t ihk iha => value_s ihk iha) t

set_option maxHeartbeats 800000 in
theorem bodies_c {w : World} {m : Mem} {o_l : Option Addr} {c_l : Nat} {l : List Ar} (hA : Agree w m) (h_l : Ars m o_l l.length c_l l) (hbig : l.length ≤ 1000000000) : FnV Try.prog 36 #[.slice o_l l.length c_l] w m (fun _ m v => (MP.tms (l.map Ar.body)).p m v) := by
  have hb_l := h_l.big; have hc_l := h_l.cap
  refine fn_enter (vs := [_]) Try.func36 rfl rfl rfl fun a0 hfr0 => ?_
  have hst0 := st_enter hA (loc_nil [] _ w m)
  have hM : MLe m m := MLe.refl m
  refine seq_any fun _ hK1 => ?_
  refine rp0 hst0 hfr0 (.cons rfl (ob_assign rfl) <| .nil) ?_
  intro a1 w1 m1 hst1 hle1 hk1
  have hfr1 := hk1.fr (T' := [(0, _)]) (.old rfl rfl <| .nil)
  replace h_l := h_l.mono hle1
  clear hst0 hfr0 hk1
  refine hK1 _ _ ?_; clear hK1
  refine seq_any fun _ hK2 => ?_
  refine rp0 hst1 hfr1 (.cons rfl (ob_assign rfl) <| .nil) ?_
  intro a2 w2 m2 hst2 hle2 hk2
  have hfr2 := hk2.fr (T' := [(0, _), (3, _)]) (.old rfl rfl <| .new rfl <| .nil)
  replace h_l := h_l.mono hle2
  clear hst1 hfr1 hk2
  have hst2 := hst2.more (r := .rowx (.slice none 0 0) 0 21 33 (MP.reads (fun m vs t => TmR m t vs) 21 [])) rowx_new List.nodup_nil (by simp [Res.blocks, rowBlock])
  have hsl_O : Tms m2 none ([] : List Tm).length 0 ([] : List Tm) := Sl.empty
  refine hK2 _ _ ?_; clear hK2
  refine seq_any fun _ hK3 => ?_
  refine seq_any fun _ hK4 => ?_
  refine rp0 hst2 hfr2 (.cons rfl (ob_move rfl) <| .cons rfl (ob_len rfl Try.underlying25) <| .cons rfl (ob_move rfl) <| .nil) ?_
  intro a3 w3 m3 hst3 hle3 hk3
  have hfr3 := hk3.fr (T' := [(3, _), (6, _), (7, _), (8, _)]) (.old rfl rfl <| .new rfl <| .new rfl <| .new rfl <| .nil)
  replace h_l := h_l.mono hle3
  replace hsl_O := hsl_O.mono hle3
  clear hst2 hfr2 hk3
  refine hK4 _ _ ?_; clear hK4
  refine wp_block ?_
  refine loop_any (T := [(6, _), (7, _)]) (fun (y : Nat × Option Addr × Nat × List Tm) => ([(3, .slice y.2.1 y.2.2.2.length y.2.2.1), (8, .int .i64 (y.1 : Int))] : List (Nat × Value))) (fun y => [.rowx (nz (.slice y.2.1 y.2.2.2.length y.2.2.1)) y.2.2.2.length 21 33 (MP.reads (fun m vs t => TmR m t vs) 21 y.2.2.2)]) (fun (y : Nat × Option Addr × Nat × List Tm) m => (fun (y : Nat) (gao : Option Addr) (gap : Nat) (ga : List Tm) => (y ≤ l.length) ∧ (Tms m gao ga.length gap ga) ∧ (ga = (l.take y).map Ar.body)) y.1 y.2.1 y.2.2.1 y.2.2.2) (fun y => l.length - y.1) ((0, none, 0, ([] : List Tm))) ⟨hst3, MLe.refl _, hfr3.sub (.cons rfl <| .cons rfl <| .cons rfl <| .cons rfl <| .nil), ⟨Nat.zero_le _, hsl_O, rfl⟩⟩ fun y a4 w4 m4 hh4 => ?_
  have hst4 := hh4.st; have hle4 := hh4.le; have hfr4 := hh4.fr; have hrel := hh4.rel; clear hh4
  replace h_l := h_l.mono hle4
  clear hst3 hfr3
  obtain ⟨y, gao, gap, ga⟩ := y
  dsimp only at hrel hfr4 hst4
  obtain ⟨hyn, hsl_ga, hlen_ga⟩ := hrel
  have hlh4 := hle4
  refine seq_any fun _ hK6 => ?_
  refine rp0 hst4 hfr4 (.cons rfl (ob_lss rfl rfl) <| .nil) ?_
  intro a5 w5 m5 hst5 hle5 hk5
  have hfr5 := hk5.fr (T' := [(3, _), (8, _), (6, _), (7, _), (9, _)]) (.old rfl rfl <| .old rfl rfl <| .old rfl rfl <| .old rfl rfl <| .new rfl <| .nil)
  replace h_l := h_l.mono hle5
  replace hsl_ga := hsl_ga.mono hle5
  have hlh5 := hlh4.trans hle5
  clear hst4 hfr4 hk5
  refine hK6 _ _ ?_; clear hK6
  refine seq_any fun _ hK7 => ?_
  refine cond_any hfr5 rfl rfl (fun hb9 => ?_) (fun hb9 => ?_)
  · try simp only [nq1, nq2, nq3, nq4, nq5, nq6, nq7, nq8, nq9, u8_eq] at hb9
    refine wp_skip ?_
    refine hK7 _ _ ?_; clear hK7
    refine seq_any fun _ hK8 => ?_
    refine wp_block ?_
    refine seq_any fun _ hK9 => ?_
    obtain ⟨p10, vs10, x10, ho10, hd10, hm_x10, ht10, hcv10, hl10, hv10⟩ := h_l.nth (k := y) (by omega)
    cases ho10
    obtain ⟨oV10, cV10, bs10, rfl, hva10, hbd10⟩ := hv10.open_
    have hbv10 := hva10.big; have hcv10_ := hva10.cap
    obtain ⟨⟨oK10b, cK10b, oA10b, cA10b, oR10b, cR10b, t010b, t110b, t210b, t310b, t410b, t510b, u010b, u110b, u210b, u310b, u410b, u510b⟩, rfl, hon10b, hkk10b, haa10b, hrr10b⟩ := hbd10.open_
    dsimp only at hkk10b haa10b hrr10b
    have hbg10b := hkk10b.big; have hcp10b := hkk10b.cap; have hbh10b := haa10b.big; have hcq10b := haa10b.cap
    have hgl : ga.length ≤ l.length := by rw [hlen_ga]; simp; omega
    replace hst5 := hst5.more (r := .free) trivial List.nodup_nil (by simp [Res.blocks])
    refine ra0 (tch := [(2, 1, (fun v => .blk v _)), (3, 1, (fun v => .blk v _))]) hst5 hfr5 (.cons rfl (ob_indexAddr (k := y) rfl rfl Try.underlying25 Try.sizeOf40 rfl (by omega)) <| .cons rfl (ob_loadS' rfl hcv10 Try.isAgg40 Try.sizeOf40 rfl rfl) <| .consT rfl rfl (fun _ => rfl) rfl (ob_allocL Try.zeroValue40 rfl) <| .consT rfl rfl (fun _ => rfl) rfl (ob_imgT 5 rfl rfl rfl fun y5 => ob_storeF rfl rfl rfl rfl rfl Try.sizeOf40 rfl rfl hv10.one) <| .nil) ?_
    intro a6 w6 m6 hst6 hle6 hk6
    have hfr6 := hk6.fr (T' := [(3, _), (8, _), (6, _), (7, _)]) (.old rfl rfl <| .old rfl rfl <| .old rfl rfl <| .old rfl rfl <| .nil)
    obtain ⟨g11, e11, _⟩ := hk6.ex 5 rfl
    replace hfr6 := hfr6.cons e11
    replace hst6 := hst6.fin (L' := [_, _]) (.cons e11 <| .cons e11 <| .nil)
    try simp only [List.take_succ_cons, List.take_zero, List.drop_succ_cons, List.drop_zero, List.cons_append, List.nil_append, List.append_nil, List.length_cons, List.length_nil, Nat.zero_add, Nat.reduceAdd] at hst6
    replace hbd10 := hbd10.mono hle6
    have hlh6 := hlh5.trans hle6
    clear hst5 hfr5 hk6
    refine hK9 _ _ ?_; clear hK9
    refine region_cut 3 (by kernel_rfl) ?_
    refine ops_seq (tch := []) hst6 hfr6 (by kernel_rfl) (by kernel_rfl) (by kernel_rfl) (.cons rfl (ob_move rfl) <| .cons rfl (ob_fieldAddrO (off := 2) rfl Try.underlying40 rfl rfl Try.sizeOf33 rfl) <| .cons rfl (ob_loadLS (j := 1) rfl rfl Try.isAgg33 Try.sizeOf33 rfl rfl) <| .nil) ?_
    intro a7 w7 m7 hst7 hle7 hk7
    have hfr7 := hk7.fr (T' := [(3, _), (8, _), (6, _), (7, _), (5, _), (12, _), (14, _)]) (.old rfl rfl <| .old rfl rfl <| .old rfl rfl <| .old rfl rfl <| .old rfl rfl <| .new rfl <| .new rfl <| .nil)
    replace hbd10 := hbd10.mono hle7
    have hlh7 := hlh6.trans hle7
    clear hst6 hfr6 hk7
    refine ops_seq (tch := [(1, 0, (fun v => .rowx (nz v) _ _ _ _))]) hst7 hfr7 (by kernel_rfl) (by kernel_rfl) (by kernel_rfl) (.cons rfl (ob_buildSlice1 rfl Try.underlying24 Try.sizeOf33 Try.zeroValue33 rfl rfl rfl rfl) <| .consT rfl rfl (fun _ => rfl) rfl (ob_imgT 15 rfl rfl rfl fun y15 => ob_appendX (size := 21) (bytes := 312) (l := ga) (l' := [x10.body]) rfl rfl (fun _ => by first | exact .inl rfl | exact .inr (.inl rfl)) Try.underlying24 Try.type33 rfl rfl rfl rfl (fun w m hK => Sl.one (R := fun m vs t => TmR m t vs) hK.2 rfl (hbd10.mono (KC.le hK))) rfl (by decide) (by simp only [maxLen]; omega) (by omega)) <| .consA 16 rfl rfl <| .nil) ?_
    intro a8 w8 m8 hst8 hle8 hk8
    have hfr8 := hk8.fr (T' := [(8, _), (6, _), (7, _), (5, _), (12, _), (14, _)]) (.old rfl rfl <| .old rfl rfl <| .old rfl rfl <| .old rfl rfl <| .old rfl rfl <| .old rfl rfl <| .nil)
    obtain ⟨⟨O_12o, O_12p⟩, e13, hsl_O_12⟩ := hk8.ex 16 rfl
    replace hfr8 := hfr8.cons e13
    replace hfr8 := hfr8.cons (hk8.same 3 rfl e13)
    replace hst8 := hst8.fin (L' := [_, _]) (.cons e13 <| .nil)
    have hlh8 := hlh7.trans hle8
    clear hst7 hfr7 hk8
    replace hsl_O_12 : Tms m8 O_12o (ga ++ [x10.body]).length O_12p (ga ++ [x10.body]) := hsl_O_12
    refine hK8 _ _ ?_; clear hK8
    refine rp0 hst8 hfr8 (.cons rfl (ob_add rfl rfl ⟨by omega, by omega⟩) <| .cons rfl (ob_move rfl) <| .nil) ?_
    intro a9 w9 m9 hst9 hle9 hk9
    have hfr9 := hk9.fr (T' := [(6, _), (7, _), (3, _), (8, _)]) (.old rfl rfl <| .old rfl rfl <| .old rfl rfl <| .new rfl <| .nil)
    replace hsl_O_12 := hsl_O_12.mono hle9
    have hlh9 := hlh8.trans hle9
    clear hst8 hfr8 hk9
    have hst9 := hst9.take 1
    exact ⟨(y + 1, O_12o, O_12p, (ga ++ [x10.body])), m9, by show l.length - (y + 1) < l.length - y; omega, ⟨hst9, hlh9, hfr9.sub (.cons rfl <| .cons rfl <| .cons rfl <| .cons rfl <| .nil), ⟨by show y + 1 ≤ l.length; omega, hsl_O_12, by rw [ht10, List.map_append, ← hlen_ga]; rfl⟩⟩⟩
  · try simp only [nq1, nq2, nq3, nq4, nq5, nq6, nq7, nq8, nq9, u8_eq] at hb9
    have hge : y = l.length := by omega
    rw [List.take_of_length_le (by omega)] at hlen_ga
    refine wp_exit ?_
    refine hK3 _ _ ?_; clear hK3
    refine seq_any fun _ hK14 => ?_
    refine rp0 hst5 hfr5 (.cons rfl (ob_move rfl) <| .cons rfl (ob_assign rfl) <| .nil) ?_
    intro a6 w6 m6 hst6 hle6 hk6
    have hfr6 := hk6.fr (T' := [(3, _), (8, _), (2, _)]) (.old rfl rfl <| .old rfl rfl <| .new rfl <| .nil)
    replace hsl_ga := hsl_ga.mono hle6
    have hlh6 := hlh5.trans hle6
    clear hst5 hfr5 hk6
    refine hK14 _ _ ?_; clear hK14
    refine wp_ret ?_
    repeat (with_reducible first | refine then_ret ?_ | refine block_ret ?_)
    exact fn_ret hst6 hfr6 rfl (.tmp rfl <| .nil) (⟨(_, _), by rw [← hlen_ga]; rfl, by rw [← hlen_ga]; exact hsl_ga⟩)

abbrev plain_G (t : Tm) : Prop := ∀ {w : World} {m : Mem} {vs_t : List Value} (hA : Agree w m) (h_t : TmR m t vs_t) (hb : countM t ≤ 1000000000), FnV Try.prog 23 #[.agg vs_t.toArray] w m (fun _ _ v => v = .bool (plainT t))
set_option maxHeartbeats 800000 in
theorem plain_s {t : Tm} (ihk : ∀ u ∈ t.kids, plain_G u) (iha : ∀ a ∈ t.arms, plain_G a.body) {w : World} {m : Mem} {vs_t : List Value} (hA : Agree w m) (h_t : TmR m t vs_t) (hb : countM t ≤ 1000000000) : FnV Try.prog 23 #[.agg vs_t.toArray] w m (fun _ _ v => v = .bool (plainT t)) := by
  obtain ⟨⟨oK_t, cK_t, oA_t, cA_t, oR_t, cR_t, t0_t, t1_t, t2_t, t3_t, t4_t, t5_t, u0_t, u1_t, u2_t, u3_t, u4_t, u5_t⟩, rfl, hon_t, hkk_t, haa_t, hrr_t⟩ := h_t.open_
  dsimp only at hkk_t haa_t hrr_t
  have hbg_t := hkk_t.big; have hcp_t := hkk_t.cap; have hbh_t := haa_t.big; have hcq_t := haa_t.cap
  refine fn_enter (vs := [_]) Try.func23 rfl rfl rfl fun a0 hfr0 => ?_
  have hst0 := st_enter hA (loc_nil [] _ w m)
  have hM : MLe m m := MLe.refl m
  have hve := plainT_eq t
  have hce := countM_eq t; have hkl_ := countKs_len t.kids; have hal_ := countAs_len t.arms
  refine seq_any fun _ hK1 => ?_
  refine rp0 hst0 hfr0 (.cons rfl (ob_box rfl rfl) <| .cons rfl (ob_assign rfl) <| .nil) ?_
  intro a1 w1 m1 hst1 hle1 hk1
  have hfr1 := hk1.fr (T' := []) (.nil)
  obtain ⟨g2, e2, hc1⟩ := hk1.ex 1 rfl
  replace hfr1 := hfr1.cons e2
  replace hkk_t := hkk_t.mono hle1
  replace haa_t := haa_t.mono hle1
  clear hst0 hfr0 hk1
  refine hK1 _ _ ?_; clear hK1
  refine seq_any fun _ hK3 => ?_
  refine seq_any fun _ hK4 => ?_
  refine rp0 hst1 hfr1 (.cons rfl (ob_fieldAddrO (off := 0) rfl Try.underlying33 rfl rfl Try.sizeOf3 rfl) <| .cons rfl (ob_load1 rfl hc1 Try.isAgg3 rfl) <| .nil) ?_
  intro a2 w2 m2 hst2 hle2 hk2
  have hfr2 := hk2.fr (T' := [(1, _), (5, _)]) (.old rfl rfl <| .new rfl <| .nil)
  replace hkk_t := hkk_t.mono hle2
  replace haa_t := haa_t.mono hle2
  replace hc1 := hc1.mono hle2
  clear hst1 hfr1 hk2
  refine hK4 _ _ ?_; clear hK4
  refine wp_block ?_
  refine seq_any fun _ hK5 => ?_
  refine seq_any fun _ hK6 => ?_
  refine rp0 hst2 hfr2 (.cons rfl (ob_eql rfl rfl) <| .cons rfl (ob_assign rfl) <| .nil) ?_
  intro a3 w3 m3 hst3 hle3 hk3
  have hfr3 := hk3.fr (T' := [(1, _), (5, _), (6, _)]) (.old rfl rfl <| .old rfl rfl <| .new rfl <| .nil)
  replace hkk_t := hkk_t.mono hle3
  replace haa_t := haa_t.mono hle3
  replace hc1 := hc1.mono hle3
  clear hst2 hfr2 hk3
  refine hK6 _ _ ?_; clear hK6
  refine cond_any hfr3 rfl rfl (fun hb6 => ?_) (fun hb6 => ?_)
  · try simp only [nq1, nq2, nq3, nq4, nq5, nq6, nq7, nq8, nq9, u8_eq] at hb6
    refine wp_skip ?_
    refine hK5 _ _ ?_; clear hK5
    refine cond_any hfr3 rfl rfl (fun hb6x => ?_) (fun hb6x => ?_)
    · try simp only [nq1, nq2, nq3, nq4, nq5, nq6, nq7, nq8, nq9, u8_eq] at hb6x
      refine seq_any fun _ hK7 => ?_
      refine rp0 hst3 hfr3 (.cons rfl (ob_assign rfl) <| .nil) ?_
      intro a4 w4 m4 hst4 hle4 hk4
      have hfr4 := hk4.fr (T' := [(2, _)]) (.new rfl <| .nil)
      clear hst3 hfr3 hk4
      refine hK7 _ _ ?_; clear hK7
      refine wp_ret ?_
      repeat (with_reducible first | refine then_ret ?_ | refine block_ret ?_)
      exact fn_ret hst4 hfr4 rfl (.tmp rfl <| .nil) (by refine congrArg Value.bool ?_; rw [hve, if_pos (by omega)])
    · exfalso; try simp only [nq1, nq2, nq3, nq4, nq5, nq6, nq7, nq8, nq9, u8_eq] at hb6x
      first | exact absurd hb6x hb6 | exact absurd hb6 hb6x | simp_all
  · try simp only [nq1, nq2, nq3, nq4, nq5, nq6, nq7, nq8, nq9, u8_eq] at hb6
    refine seq_any fun _ hK9 => ?_
    refine rp0 hst3 hfr3 (.cons rfl (ob_eql rfl rfl) <| .cons rfl (ob_assign rfl) <| .nil) ?_
    intro a4 w4 m4 hst4 hle4 hk4
    have hfr4 := hk4.fr (T' := [(1, _), (5, _), (6, _)]) (.old rfl rfl <| .old rfl rfl <| .new rfl <| .nil)
    replace hkk_t := hkk_t.mono hle4
    replace haa_t := haa_t.mono hle4
    replace hc1 := hc1.mono hle4
    clear hst3 hfr3 hk4
    refine hK9 _ _ ?_; clear hK9
    refine cond_any hfr4 rfl rfl (fun hb6 => ?_) (fun hb6 => ?_)
    · try simp only [nq1, nq2, nq3, nq4, nq5, nq6, nq7, nq8, nq9, u8_eq] at hb6
      refine wp_skip ?_
      refine hK5 _ _ ?_; clear hK5
      refine cond_any hfr4 rfl rfl (fun hb6x => ?_) (fun hb6x => ?_)
      · try simp only [nq1, nq2, nq3, nq4, nq5, nq6, nq7, nq8, nq9, u8_eq] at hb6x
        refine seq_any fun _ hK10 => ?_
        refine rp0 hst4 hfr4 (.cons rfl (ob_assign rfl) <| .nil) ?_
        intro a5 w5 m5 hst5 hle5 hk5
        have hfr5 := hk5.fr (T' := [(2, _)]) (.new rfl <| .nil)
        clear hst4 hfr4 hk5
        refine hK10 _ _ ?_; clear hK10
        refine wp_ret ?_
        repeat (with_reducible first | refine then_ret ?_ | refine block_ret ?_)
        exact fn_ret hst5 hfr5 rfl (.tmp rfl <| .nil) (by refine congrArg Value.bool ?_; rw [hve, if_pos (by omega)])
      · exfalso; try simp only [nq1, nq2, nq3, nq4, nq5, nq6, nq7, nq8, nq9, u8_eq] at hb6x
        first | exact absurd hb6x hb6 | exact absurd hb6 hb6x | simp_all
    · try simp only [nq1, nq2, nq3, nq4, nq5, nq6, nq7, nq8, nq9, u8_eq] at hb6
      refine rp0 hst4 hfr4 (.cons rfl (ob_eql rfl rfl) <| .cons rfl (ob_assign rfl) <| .nil) ?_
      intro a5 w5 m5 hst5 hle5 hk5
      have hfr5 := hk5.fr (T' := [(1, _), (5, _), (6, _)]) (.old rfl rfl <| .old rfl rfl <| .new rfl <| .nil)
      replace hkk_t := hkk_t.mono hle5
      replace haa_t := haa_t.mono hle5
      replace hc1 := hc1.mono hle5
      clear hst4 hfr4 hk5
      refine hK5 _ _ ?_; clear hK5
      refine cond_any hfr5 rfl rfl (fun hb6 => ?_) (fun hb6 => ?_)
      · try simp only [nq1, nq2, nq3, nq4, nq5, nq6, nq7, nq8, nq9, u8_eq] at hb6
        refine seq_any fun _ hK12 => ?_
        refine rp0 hst5 hfr5 (.cons rfl (ob_assign rfl) <| .nil) ?_
        intro a6 w6 m6 hst6 hle6 hk6
        have hfr6 := hk6.fr (T' := [(2, _)]) (.new rfl <| .nil)
        clear hst5 hfr5 hk6
        refine hK12 _ _ ?_; clear hK12
        refine wp_ret ?_
        repeat (with_reducible first | refine then_ret ?_ | refine block_ret ?_)
        exact fn_ret hst6 hfr6 rfl (.tmp rfl <| .nil) (by refine congrArg Value.bool ?_; rw [hve, if_pos (by omega)])
      · try simp only [nq1, nq2, nq3, nq4, nq5, nq6, nq7, nq8, nq9, u8_eq] at hb6
        refine seq_any fun _ hK14 => ?_
        refine rp0 hst5 hfr5 (.cons rfl (ob_eql rfl rfl) <| .cons rfl (ob_assign rfl) <| .nil) ?_
        intro a6 w6 m6 hst6 hle6 hk6
        have hfr6 := hk6.fr (T' := [(1, _), (10, _)]) (.old rfl rfl <| .new rfl <| .nil)
        replace hkk_t := hkk_t.mono hle6
        replace haa_t := haa_t.mono hle6
        replace hc1 := hc1.mono hle6
        clear hst5 hfr5 hk6
        refine hK14 _ _ ?_; clear hK14
        refine cond_any hfr6 rfl rfl (fun hb10 => ?_) (fun hb10 => ?_)
        · try simp only [nq1, nq2, nq3, nq4, nq5, nq6, nq7, nq8, nq9, u8_eq] at hb10
          refine seq_any fun _ hK15 => ?_
          refine rp0 hst6 hfr6 (.cons rfl (ob_assign rfl) <| .nil) ?_
          intro a7 w7 m7 hst7 hle7 hk7
          have hfr7 := hk7.fr (T' := [(2, _)]) (.new rfl <| .nil)
          clear hst6 hfr6 hk7
          refine hK15 _ _ ?_; clear hK15
          refine wp_ret ?_
          repeat (with_reducible first | refine then_ret ?_ | refine block_ret ?_)
          exact fn_ret hst7 hfr7 rfl (.tmp rfl <| .nil) (by refine congrArg Value.bool ?_; rw [hve, if_neg (by omega), if_pos hb10])
        · try simp only [nq1, nq2, nq3, nq4, nq5, nq6, nq7, nq8, nq9, u8_eq] at hb10
          refine wp_skip ?_
          refine hK3 _ _ ?_; clear hK3
          refine seq_any fun _ hK17 => ?_
          refine rp0 hst6 hfr6 (.cons rfl (ob_fieldAddrO (off := 5) rfl Try.underlying33 rfl rfl Try.sizeOf24 rfl) <| .cons rfl (ob_load1 rfl hc1 Try.isAgg24 rfl) <| .cons rfl (ob_assign rfl) <| .nil) ?_
          intro a7 w7 m7 hst7 hle7 hk7
          have hfr7 := hk7.fr (T' := [(1, _), (3, _)]) (.old rfl rfl <| .new rfl <| .nil)
          replace hkk_t := hkk_t.mono hle7
          replace haa_t := haa_t.mono hle7
          replace hc1 := hc1.mono hle7
          clear hst6 hfr6 hk7
          refine hK17 _ _ ?_; clear hK17
          refine seq_any fun _ hK18 => ?_
          refine seq_any fun _ hK19 => ?_
          refine rp0 hst7 hfr7 (.cons rfl (ob_fieldAddrO (off := 0) rfl Try.underlying33 rfl rfl Try.sizeOf3 rfl) <| .cons rfl (ob_load1 rfl hc1 Try.isAgg3 rfl) <| .cons rfl (ob_eql rfl rfl) <| .cons rfl (ob_move rfl) <| .cons rfl (ob_move rfl) <| .cons rfl (ob_len rfl Try.underlying24) <| .cons rfl (ob_gtr rfl rfl) <| .cons rfl (ob_and rfl rfl rfl) <| .nil) ?_
          intro a8 w8 m8 hst8 hle8 hk8
          have hfr8 := hk8.fr (T' := [(1, _), (3, _), (21, _)]) (.old rfl rfl <| .old rfl rfl <| .new rfl <| .nil)
          replace hkk_t := hkk_t.mono hle8
          replace haa_t := haa_t.mono hle8
          replace hc1 := hc1.mono hle8
          clear hst7 hfr7 hk8
          refine hK19 _ _ ?_; clear hK19
          refine cond_any hfr8 rfl rfl (fun hb21 => ?_) (fun hb21 => ?_)
          · try simp only [nq1, nq2, nq3, nq4, nq5, nq6, nq7, nq8, nq9, u8_eq] at hb21
            have hct20 : Tms _ _ _ _ ((t.kids.take (t.kids.length)).drop (1)) := hkk_t.cut (l := 1) (k := t.kids.length) (by omega) (by omega)
            have hcl20 : (t.kids.length) - (1) = (((t.kids.take (t.kids.length)).drop (1))).length := hct20.len.symm
            have hcu20 : Tms _ _ _ _ ((t.kids.take (t.kids.length)).drop (1)) := hct20.lenL
            refine rp0 hst8 hfr8 (.cons rfl (ob_move rfl) <| .cons rfl (ob_slice (l := 1) (h := t.kids.length) rfl (.some rfl (by omega)) .none Try.underlying24 Try.sizeOf33 (by omega) (by omega)) <| .cons rfl (ob_assign rfl) <| .nil) ?_
            intro a9 w9 m9 hst9 hle9 hk9
            have hfr9 := hk9.fr (T' := [(1, _), (3, _)]) (.old rfl rfl <| .new rfl <| .nil)
            replace haa_t := haa_t.mono hle9
            replace hc1 := hc1.mono hle9
            replace hcu20 := hcu20.mono hle9
            clear hst8 hfr8 hk9
            refine hK18 _ _ ?_; clear hK18
            refine seq_any fun _ hK21 => ?_
            refine rp0 hst9 hfr9 (.cons rfl (ob_move rfl) <| .cons rfl (ob_callE rfl (.cons rfl <| .cons rfl <| .nil) Try.call35 (fun w m hK => by have hle_ := KC.le hK; have hA := KC.agree hK; have hcu20 := hcu20.mono hle_; exact (by rw [hcl20]; exact all_c (φ := plainT) hA hcu20 Try.call23 (fun w m2 u vs hm ha hv hu => ihk u (by first | exact hu | exact List.mem_of_mem_take (List.mem_of_mem_drop hu)) ha hv (by have := countKs_in (show u ∈ t.kids by first | exact hu | exact List.mem_of_mem_take (List.mem_of_mem_drop hu)); omega))))) <| .cons rfl (ob_move rfl) <| .cons rfl (ob_fieldAddrO (off := 6) rfl Try.underlying33 rfl rfl Try.sizeOf25 rfl) <| .cons rfl (ob_load1 rfl hc1 Try.isAgg25 rfl) <| .cons rfl (ob_call (φ := MP.tms (t.arms.map Ar.body)) rfl (.cons rfl <| .nil) Try.call36 (fun w m hK => by have hle_ := KC.le hK; have hA := KC.agree hK; have haa_t := haa_t.mono hle_; exact FnG.mono (bodies_c hA haa_t (by omega)) fun _ _ _ _ h => h)) <| .cons rfl (ob_imgE 29 rfl rfl rfl fun y29 => ob_callE rfl (.cons rfl <| .cons rfl <| .nil) Try.call35 (fun w m hK => by have hle_ := KC.le hK; have hA := KC.agree hK; have hr0_ := hK.2; exact all_c (φ := plainT) hA hr0_ Try.call23 (fun w m2 u vs hm ha hv hu => by obtain ⟨a, ha2, rfl⟩ := List.mem_map.1 hu; exact iha a ha2 ha hv (by have := countAs_in ha2; omega)))) <| .cons rfl (ob_and rfl rfl rfl) <| .cons rfl (ob_assign rfl) <| .nil) ?_
            intro a10 w10 m10 hst10 hle10 hk10
            have hfr10 := hk10.fr (T' := [(2, _)]) (.new rfl <| .nil)
            clear hst9 hfr9 hk10
            refine hK21 _ _ ?_; clear hK21
            refine wp_ret ?_
            repeat (with_reducible first | refine then_ret ?_ | refine block_ret ?_)
            exact fn_ret hst10 hfr10 rfl (.tmp rfl <| .nil) (by refine congrArg Value.bool ?_; rw [hve, if_neg (by omega), if_neg (by omega), plainAs_all]; refine congrArg (· && _) ?_; first | (rw [decide_eq_true hb21.1, plainKs_drop, List.take_length]; done) | exact plainKs_no (by omega))
          · try simp only [nq1, nq2, nq3, nq4, nq5, nq6, nq7, nq8, nq9, u8_eq] at hb21
            refine wp_skip ?_
            refine hK18 _ _ ?_; clear hK18
            refine seq_any fun _ hK23 => ?_
            refine rp0 hst8 hfr8 (.cons rfl (ob_move rfl) <| .cons rfl (ob_callE rfl (.cons rfl <| .cons rfl <| .nil) Try.call35 (fun w m hK => by have hle_ := KC.le hK; have hA := KC.agree hK; have hkk_t := hkk_t.mono hle_; exact (by skip; exact all_c (φ := plainT) hA hkk_t Try.call23 (fun w m2 u vs hm ha hv hu => ihk u (by first | exact hu | exact List.mem_of_mem_take (List.mem_of_mem_drop hu)) ha hv (by have := countKs_in (show u ∈ t.kids by first | exact hu | exact List.mem_of_mem_take (List.mem_of_mem_drop hu)); omega))))) <| .cons rfl (ob_move rfl) <| .cons rfl (ob_fieldAddrO (off := 6) rfl Try.underlying33 rfl rfl Try.sizeOf25 rfl) <| .cons rfl (ob_load1 rfl hc1 Try.isAgg25 rfl) <| .cons rfl (ob_call (φ := MP.tms (t.arms.map Ar.body)) rfl (.cons rfl <| .nil) Try.call36 (fun w m hK => by have hle_ := KC.le hK; have hA := KC.agree hK; have haa_t := haa_t.mono hle_; exact FnG.mono (bodies_c hA haa_t (by omega)) fun _ _ _ _ h => h)) <| .cons rfl (ob_imgE 29 rfl rfl rfl fun y29 => ob_callE rfl (.cons rfl <| .cons rfl <| .nil) Try.call35 (fun w m hK => by have hle_ := KC.le hK; have hA := KC.agree hK; have hr0_ := hK.2; exact all_c (φ := plainT) hA hr0_ Try.call23 (fun w m2 u vs hm ha hv hu => by obtain ⟨a, ha2, rfl⟩ := List.mem_map.1 hu; exact iha a ha2 ha hv (by have := countAs_in ha2; omega)))) <| .cons rfl (ob_and rfl rfl rfl) <| .cons rfl (ob_assign rfl) <| .nil) ?_
            intro a9 w9 m9 hst9 hle9 hk9
            have hfr9 := hk9.fr (T' := [(2, _)]) (.new rfl <| .nil)
            clear hst8 hfr8 hk9
            refine hK23 _ _ ?_; clear hK23
            refine wp_ret ?_
            repeat (with_reducible first | refine then_ret ?_ | refine block_ret ?_)
            exact fn_ret hst9 hfr9 rfl (.tmp rfl <| .nil) (by refine congrArg Value.bool ?_; rw [hve, if_neg (by omega), if_neg (by omega), plainAs_all]; refine congrArg (· && _) ?_; first | (rw [decide_eq_true hb21.1, plainKs_drop, List.take_length]; done) | exact plainKs_no (by omega))
theorem plain_c (t : Tm) : plain_G t := Tm.rec_ (p := plain_G) (fun t ihk iha => plain_s ihk iha) t

end Go.Proofs.Ytppmbhjacjmfkaa
