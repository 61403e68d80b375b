/-
  Programs that are right (brocaderef06): what is wrong is told, and right ones have the kids that they must have. Conditions: those of each theorem.
-/
import Derived.Test.YtppmbhjacjmfkaaTmtree
import Derived.Test.YtppmbhjacjmfkaaRows
namespace Go.Proofs.Ytppmbhjacjmfkaa
set_option linter.all false
set_option maxRecDepth 4000
open Go.RowKit
theorem mixed : Try.prog.follows .mixedOrders = true := by kernel_rfl
def MP.efB (B : Nat) : MP := MP.mem (fun y : (Ef × Option Addr × Nat) × Bool => .tuple #[.agg #[S y.1.1.name, .slice y.1.2.1 y.1.1.ops.length y.1.2.2], .bool y.2]) (fun y m => EfR m y.1.1 [S y.1.1.name, .slice y.1.2.1 y.1.1.ops.length y.1.2.2] ∧ y.1.1.ops.length ≤ B) fun hm h => ⟨h.1.mono hm, h.2⟩
def MP.daB : MP := MP.mem (fun y : (Da × Option Addr × Nat) × (Cs × Option Addr × Nat) × Bool => .tuple #[.agg #[S y.1.1.name, .slice y.1.2.1 y.1.1.cons.length y.1.2.2], .agg #[S y.2.1.1.name, .slice y.2.1.2.1 y.2.1.1.fields.length y.2.1.2.2], .bool y.2.2])
  (fun y m => DaR m y.1.1 [S y.1.1.name, .slice y.1.2.1 y.1.1.cons.length y.1.2.2] ∧ CsR m y.2.1.1 [S y.2.1.1.name, .slice y.2.1.2.1 y.2.1.1.fields.length y.2.1.2.2]) fun hm h => ⟨h.1.mono hm, h.2.mono hm⟩
abbrev Sl3 : Type := Option Addr × Nat × Nat
abbrev slW (z : Sl3) : Value := .slice z.1 z.2.1 z.2.2
abbrev Ty1 : Type := Int × Str × Int × Sl3 × Sl3 × Int
abbrev tyW (z : Ty1) : List Value := [.int .i64 z.1, S z.2.1, .int .i64 z.2.2.1, slW z.2.2.2.1, slW z.2.2.2.2.1, .int .i64 z.2.2.2.2.2]
def MP.aaB : MP := MP.mem (fun y : (Str × Sl3) × (Str × Ty1 × Ty1) × Bool => .tuple #[.agg #[S y.1.1, slW y.1.2], .agg (S y.2.1.1 :: (tyW y.2.1.2.1 ++ tyW y.2.1.2.2)).toArray, .bool y.2.2]) (fun y _ => True) fun _ h => h
def firstM (p : Pg) (t : Ty) : Bool :=
  if t.var ≠ 0 ∨ t.args ≠ [] ∨ t.labels ≠ [] ∨ t.rv ≠ 0 then false else if t.kind = 1 ∨ t.kind = 2 ∨ t.kind = 3 then decide (t.name = []) else p.datas.any fun d => decide (t.kind = 4) && decide (d.name = t.name)
def opsN (l : List Ef) : Nat := (l.map fun e => e.ops.length).sum
def consN (l : List Da) : Nat := (l.map fun e => e.cons.length).sum
theorem opsN_snoc (l : List Ef) (x : Ef) : opsN (l ++ [x]) = opsN l + x.ops.length := by simp [opsN]
theorem consN_snoc (l : List Da) (x : Da) : consN (l ++ [x]) = consN l + x.cons.length := by simp [consN]
theorem opsN_mem {l : List Ef} {x : Ef} (h : x ∈ l) : x.ops.length ≤ opsN l := by
  unfold opsN
  induction l with
  | nil => cases h
  | cons y l ih =>
    simp only [List.map_cons, List.sum_cons]
    rcases List.mem_cons.1 h with rfl | h
    · omega
    · have := ih h; omega
theorem opsN_take (l : List Ef) (k : Nat) : opsN (l.take k) ≤ opsN l := by
  unfold opsN
  induction l generalizing k with
  | nil => simp
  | cons x xs ih => cases k with
    | zero => simp
    | succ k => simp only [List.take_succ_cons, List.map_cons, List.sum_cons]; have := ih k; omega
theorem consN_take (l : List Da) (k : Nat) : consN (l.take k) ≤ consN l := by
  unfold consN
  induction l generalizing k with
  | nil => simp
  | cons x xs ih => cases k with
    | zero => simp
    | succ k => simp only [List.take_succ_cons, List.map_cons, List.sum_cons]; have := ih k; omega
def kidsM (k : Int) : Int := if k = 1 ∨ k = 2 ∨ k = 3 ∨ k = 4 then 0 else if k = 5 ∨ k = 12 ∨ k = 13 ∨ k = 14 then 1 else if k = 6 ∨ k = 7 ∨ k = 8 then 2 else if k = 9 then 3 else if k = 10 ∨ k = 11 then -1 else -2
def boundR (k : Int) (s p : Str) (i : Nat) : List Str := if k = 5 then [s] else if k = 7 then (if i = 1 then [s] else []) else if k = 8 then (if i = 0 then [s, p] else [s]) else []
theorem len0 {α : Type} {l : List α} : ((l.length : Int) = 0) ↔ l = [] := by
  constructor
  · intro h; exact List.eq_nil_of_length_eq_zero (by omega)
  · intro h; rw [h]; rfl
theorem lenPos {α : Type} {l : List α} : (0 < (l.length : Int)) ↔ l ≠ [] := by
  rw [← List.length_pos_iff]; omega
def kindOk (t : Tm) : Prop := (kidsM t.kind = (t.kids.length : Int) ∨ kidsM t.kind = -1) ∧ (t.kind ≠ 12 → t.kind ≠ 14 → t.arms = [])
/-- A term all of whose parts have the kids that they must have. -/
inductive RtT : Tm → Prop where
  | mk {t : Tm} (h : kindOk t) (hk : ∀ u ∈ t.kids, RtT u) (ha : ∀ a ∈ t.arms, RtT a.body) : RtT t
theorem RtT.here {t : Tm} (h : RtT t) : kindOk t := by cases h; assumption
theorem RtT.kid {t u : Tm} (h : RtT t) (hu : u ∈ t.kids) : RtT u := by cases h with | mk _ hk _ => exact hk u hu
theorem RtT.arm {t : Tm} {a : Ar} (h : RtT t) (ha : a ∈ t.arms) : RtT a.body := by cases h with | mk _ _ hh => exact hh a ha
mutual
/-- How much there is in a term: parts, and all letters. -/
def bulkM : Tm → Nat
  | ⟨_, _, s, p, _, ks, az, _⟩ => 3 + s.length + p.length + bulkKs ks + bulkAs az
def bulkKs : List Tm → Nat
  | [] => 0
  | t :: ts => bulkM t + bulkKs ts
def bulkAs : List Ar → Nat
  | [] => 0
  | ⟨s, l, b⟩ :: ts => s.length + (l.map fun x => x.length + 2).sum + bulkM b + bulkAs ts
end
theorem bulkM_eq (t : Tm) : bulkM t = 3 + t.name.length + t.param.length + bulkKs t.kids + bulkAs t.arms := by obtain ⟨k, a, s, p, n, ks, az, r⟩ := t; rw [bulkM]; rfl
theorem bulkKs_mem : ∀ {l : List Tm} {u : Tm}, u ∈ l → bulkM u ≤ bulkKs l
  | t :: ts, u, h => by
    rw [bulkKs]
    rcases List.mem_cons.1 h with rfl | h
    · omega
    · have := bulkKs_mem h; omega
theorem sum_len (l : List Str) : l.length ≤ (l.map fun x => x.length + 2).sum := by
  induction l with
  | nil => simp
  | cons x l ih => simp only [List.length_cons, List.map_cons, List.sum_cons]; omega
theorem bulkAs_mem : ∀ {l : List Ar} {a : Ar}, a ∈ l → a.name.length + (a.vars.map fun x => x.length + 2).sum + bulkM a.body ≤ bulkAs l
  | ⟨s, v, b⟩ :: ts, a, h => by
    rw [bulkAs]
    rcases List.mem_cons.1 h with rfl | h
    · simp only [Ar.name, Ar.vars, Ar.body]; omega
    · have := bulkAs_mem h; omega
theorem bulk_kid {t u : Tm} (h : u ∈ t.kids) : bulkM u + 3 ≤ bulkM t := by rw [bulkM_eq t]; have := bulkKs_mem h; omega
theorem bulk_arm {t : Tm} {a : Ar} (h : a ∈ t.arms) : a.vars.length + bulkM a.body + 3 ≤ bulkM t := by rw [bulkM_eq t]; have := bulkAs_mem h; have := sum_len a.vars; omega
mutual
def countM : Tm → Nat
  | ⟨_, _, _, _, _, ks, az, _⟩ => 1 + countKs ks + countAs az
def countKs : List Tm → Nat
  | [] => 0
  | t :: ts => countM t + countKs ts
def countAs : List Ar → Nat
  | [] => 0
  | ⟨_, _, b⟩ :: ts => countM b + countAs ts
end
theorem countM_eq (t : Tm) : countM t = 1 + countKs t.kids + countAs t.arms := by obtain ⟨k, a, s, p, n, ks, az, r⟩ := t; rw [countM]; rfl
theorem countKs_len : ∀ l : List Tm, l.length ≤ countKs l
  | [] => Nat.zero_le _
  | t :: ts => by rw [countKs, List.length_cons, countM_eq]; have := countKs_len ts; omega
theorem countAs_cons (a : Ar) (ts : List Ar) : countAs (a :: ts) = countM a.body + countAs ts := by obtain ⟨s, l, b⟩ := a; rw [countAs]; rfl
theorem countAs_len : ∀ l : List Ar, l.length ≤ countAs l
  | [] => Nat.zero_le _
  | t :: ts => by rw [countAs_cons, List.length_cons, countM_eq]; have := countAs_len ts; omega
set_option maxHeartbeats 400000 in
theorem in_c {w : World} {m : Mem} {o_l : Option Addr} {c_l : Nat} {l : List Str} {s : Str} (hA : Agree w m) (h_l : Strs m o_l l.length c_l l) : FnV Try.prog 15 #[.slice o_l l.length c_l, S s] w m (fun _ _ v => v = .bool (decide (s ∈ l))) := by
  have hb_l := h_l.big; have hc_l := h_l.cap
  refine fn_enter (vs := [_, _]) Try.func15 rfl rfl rfl fun a0 hfr0 => ?_
  have hst0 := st_enter hA (loc_nil [] _ w m)
  have hM : MLe m m := MLe.refl m
  refine seq_any fun _ hK1 => ?_
  refine rp0 hst0 hfr0 (.cons rfl (ob_assign rfl) <| .nil) ?_
  intro a1 w1 m1 hst1 hle1 hk1
  have hfr1 := hk1.fr (T' := [(0, _), (1, _)]) (.old rfl rfl <| .old rfl rfl <| .nil)
  replace h_l := h_l.mono hle1
  clear hst0 hfr0 hk1
  refine hK1 _ _ ?_; clear hK1
  refine seq_any fun _ hK2 => ?_
  refine seq_any fun _ hK3 => ?_
  refine rp0 hst1 hfr1 (.cons rfl (ob_assign rfl) <| .nil) ?_
  intro a2 w2 m2 hst2 hle2 hk2
  have hfr2 := hk2.fr (T' := [(0, _), (1, _), (5, _)]) (.old rfl rfl <| .old rfl rfl <| .new rfl <| .nil)
  replace h_l := h_l.mono hle2
  clear hst1 hfr1 hk2
  refine hK3 _ _ ?_; clear hK3
  refine wp_block ?_
  refine loop_any (T := [(0, _), (1, _)]) (fun (y : Nat) => ([(5, .int .i64 (y : Int))] : List (Nat × Value))) (fun _ => _) (fun (y : Nat) m => (y ≤ l.length) ∧ ((s ∈ l) = (s ∈ l.drop y))) (fun y => l.length - y) (0) ⟨hst2, MLe.refl _, hfr2.sub (.cons rfl <| .cons rfl <| .cons rfl <| .nil), ⟨Nat.zero_le _, rfl⟩⟩ fun y a3 w3 m3 hh3 => ?_
  have hst3 := hh3.st; have hle3 := hh3.le; have hfr3 := hh3.fr; have hrel := hh3.rel; clear hh3
  replace h_l := h_l.mono hle3
  clear hst2 hfr2
  obtain ⟨hyn, hrem⟩ := hrel
  have hlh3 := hle3
  refine seq_any fun _ hK5 => ?_
  refine seq_any fun _ hK6 => ?_
  refine rp0 hst3 hfr3 (.cons rfl (ob_move rfl) <| .cons rfl (ob_move rfl) <| .cons rfl (ob_len rfl Try.underlying27) <| .cons rfl (ob_lss rfl rfl) <| .nil) ?_
  intro a4 w4 m4 hst4 hle4 hk4
  have hfr4 := hk4.fr (T' := [(5, _), (0, _), (1, _), (9, _)]) (.old rfl rfl <| .old rfl rfl <| .old rfl rfl <| .new rfl <| .nil)
  replace h_l := h_l.mono hle4
  have hlh4 := hlh3.trans hle4
  clear hst3 hfr3 hk4
  refine hK6 _ _ ?_; clear hK6
  refine cond_any hfr4 rfl rfl (fun hb9 => ?_) (fun hb9 => ?_)
  · try simp only [nq1, nq2, nq3, nq4, nq5, nq6, nq7, nq8, nq9, u8_eq] at hb9
    refine wp_skip ?_
    refine hK5 _ _ ?_; clear hK5
    refine seq_any fun _ hK7 => ?_
    refine wp_block ?_
    refine seq_any fun _ hK8 => ?_
    obtain ⟨p9, vs9, x9, ho9, hd9, hm_x9, ht9, hcv9, hl9, hv9⟩ := h_l.nth (k := y) (by omega)
    cases ho9
    subst hv9
    try rw [hd9] at hrem
    try simp only [List.mem_cons] at hrem
    refine rp0 hst4 hfr4 (.cons rfl (ob_move rfl) <| .cons rfl (ob_move rfl) <| .cons rfl (ob_indexAddr (k := y) rfl rfl Try.underlying27 Try.sizeOf9 rfl (by omega)) <| .cons rfl (ob_load1' rfl hcv9 Try.isAgg9 rfl) <| .cons rfl (ob_move rfl) <| .cons rfl (ob_seql rfl rfl) <| .nil) ?_
    intro a5 w5 m5 hst5 hle5 hk5
    have hfr5 := hk5.fr (T' := [(5, _), (0, _), (1, _), (17, _)]) (.old rfl rfl <| .old rfl rfl <| .old rfl rfl <| .new rfl <| .nil)
    have hlh5 := hlh4.trans hle5
    clear hst4 hfr4 hk5
    refine hK8 _ _ ?_; clear hK8
    refine cond_any hfr5 rfl rfl (fun hb17 => ?_) (fun hb17 => ?_)
    · try simp only [nq1, nq2, nq3, nq4, nq5, nq6, nq7, nq8, nq9, u8_eq] at hb17
      have hr : decide (s ∈ l) = true := decide_eq_true (by rw [hrem]; exact .inl hb17.symm)
      refine seq_any fun _ hK10 => ?_
      refine rp0 hst5 hfr5 (.cons rfl (ob_assign rfl) <| .nil) ?_
      intro a6 w6 m6 hst6 hle6 hk6
      have hfr6 := hk6.fr (T' := [(5, _), (4, _)]) (.old rfl rfl <| .new rfl <| .nil)
      have hlh6 := hlh5.trans hle6
      clear hst5 hfr5 hk6
      refine hK10 _ _ ?_; clear hK10
      refine wp_ret ?_
      repeat (with_reducible first | refine then_ret ?_ | refine block_ret ?_)
      exact fn_ret hst6 hfr6 rfl (.tmp rfl <| .nil) (by rw [hr]; rfl)
    · try simp only [nq1, nq2, nq3, nq4, nq5, nq6, nq7, nq8, nq9, u8_eq] at hb17
      refine wp_skip ?_
      refine hK7 _ _ ?_; clear hK7
      refine rp0 hst5 hfr5 (.cons rfl (ob_move rfl) <| .cons rfl (ob_add rfl rfl ⟨by omega, by omega⟩) <| .cons rfl (ob_assign rfl) <| .nil) ?_
      intro a6 w6 m6 hst6 hle6 hk6
      have hfr6 := hk6.fr (T' := [(0, _), (1, _), (5, _)]) (.old rfl rfl <| .old rfl rfl <| .new rfl <| .nil)
      have hlh6 := hlh5.trans hle6
      clear hst5 hfr5 hk6
      exact ⟨y + 1, m6, by show l.length - (y + 1) < l.length - y; omega, ⟨hst6, hlh6, hfr6.sub (.cons rfl <| .cons rfl <| .cons rfl <| .nil), ⟨by show y + 1 ≤ l.length; omega, by rw [hrem]; simp only [eq_iff_iff]; exact ⟨fun h => h.resolve_left (Ne.symm hb17), .inr⟩⟩⟩⟩
  · try simp only [nq1, nq2, nq3, nq4, nq5, nq6, nq7, nq8, nq9, u8_eq] at hb9
    have hge : y = l.length := by omega
    rw [List.drop_of_length_le (by omega)] at hrem
    refine wp_exit ?_
    refine hK2 _ _ ?_; clear hK2
    refine seq_any fun _ hK12 => ?_
    refine rp0 hst4 hfr4 (.cons rfl (ob_assign rfl) <| .nil) ?_
    intro a5 w5 m5 hst5 hle5 hk5
    have hfr5 := hk5.fr (T' := [(5, _), (4, _)]) (.old rfl rfl <| .new rfl <| .nil)
    have hlh5 := hlh4.trans hle5
    clear hst4 hfr4 hk5
    refine hK12 _ _ ?_; clear hK12
    refine wp_ret ?_
    repeat (with_reducible first | refine then_ret ?_ | refine block_ret ?_)
    exact fn_ret hst5 hfr5 rfl (.tmp rfl <| .nil) (by rw [decide_eq_false (by rw [hrem]; simp)]; rfl)

set_option maxHeartbeats 400000 in
theorem prims_c {w : World} {m : Mem} {s : Str} (hA : Agree w m)  : FnV Try.prog 72 #[S s] w m (fun _ m v => MP.anyIB.p m v) := by
  refine fn_enter (vs := [_]) Try.func72 rfl rfl rfl fun a0 hfr0 => ?_
  have hst0 := st_enter hA (loc_nil [] _ w m)
  have hM : MLe m m := MLe.refl m
  refine seq_any fun _ hK1 => ?_
  refine rp0 hst0 hfr0 (.cons rfl (ob_assign rfl) <| .cons rfl (ob_assign rfl) <| .nil) ?_
  intro a1 w1 m1 hst1 hle1 hk1
  have hfr1 := hk1.fr (T' := [(0, _)]) (.old rfl rfl <| .nil)
  clear hst0 hfr0 hk1
  refine hK1 _ _ ?_; clear hK1
  refine seq_any fun _ hK2 => ?_
  refine seq_any fun _ hK3 => ?_
  refine rp0 hst1 hfr1 (.cons rfl (ob_move rfl) <| .nil) ?_
  intro a2 w2 m2 hst2 hle2 hk2
  have hfr2 := hk2.fr (T' := [(4, _)]) (.new rfl <| .nil)
  clear hst1 hfr1 hk2
  refine hK3 _ _ ?_; clear hK3
  refine wp_block ?_
  refine seq_any fun _ hK4 => ?_
  refine seq_any fun _ hK5 => ?_
  refine rp0 hst2 hfr2 (.cons rfl (ob_seql rfl rfl) <| .cons rfl (ob_assign rfl) <| .nil) ?_
  intro a3 w3 m3 hst3 hle3 hk3
  have hfr3 := hk3.fr (T' := [(4, _), (5, _)]) (.old rfl rfl <| .new rfl <| .nil)
  clear hst2 hfr2 hk3
  refine hK5 _ _ ?_; clear hK5
  refine cond_any hfr3 rfl rfl (fun hb5 => ?_) (fun hb5 => ?_)
  · try simp only [nq1, nq2, nq3, nq4, nq5, nq6, nq7, nq8, nq9, u8_eq] at hb5
    refine wp_skip ?_
    refine hK4 _ _ ?_; clear hK4
    refine cond_any hfr3 rfl rfl (fun hb5x => ?_) (fun hb5x => ?_)
    · try simp only [nq1, nq2, nq3, nq4, nq5, nq6, nq7, nq8, nq9, u8_eq] at hb5x
      refine seq_any fun _ hK6 => ?_
      refine rp0 hst3 hfr3 (.cons rfl (ob_assign rfl) <| .cons rfl (ob_assign rfl) <| .nil) ?_
      intro a4 w4 m4 hst4 hle4 hk4
      have hfr4 := hk4.fr (T' := [(2, _), (3, _)]) (.new rfl <| .new rfl <| .nil)
      clear hst3 hfr3 hk4
      refine hK6 _ _ ?_; clear hK6
      refine wp_ret ?_
      repeat (with_reducible first | refine then_ret ?_ | refine block_ret ?_)
      exact fn_ret hst4 hfr4 rfl (.tmp rfl <| .tmp rfl <| .nil) (⟨(_, _), rfl, trivial⟩)
    · exfalso; try simp only [nq1, nq2, nq3, nq4, nq5, nq6, nq7, nq8, nq9, u8_eq] at hb5x
      first | exact absurd hb5x hb5 | exact absurd hb5 hb5x | simp_all
  · try simp only [nq1, nq2, nq3, nq4, nq5, nq6, nq7, nq8, nq9, u8_eq] at hb5
    refine seq_any fun _ hK8 => ?_
    refine rp0 hst3 hfr3 (.cons rfl (ob_seql rfl rfl) <| .cons rfl (ob_assign rfl) <| .nil) ?_
    intro a4 w4 m4 hst4 hle4 hk4
    have hfr4 := hk4.fr (T' := [(4, _), (5, _)]) (.old rfl rfl <| .new rfl <| .nil)
    clear hst3 hfr3 hk4
    refine hK8 _ _ ?_; clear hK8
    refine cond_any hfr4 rfl rfl (fun hb5 => ?_) (fun hb5 => ?_)
    · try simp only [nq1, nq2, nq3, nq4, nq5, nq6, nq7, nq8, nq9, u8_eq] at hb5
      refine wp_skip ?_
      refine hK4 _ _ ?_; clear hK4
      refine cond_any hfr4 rfl rfl (fun hb5x => ?_) (fun hb5x => ?_)
      · try simp only [nq1, nq2, nq3, nq4, nq5, nq6, nq7, nq8, nq9, u8_eq] at hb5x
        refine seq_any fun _ hK9 => ?_
        refine rp0 hst4 hfr4 (.cons rfl (ob_assign rfl) <| .cons rfl (ob_assign rfl) <| .nil) ?_
        intro a5 w5 m5 hst5 hle5 hk5
        have hfr5 := hk5.fr (T' := [(2, _), (3, _)]) (.new rfl <| .new rfl <| .nil)
        clear hst4 hfr4 hk5
        refine hK9 _ _ ?_; clear hK9
        refine wp_ret ?_
        repeat (with_reducible first | refine then_ret ?_ | refine block_ret ?_)
        exact fn_ret hst5 hfr5 rfl (.tmp rfl <| .tmp rfl <| .nil) (⟨(_, _), rfl, trivial⟩)
      · exfalso; try simp only [nq1, nq2, nq3, nq4, nq5, nq6, nq7, nq8, nq9, u8_eq] at hb5x
        first | exact absurd hb5x hb5 | exact absurd hb5 hb5x | simp_all
    · try simp only [nq1, nq2, nq3, nq4, nq5, nq6, nq7, nq8, nq9, u8_eq] at hb5
      refine seq_any fun _ hK11 => ?_
      refine rp0 hst4 hfr4 (.cons rfl (ob_seql rfl rfl) <| .cons rfl (ob_assign rfl) <| .nil) ?_
      intro a5 w5 m5 hst5 hle5 hk5
      have hfr5 := hk5.fr (T' := [(4, _), (5, _)]) (.old rfl rfl <| .new rfl <| .nil)
      clear hst4 hfr4 hk5
      refine hK11 _ _ ?_; clear hK11
      refine cond_any hfr5 rfl rfl (fun hb5 => ?_) (fun hb5 => ?_)
      · try simp only [nq1, nq2, nq3, nq4, nq5, nq6, nq7, nq8, nq9, u8_eq] at hb5
        refine wp_skip ?_
        refine hK4 _ _ ?_; clear hK4
        refine cond_any hfr5 rfl rfl (fun hb5x => ?_) (fun hb5x => ?_)
        · try simp only [nq1, nq2, nq3, nq4, nq5, nq6, nq7, nq8, nq9, u8_eq] at hb5x
          refine seq_any fun _ hK12 => ?_
          refine rp0 hst5 hfr5 (.cons rfl (ob_assign rfl) <| .cons rfl (ob_assign rfl) <| .nil) ?_
          intro a6 w6 m6 hst6 hle6 hk6
          have hfr6 := hk6.fr (T' := [(2, _), (3, _)]) (.new rfl <| .new rfl <| .nil)
          clear hst5 hfr5 hk6
          refine hK12 _ _ ?_; clear hK12
          refine wp_ret ?_
          repeat (with_reducible first | refine then_ret ?_ | refine block_ret ?_)
          exact fn_ret hst6 hfr6 rfl (.tmp rfl <| .tmp rfl <| .nil) (⟨(_, _), rfl, trivial⟩)
        · exfalso; try simp only [nq1, nq2, nq3, nq4, nq5, nq6, nq7, nq8, nq9, u8_eq] at hb5x
          first | exact absurd hb5x hb5 | exact absurd hb5 hb5x | simp_all
      · try simp only [nq1, nq2, nq3, nq4, nq5, nq6, nq7, nq8, nq9, u8_eq] at hb5
        refine seq_any fun _ hK14 => ?_
        refine rp0 hst5 hfr5 (.cons rfl (ob_seql rfl rfl) <| .cons rfl (ob_assign rfl) <| .nil) ?_
        intro a6 w6 m6 hst6 hle6 hk6
        have hfr6 := hk6.fr (T' := [(4, _), (5, _)]) (.old rfl rfl <| .new rfl <| .nil)
        clear hst5 hfr5 hk6
        refine hK14 _ _ ?_; clear hK14
        refine cond_any hfr6 rfl rfl (fun hb5 => ?_) (fun hb5 => ?_)
        · try simp only [nq1, nq2, nq3, nq4, nq5, nq6, nq7, nq8, nq9, u8_eq] at hb5
          refine wp_skip ?_
          refine hK4 _ _ ?_; clear hK4
          refine cond_any hfr6 rfl rfl (fun hb5x => ?_) (fun hb5x => ?_)
          · try simp only [nq1, nq2, nq3, nq4, nq5, nq6, nq7, nq8, nq9, u8_eq] at hb5x
            refine seq_any fun _ hK15 => ?_
            refine rp0 hst6 hfr6 (.cons rfl (ob_assign rfl) <| .cons rfl (ob_assign rfl) <| .nil) ?_
            intro a7 w7 m7 hst7 hle7 hk7
            have hfr7 := hk7.fr (T' := [(2, _), (3, _)]) (.new rfl <| .new rfl <| .nil)
            clear hst6 hfr6 hk7
            refine hK15 _ _ ?_; clear hK15
            refine wp_ret ?_
            repeat (with_reducible first | refine then_ret ?_ | refine block_ret ?_)
            exact fn_ret hst7 hfr7 rfl (.tmp rfl <| .tmp rfl <| .nil) (⟨(_, _), rfl, trivial⟩)
          · exfalso; try simp only [nq1, nq2, nq3, nq4, nq5, nq6, nq7, nq8, nq9, u8_eq] at hb5x
            first | exact absurd hb5x hb5 | exact absurd hb5 hb5x | simp_all
        · try simp only [nq1, nq2, nq3, nq4, nq5, nq6, nq7, nq8, nq9, u8_eq] at hb5
          refine seq_any fun _ hK17 => ?_
          refine rp0 hst6 hfr6 (.cons rfl (ob_seql rfl rfl) <| .cons rfl (ob_assign rfl) <| .nil) ?_
          intro a7 w7 m7 hst7 hle7 hk7
          have hfr7 := hk7.fr (T' := [(4, _), (5, _)]) (.old rfl rfl <| .new rfl <| .nil)
          clear hst6 hfr6 hk7
          refine hK17 _ _ ?_; clear hK17
          refine cond_any hfr7 rfl rfl (fun hb5 => ?_) (fun hb5 => ?_)
          · try simp only [nq1, nq2, nq3, nq4, nq5, nq6, nq7, nq8, nq9, u8_eq] at hb5
            refine wp_skip ?_
            refine hK4 _ _ ?_; clear hK4
            refine cond_any hfr7 rfl rfl (fun hb5x => ?_) (fun hb5x => ?_)
            · try simp only [nq1, nq2, nq3, nq4, nq5, nq6, nq7, nq8, nq9, u8_eq] at hb5x
              refine seq_any fun _ hK18 => ?_
              refine rp0 hst7 hfr7 (.cons rfl (ob_assign rfl) <| .cons rfl (ob_assign rfl) <| .nil) ?_
              intro a8 w8 m8 hst8 hle8 hk8
              have hfr8 := hk8.fr (T' := [(2, _), (3, _)]) (.new rfl <| .new rfl <| .nil)
              clear hst7 hfr7 hk8
              refine hK18 _ _ ?_; clear hK18
              refine wp_ret ?_
              repeat (with_reducible first | refine then_ret ?_ | refine block_ret ?_)
              exact fn_ret hst8 hfr8 rfl (.tmp rfl <| .tmp rfl <| .nil) (⟨(_, _), rfl, trivial⟩)
            · exfalso; try simp only [nq1, nq2, nq3, nq4, nq5, nq6, nq7, nq8, nq9, u8_eq] at hb5x
              first | exact absurd hb5x hb5 | exact absurd hb5 hb5x | simp_all
          · try simp only [nq1, nq2, nq3, nq4, nq5, nq6, nq7, nq8, nq9, u8_eq] at hb5
            refine seq_any fun _ hK20 => ?_
            refine rp0 hst7 hfr7 (.cons rfl (ob_seql rfl rfl) <| .cons rfl (ob_assign rfl) <| .nil) ?_
            intro a8 w8 m8 hst8 hle8 hk8
            have hfr8 := hk8.fr (T' := [(4, _), (5, _)]) (.old rfl rfl <| .new rfl <| .nil)
            clear hst7 hfr7 hk8
            refine hK20 _ _ ?_; clear hK20
            refine cond_any hfr8 rfl rfl (fun hb5 => ?_) (fun hb5 => ?_)
            · try simp only [nq1, nq2, nq3, nq4, nq5, nq6, nq7, nq8, nq9, u8_eq] at hb5
              refine wp_skip ?_
              refine hK4 _ _ ?_; clear hK4
              refine cond_any hfr8 rfl rfl (fun hb5x => ?_) (fun hb5x => ?_)
              · try simp only [nq1, nq2, nq3, nq4, nq5, nq6, nq7, nq8, nq9, u8_eq] at hb5x
                refine seq_any fun _ hK21 => ?_
                refine rp0 hst8 hfr8 (.cons rfl (ob_assign rfl) <| .cons rfl (ob_assign rfl) <| .nil) ?_
                intro a9 w9 m9 hst9 hle9 hk9
                have hfr9 := hk9.fr (T' := [(2, _), (3, _)]) (.new rfl <| .new rfl <| .nil)
                clear hst8 hfr8 hk9
                refine hK21 _ _ ?_; clear hK21
                refine wp_ret ?_
                repeat (with_reducible first | refine then_ret ?_ | refine block_ret ?_)
                exact fn_ret hst9 hfr9 rfl (.tmp rfl <| .tmp rfl <| .nil) (⟨(_, _), rfl, trivial⟩)
              · exfalso; try simp only [nq1, nq2, nq3, nq4, nq5, nq6, nq7, nq8, nq9, u8_eq] at hb5x
                first | exact absurd hb5x hb5 | exact absurd hb5 hb5x | simp_all
            · try simp only [nq1, nq2, nq3, nq4, nq5, nq6, nq7, nq8, nq9, u8_eq] at hb5
              refine rp0 hst8 hfr8 (.cons rfl (ob_seql rfl rfl) <| .cons rfl (ob_assign rfl) <| .nil) ?_
              intro a9 w9 m9 hst9 hle9 hk9
              have hfr9 := hk9.fr (T' := [(4, _), (5, _)]) (.old rfl rfl <| .new rfl <| .nil)
              clear hst8 hfr8 hk9
              refine hK4 _ _ ?_; clear hK4
              refine cond_any hfr9 rfl rfl (fun hb5 => ?_) (fun hb5 => ?_)
              · try simp only [nq1, nq2, nq3, nq4, nq5, nq6, nq7, nq8, nq9, u8_eq] at hb5
                refine seq_any fun _ hK23 => ?_
                refine rp0 hst9 hfr9 (.cons rfl (ob_assign rfl) <| .cons rfl (ob_assign rfl) <| .nil) ?_
                intro a10 w10 m10 hst10 hle10 hk10
                have hfr10 := hk10.fr (T' := [(2, _), (3, _)]) (.new rfl <| .new rfl <| .nil)
                clear hst9 hfr9 hk10
                refine hK23 _ _ ?_; clear hK23
                refine wp_ret ?_
                repeat (with_reducible first | refine then_ret ?_ | refine block_ret ?_)
                exact fn_ret hst10 hfr10 rfl (.tmp rfl <| .tmp rfl <| .nil) (⟨(_, _), rfl, trivial⟩)
              · try simp only [nq1, nq2, nq3, nq4, nq5, nq6, nq7, nq8, nq9, u8_eq] at hb5
                refine seq_any fun _ hK25 => ?_
                refine seq_any fun _ hK26 => ?_
                refine rp0 hst9 hfr9 (.cons rfl (ob_seql rfl rfl) <| .cons rfl (ob_assign rfl) <| .nil) ?_
                intro a10 w10 m10 hst10 hle10 hk10
                have hfr10 := hk10.fr (T' := [(4, _), (13, _)]) (.old rfl rfl <| .new rfl <| .nil)
                clear hst9 hfr9 hk10
                refine hK26 _ _ ?_; clear hK26
                refine cond_any hfr10 rfl rfl (fun hb13 => ?_) (fun hb13 => ?_)
                · try simp only [nq1, nq2, nq3, nq4, nq5, nq6, nq7, nq8, nq9, u8_eq] at hb13
                  refine wp_skip ?_
                  refine hK25 _ _ ?_; clear hK25
                  refine cond_any hfr10 rfl rfl (fun hb13x => ?_) (fun hb13x => ?_)
                  · try simp only [nq1, nq2, nq3, nq4, nq5, nq6, nq7, nq8, nq9, u8_eq] at hb13x
                    refine seq_any fun _ hK27 => ?_
                    refine rp0 hst10 hfr10 (.cons rfl (ob_assign rfl) <| .cons rfl (ob_assign rfl) <| .nil) ?_
                    intro a11 w11 m11 hst11 hle11 hk11
                    have hfr11 := hk11.fr (T' := [(2, _), (3, _)]) (.new rfl <| .new rfl <| .nil)
                    clear hst10 hfr10 hk11
                    refine hK27 _ _ ?_; clear hK27
                    refine wp_ret ?_
                    repeat (with_reducible first | refine then_ret ?_ | refine block_ret ?_)
                    exact fn_ret hst11 hfr11 rfl (.tmp rfl <| .tmp rfl <| .nil) (⟨(_, _), rfl, trivial⟩)
                  · exfalso; try simp only [nq1, nq2, nq3, nq4, nq5, nq6, nq7, nq8, nq9, u8_eq] at hb13x
                    first | exact absurd hb13x hb13 | exact absurd hb13 hb13x | simp_all
                · try simp only [nq1, nq2, nq3, nq4, nq5, nq6, nq7, nq8, nq9, u8_eq] at hb13
                  refine seq_any fun _ hK29 => ?_
                  refine rp0 hst10 hfr10 (.cons rfl (ob_seql rfl rfl) <| .cons rfl (ob_assign rfl) <| .nil) ?_
                  intro a11 w11 m11 hst11 hle11 hk11
                  have hfr11 := hk11.fr (T' := [(4, _), (13, _)]) (.old rfl rfl <| .new rfl <| .nil)
                  clear hst10 hfr10 hk11
                  refine hK29 _ _ ?_; clear hK29
                  refine cond_any hfr11 rfl rfl (fun hb13 => ?_) (fun hb13 => ?_)
                  · try simp only [nq1, nq2, nq3, nq4, nq5, nq6, nq7, nq8, nq9, u8_eq] at hb13
                    refine wp_skip ?_
                    refine hK25 _ _ ?_; clear hK25
                    refine cond_any hfr11 rfl rfl (fun hb13x => ?_) (fun hb13x => ?_)
                    · try simp only [nq1, nq2, nq3, nq4, nq5, nq6, nq7, nq8, nq9, u8_eq] at hb13x
                      refine seq_any fun _ hK30 => ?_
                      refine rp0 hst11 hfr11 (.cons rfl (ob_assign rfl) <| .cons rfl (ob_assign rfl) <| .nil) ?_
                      intro a12 w12 m12 hst12 hle12 hk12
                      have hfr12 := hk12.fr (T' := [(2, _), (3, _)]) (.new rfl <| .new rfl <| .nil)
                      clear hst11 hfr11 hk12
                      refine hK30 _ _ ?_; clear hK30
                      refine wp_ret ?_
                      repeat (with_reducible first | refine then_ret ?_ | refine block_ret ?_)
                      exact fn_ret hst12 hfr12 rfl (.tmp rfl <| .tmp rfl <| .nil) (⟨(_, _), rfl, trivial⟩)
                    · exfalso; try simp only [nq1, nq2, nq3, nq4, nq5, nq6, nq7, nq8, nq9, u8_eq] at hb13x
                      first | exact absurd hb13x hb13 | exact absurd hb13 hb13x | simp_all
                  · try simp only [nq1, nq2, nq3, nq4, nq5, nq6, nq7, nq8, nq9, u8_eq] at hb13
                    refine rp0 hst11 hfr11 (.cons rfl (ob_seql rfl rfl) <| .cons rfl (ob_assign rfl) <| .nil) ?_
                    intro a12 w12 m12 hst12 hle12 hk12
                    have hfr12 := hk12.fr (T' := [(4, _), (13, _)]) (.old rfl rfl <| .new rfl <| .nil)
                    clear hst11 hfr11 hk12
                    refine hK25 _ _ ?_; clear hK25
                    refine cond_any hfr12 rfl rfl (fun hb13 => ?_) (fun hb13 => ?_)
                    · try simp only [nq1, nq2, nq3, nq4, nq5, nq6, nq7, nq8, nq9, u8_eq] at hb13
                      refine seq_any fun _ hK32 => ?_
                      refine rp0 hst12 hfr12 (.cons rfl (ob_assign rfl) <| .cons rfl (ob_assign rfl) <| .nil) ?_
                      intro a13 w13 m13 hst13 hle13 hk13
                      have hfr13 := hk13.fr (T' := [(2, _), (3, _)]) (.new rfl <| .new rfl <| .nil)
                      clear hst12 hfr12 hk13
                      refine hK32 _ _ ?_; clear hK32
                      refine wp_ret ?_
                      repeat (with_reducible first | refine then_ret ?_ | refine block_ret ?_)
                      exact fn_ret hst13 hfr13 rfl (.tmp rfl <| .tmp rfl <| .nil) (⟨(_, _), rfl, trivial⟩)
                    · try simp only [nq1, nq2, nq3, nq4, nq5, nq6, nq7, nq8, nq9, u8_eq] at hb13
                      refine seq_any fun _ hK34 => ?_
                      refine rp0 hst12 hfr12 (.cons rfl (ob_seql rfl rfl) <| .cons rfl (ob_assign rfl) <| .nil) ?_
                      intro a13 w13 m13 hst13 hle13 hk13
                      have hfr13 := hk13.fr (T' := [(17, _)]) (.new rfl <| .nil)
                      clear hst12 hfr12 hk13
                      refine hK34 _ _ ?_; clear hK34
                      refine cond_any hfr13 rfl rfl (fun hb17 => ?_) (fun hb17 => ?_)
                      · try simp only [nq1, nq2, nq3, nq4, nq5, nq6, nq7, nq8, nq9, u8_eq] at hb17
                        refine seq_any fun _ hK35 => ?_
                        refine rp0 hst13 hfr13 (.cons rfl (ob_assign rfl) <| .cons rfl (ob_assign rfl) <| .nil) ?_
                        intro a14 w14 m14 hst14 hle14 hk14
                        have hfr14 := hk14.fr (T' := [(2, _), (3, _)]) (.new rfl <| .new rfl <| .nil)
                        clear hst13 hfr13 hk14
                        refine hK35 _ _ ?_; clear hK35
                        refine wp_ret ?_
                        repeat (with_reducible first | refine then_ret ?_ | refine block_ret ?_)
                        exact fn_ret hst14 hfr14 rfl (.tmp rfl <| .tmp rfl <| .nil) (⟨(_, _), rfl, trivial⟩)
                      · try simp only [nq1, nq2, nq3, nq4, nq5, nq6, nq7, nq8, nq9, u8_eq] at hb17
                        refine wp_skip ?_
                        refine hK2 _ _ ?_; clear hK2
                        refine seq_any fun _ hK37 => ?_
                        refine rp0 hst13 hfr13 (.cons rfl (ob_assign rfl) <| .cons rfl (ob_assign rfl) <| .nil) ?_
                        intro a14 w14 m14 hst14 hle14 hk14
                        have hfr14 := hk14.fr (T' := [(2, _), (3, _)]) (.new rfl <| .new rfl <| .nil)
                        clear hst13 hfr13 hk14
                        refine hK37 _ _ ?_; clear hK37
                        refine wp_ret ?_
                        repeat (with_reducible first | refine then_ret ?_ | refine block_ret ?_)
                        exact fn_ret hst14 hfr14 rfl (.tmp rfl <| .tmp rfl <| .nil) (⟨(_, _), rfl, trivial⟩)

set_option maxHeartbeats 400000 in
theorem handled_c {w : World} {m : Mem} {p : Pg} {vs_p : List Value} {s : Str} (hA : Agree w m) (h_p : PgR m p vs_p) : FnV Try.prog 81 #[.agg vs_p.toArray, S s] w m (fun _ m v => (MP.efB (opsN p.effects)).p m v) := by
  obtain ⟨oE_p, cE_p, oD_p, cD_p, bs_p, rfl, hef_p, hda_p, hpb_p⟩ := id h_p
  have hbe_p := hef_p.big; have hce_p := hef_p.cap; have hbda_p := hda_p.big; have hcd_p := hda_p.cap
  obtain ⟨⟨oK_pb, cK_pb, oA_pb, cA_pb, oR_pb, cR_pb, t0_pb, t1_pb, t2_pb, t3_pb, t4_pb, t5_pb, u0_pb, u1_pb, u2_pb, u3_pb, u4_pb, u5_pb⟩, rfl, hon_pb, hkk_pb, haa_pb, hrr_pb⟩ := hpb_p.open_
  dsimp only at hkk_pb haa_pb hrr_pb
  have hbg_pb := hkk_pb.big; have hcp_pb := hkk_pb.cap; have hbh_pb := haa_pb.big; have hcq_pb := haa_pb.cap
  refine fn_enter (vs := [_, _]) Try.func81 rfl rfl rfl fun a0 hfr0 => ?_
  have hst0 := st_enter hA (loc_nil [] _ w m)
  have hM : MLe m m := MLe.refl m
  refine seq_any fun _ hK1 => ?_
  replace hst0 := hst0.more (r := .free) trivial List.nodup_nil (by simp [Res.blocks])
  refine ra0 (tch := [(1, 0, (fun v => .blk v _))]) hst0 hfr0 (.cons rfl (ob_box rfl rfl) <| .consT rfl rfl (fun _ => rfl) rfl (ob_allocL Try.zeroValue83 rfl) <| .cons rfl (ob_assign rfl) <| .nil) ?_
  intro a1 w1 m1 hst1 hle1 hk1
  have hfr1 := hk1.fr (T' := [(1, _)]) (.old rfl rfl <| .nil)
  obtain ⟨g2, e2, hc2⟩ := hk1.ex 2 rfl
  replace hfr1 := hfr1.cons e2
  obtain ⟨g3, e3, _⟩ := hk1.ex 4 rfl
  replace hfr1 := hfr1.cons e3
  replace hst1 := hst1.fin (L' := [_]) (.cons e3 <| .nil)
  replace hef_p := hef_p.mono hle1
  clear hst0 hfr0 hk1
  refine hK1 _ _ ?_; clear hK1
  refine seq_any fun _ hK4 => ?_
  refine seq_any fun _ hK5 => ?_
  refine rp0 hst1 hfr1 (.cons rfl (ob_assign rfl) <| .nil) ?_
  intro a2 w2 m2 hst2 hle2 hk2
  have hfr2 := hk2.fr (T' := [(1, _), (2, _), (4, _), (6, _)]) (.old rfl rfl <| .old rfl rfl <| .old rfl rfl <| .new rfl <| .nil)
  replace hef_p := hef_p.mono hle2
  replace hc2 := hc2.mono hle2
  clear hst1 hfr1 hk2
  refine hK5 _ _ ?_; clear hK5
  refine wp_block ?_
  refine loop_any (T := [(1, _), (2, _), (4, _)]) (fun (y : Nat) => ([(6, .int .i64 (y : Int))] : List (Nat × Value))) (fun _ => _) (fun (y : Nat) m => (y ≤ p.effects.length)) (fun y => p.effects.length - y) (0) ⟨hst2, MLe.refl _, hfr2.sub (.cons rfl <| .cons rfl <| .cons rfl <| .cons rfl <| .nil), Nat.zero_le _⟩ fun y a3 w3 m3 hh3 => ?_
  have hst3 := hh3.st; have hle3 := hh3.le; have hfr3 := hh3.fr; have hrel := hh3.rel; clear hh3
  replace hef_p := hef_p.mono hle3
  replace hc2 := hc2.mono hle3
  clear hst2 hfr2
  have hyn := hrel
  have hlh3 := hle3
  refine seq_any fun _ hK7 => ?_
  refine seq_any fun _ hK8 => ?_
  refine rp0 hst3 hfr3 (.cons rfl (ob_move rfl) <| .cons rfl (ob_fieldAddrO (off := 0) rfl Try.underlying35 rfl rfl Try.sizeOf22 rfl) <| .cons rfl (ob_load1 rfl hc2 Try.isAgg22 rfl) <| .cons rfl (ob_len rfl Try.underlying22) <| .cons rfl (ob_lss rfl rfl) <| .nil) ?_
  intro a4 w4 m4 hst4 hle4 hk4
  have hfr4 := hk4.fr (T' := [(6, _), (1, _), (2, _), (4, _), (11, _)]) (.old rfl rfl <| .old rfl rfl <| .old rfl rfl <| .old rfl rfl <| .new rfl <| .nil)
  replace hef_p := hef_p.mono hle4
  replace hc2 := hc2.mono hle4
  have hlh4 := hlh3.trans hle4
  clear hst3 hfr3 hk4
  refine hK8 _ _ ?_; clear hK8
  refine cond_any hfr4 rfl rfl (fun hb11 => ?_) (fun hb11 => ?_)
  · try simp only [nq1, nq2, nq3, nq4, nq5, nq6, nq7, nq8, nq9, u8_eq] at hb11
    refine wp_skip ?_
    refine hK7 _ _ ?_; clear hK7
    refine seq_any fun _ hK9 => ?_
    refine wp_block ?_
    refine seq_any fun _ hK10 => ?_
    obtain ⟨p11, vs11, x11, ho11, hd11, hm_x11, ht11, hcv11, hl11, hv11⟩ := hef_p.nth (k := y) (by omega)
    cases ho11
    obtain ⟨oF11, cF11, rfl, hfl11⟩ := id hv11
    have hbf11 := hfl11.big; have hcf11 := hfl11.cap
    refine rp0 hst4 hfr4 (.cons rfl (ob_fieldAddrO (off := 0) rfl Try.underlying35 rfl rfl Try.sizeOf22 rfl) <| .cons rfl (ob_load1 rfl hc2 Try.isAgg22 rfl) <| .cons rfl (ob_move rfl) <| .cons rfl (ob_indexAddr (k := y) rfl rfl Try.underlying22 Try.sizeOf83 rfl (by omega)) <| .cons rfl (ob_fieldAddrO (off := 0) rfl Try.underlying83 rfl rfl Try.sizeOf9 rfl) <| .cons rfl (ob_load1 rfl hcv11 Try.isAgg9 rfl) <| .cons rfl (ob_move rfl) <| .cons rfl (ob_seql rfl rfl) <| .nil) ?_
    intro a5 w5 m5 hst5 hle5 hk5
    have hfr5 := hk5.fr (T' := [(6, _), (1, _), (2, _), (4, _), (21, _)]) (.old rfl rfl <| .old rfl rfl <| .old rfl rfl <| .old rfl rfl <| .new rfl <| .nil)
    replace hc2 := hc2.mono hle5
    replace hcv11 := hcv11.mono hle5
    replace hfl11 := hfl11.mono hle5
    have hlh5 := hlh4.trans hle5
    clear hst4 hfr4 hk5
    refine hK10 _ _ ?_; clear hK10
    refine cond_any hfr5 rfl rfl (fun hb21 => ?_) (fun hb21 => ?_)
    · try simp only [nq1, nq2, nq3, nq4, nq5, nq6, nq7, nq8, nq9, u8_eq] at hb21
      refine seq_any fun _ hK12 => ?_
      refine ra0 (tch := [(5, 0, (fun _ => .blk _ _))]) hst5 hfr5 (.cons rfl (ob_fieldAddrO (off := 0) rfl Try.underlying35 rfl rfl Try.sizeOf22 rfl) <| .cons rfl (ob_load1 rfl hc2 Try.isAgg22 rfl) <| .cons rfl (ob_move rfl) <| .cons rfl (ob_indexAddr (k := y) rfl rfl Try.underlying22 Try.sizeOf83 rfl (by omega)) <| .cons rfl (ob_loadS' rfl hcv11 Try.isAgg83 Try.sizeOf83 rfl rfl) <| .consT rfl rfl (fun _ => rfl) rfl (ob_store' rfl rfl rfl Try.sizeOf83 rfl rfl rfl) <| .cons rfl (ob_assign rfl) <| .nil) ?_
      intro a6 w6 m6 hst6 hle6 hk6
      have hfr6 := hk6.fr (T' := [(6, _), (4, _), (5, _)]) (.old rfl rfl <| .old rfl rfl <| .new rfl <| .nil)
      replace hst6 := hst6.fin (L' := [_]) (.cons rfl <| .nil)
      replace hfl11 := hfl11.mono hle6
      have hlh6 := hlh5.trans hle6
      clear hst5 hfr5 hk6
      refine hK12 _ _ ?_; clear hK12
      refine wp_ret ?_
      repeat (with_reducible first | refine then_ret ?_ | refine block_ret ?_)
      exact fn_ret hst6 hfr6 rfl (.cell rfl (load_blk (blk_heap (hst6.loc.at_ (k := 0) rfl)) Try.isAgg83 Try.sizeOf83) <| .tmp rfl <| .nil) (⟨((x11, (oF11, cF11)), true), rfl, ⟨_, _, rfl, hfl11⟩, opsN_mem hm_x11⟩)
    · try simp only [nq1, nq2, nq3, nq4, nq5, nq6, nq7, nq8, nq9, u8_eq] at hb21
      refine wp_skip ?_
      refine hK9 _ _ ?_; clear hK9
      refine rp0 hst5 hfr5 (.cons rfl (ob_move rfl) <| .cons rfl (ob_add rfl rfl ⟨by omega, by omega⟩) <| .cons rfl (ob_assign rfl) <| .nil) ?_
      intro a6 w6 m6 hst6 hle6 hk6
      have hfr6 := hk6.fr (T' := [(1, _), (2, _), (4, _), (6, _)]) (.old rfl rfl <| .old rfl rfl <| .old rfl rfl <| .new rfl <| .nil)
      have hlh6 := hlh5.trans hle6
      clear hst5 hfr5 hk6
      exact ⟨y + 1, m6, by show p.effects.length - (y + 1) < p.effects.length - y; omega, ⟨hst6, hlh6, hfr6.sub (.cons rfl <| .cons rfl <| .cons rfl <| .cons rfl <| .nil), by show y + 1 ≤ p.effects.length; omega⟩⟩
  · try simp only [nq1, nq2, nq3, nq4, nq5, nq6, nq7, nq8, nq9, u8_eq] at hb11
    have hge : y = p.effects.length := by omega
    refine wp_exit ?_
    refine hK4 _ _ ?_; clear hK4
    refine seq_any fun _ hK14 => ?_
    refine ra0 (tch := [(1, 0, (fun _ => .blk _ _))]) hst4 hfr4 (.cons rfl (ob_buildS (.nil) Try.underlying83 Try.zeroValue83 (.cons Try.sizeOf9 <| .cons Try.sizeOf81 <| .nil) rfl) <| .consT rfl rfl (fun _ => rfl) rfl (ob_store' rfl rfl rfl Try.sizeOf83 rfl rfl rfl) <| .cons rfl (ob_assign rfl) <| .nil) ?_
    intro a5 w5 m5 hst5 hle5 hk5
    have hfr5 := hk5.fr (T' := [(6, _), (4, _), (5, _)]) (.old rfl rfl <| .old rfl rfl <| .new rfl <| .nil)
    replace hst5 := hst5.fin (L' := [_]) (.cons rfl <| .nil)
    have hlh5 := hlh4.trans hle5
    clear hst4 hfr4 hk5
    refine hK14 _ _ ?_; clear hK14
    refine wp_ret ?_
    repeat (with_reducible first | refine then_ret ?_ | refine block_ret ?_)
    exact fn_ret hst5 hfr5 rfl (.cell rfl (load_blk (blk_heap (hst5.loc.at_ (k := 0) rfl)) Try.isAgg83 Try.sizeOf83) <| .tmp rfl <| .nil) (⟨((⟨[], []⟩, (none, 0)), false), rfl, ⟨_, _, rfl, Sl.empty⟩, Nat.zero_le _⟩)

set_option maxHeartbeats 400000 in
theorem con_c {w : World} {m : Mem} {p : Pg} {vs_p : List Value} {s : Str} (hA : Agree w m) (h_p : PgR m p vs_p) : FnV Try.prog 73 #[.agg vs_p.toArray, S s] w m (fun _ m v => MP.daB.p m v) := by
  obtain ⟨oE_p, cE_p, oD_p, cD_p, bs_p, rfl, hef_p, hda_p, hpb_p⟩ := id h_p
  have hbe_p := hef_p.big; have hce_p := hef_p.cap; have hbda_p := hda_p.big; have hcd_p := hda_p.cap
  obtain ⟨⟨oK_pb, cK_pb, oA_pb, cA_pb, oR_pb, cR_pb, t0_pb, t1_pb, t2_pb, t3_pb, t4_pb, t5_pb, u0_pb, u1_pb, u2_pb, u3_pb, u4_pb, u5_pb⟩, rfl, hon_pb, hkk_pb, haa_pb, hrr_pb⟩ := hpb_p.open_
  dsimp only at hkk_pb haa_pb hrr_pb
  have hbg_pb := hkk_pb.big; have hcp_pb := hkk_pb.cap; have hbh_pb := haa_pb.big; have hcq_pb := haa_pb.cap
  refine fn_enter (vs := [_, _]) Try.func73 rfl rfl rfl fun a0 hfr0 => ?_
  have hst0 := st_enter hA (loc_nil [] _ w m)
  have hM : MLe m m := MLe.refl m
  refine seq_any fun _ hK1 => ?_
  replace hst0 := hst0.more (r := .free) trivial List.nodup_nil (by simp [Res.blocks])
  replace hst0 := hst0.more (r := .free) trivial List.nodup_nil (by simp [Res.blocks])
  refine ra0 (tch := [(1, 0, (fun v => .blk v _)), (2, 1, (fun v => .blk v _))]) hst0 hfr0 (.cons rfl (ob_box rfl rfl) <| .consT rfl rfl (fun _ => rfl) rfl (ob_allocL Try.zeroValue89 rfl) <| .consT rfl rfl (fun _ => rfl) rfl (ob_allocL Try.zeroValue91 rfl) <| .cons rfl (ob_assign rfl) <| .nil) ?_
  intro a1 w1 m1 hst1 hle1 hk1
  have hfr1 := hk1.fr (T' := [(1, _)]) (.old rfl rfl <| .nil)
  obtain ⟨g2, e2, hc2⟩ := hk1.ex 2 rfl
  replace hfr1 := hfr1.cons e2
  obtain ⟨g3, e3, _⟩ := hk1.ex 4 rfl
  replace hfr1 := hfr1.cons e3
  obtain ⟨g4, e4, _⟩ := hk1.ex 5 rfl
  replace hfr1 := hfr1.cons e4
  replace hst1 := hst1.fin (L' := [_, _]) (.cons e3 <| .cons e4 <| .nil)
  replace hda_p := hda_p.mono hle1
  clear hst0 hfr0 hk1
  refine hK1 _ _ ?_; clear hK1
  refine seq_any fun _ hK5 => ?_
  refine seq_any fun _ hK6 => ?_
  refine rp0 hst1 hfr1 (.cons rfl (ob_assign rfl) <| .nil) ?_
  intro a2 w2 m2 hst2 hle2 hk2
  have hfr2 := hk2.fr (T' := [(1, _), (2, _), (4, _), (5, _), (7, _)]) (.old rfl rfl <| .old rfl rfl <| .old rfl rfl <| .old rfl rfl <| .new rfl <| .nil)
  replace hda_p := hda_p.mono hle2
  replace hc2 := hc2.mono hle2
  clear hst1 hfr1 hk2
  refine hK6 _ _ ?_; clear hK6
  refine wp_block ?_
  refine loop_any (T := [(1, _), (2, _), (4, _), (5, _)]) (fun (y : Nat) => ([(7, .int .i64 (y : Int))] : List (Nat × Value))) (fun _ => _) (fun (y : Nat) m => (y ≤ p.datas.length)) (fun y => p.datas.length - y) (0) ⟨hst2, MLe.refl _, hfr2.sub (.cons rfl <| .cons rfl <| .cons rfl <| .cons rfl <| .cons rfl <| .nil), Nat.zero_le _⟩ fun y a3 w3 m3 hh3 => ?_
  have hst3 := hh3.st; have hle3 := hh3.le; have hfr3 := hh3.fr; have hrel := hh3.rel; clear hh3
  replace hda_p := hda_p.mono hle3
  replace hc2 := hc2.mono hle3
  clear hst2 hfr2
  have hyn := hrel
  have hlh3 := hle3
  refine seq_any fun _ hK8 => ?_
  refine seq_any fun _ hK9 => ?_
  refine rp0 hst3 hfr3 (.cons rfl (ob_move rfl) <| .cons rfl (ob_fieldAddrO (off := 1) rfl Try.underlying35 rfl rfl Try.sizeOf23 rfl) <| .cons rfl (ob_load1 rfl hc2 Try.isAgg23 rfl) <| .cons rfl (ob_len rfl Try.underlying23) <| .cons rfl (ob_lss rfl rfl) <| .nil) ?_
  intro a4 w4 m4 hst4 hle4 hk4
  have hfr4 := hk4.fr (T' := [(7, _), (1, _), (2, _), (4, _), (5, _), (13, _)]) (.old rfl rfl <| .old rfl rfl <| .old rfl rfl <| .old rfl rfl <| .old rfl rfl <| .new rfl <| .nil)
  replace hda_p := hda_p.mono hle4
  replace hc2 := hc2.mono hle4
  have hlh4 := hlh3.trans hle4
  clear hst3 hfr3 hk4
  refine hK9 _ _ ?_; clear hK9
  refine cond_any hfr4 rfl rfl (fun hb13 => ?_) (fun hb13 => ?_)
  · try simp only [nq1, nq2, nq3, nq4, nq5, nq6, nq7, nq8, nq9, u8_eq] at hb13
    refine wp_skip ?_
    refine hK8 _ _ ?_; clear hK8
    refine seq_any fun _ hK10 => ?_
    refine wp_block ?_
    refine seq_any fun _ hK11 => ?_
    refine rp0 hst4 hfr4 (.cons rfl (ob_assign rfl) <| .nil) ?_
    intro a5 w5 m5 hst5 hle5 hk5
    have hfr5 := hk5.fr (T' := [(7, _), (1, _), (2, _), (4, _), (5, _), (8, _)]) (.old rfl rfl <| .old rfl rfl <| .old rfl rfl <| .old rfl rfl <| .old rfl rfl <| .new rfl <| .nil)
    replace hda_p := hda_p.mono hle5
    replace hc2 := hc2.mono hle5
    have hlh5 := hlh4.trans hle5
    clear hst4 hfr4 hk5
    obtain ⟨p12, vs12, x12, ho12, hd12, hm_x12, ht12, hcv12, hl12, hv12⟩ := hda_p.nth (k := y) (by omega)
    cases ho12
    obtain ⟨oF12, cF12, rfl, hfl12⟩ := id hv12
    have hbf12 := hfl12.big; have hcf12 := hfl12.cap
    refine hK11 _ _ ?_; clear hK11
    refine wp_block ?_
    have hlq13 := hlh5
    refine loop_any (T := [(7, _), (1, _), (2, _), (4, _), (5, _)]) (fun (k : Nat) => ([(8, .int .i64 (k : Int))] : List (Nat × Value))) (fun _ => _) (fun (k : Nat) m => (k ≤ x12.cons.length)) (fun k => x12.cons.length - k) (0) ⟨hst5, MLe.refl _, hfr5.sub (.cons rfl <| .cons rfl <| .cons rfl <| .cons rfl <| .cons rfl <| .cons rfl <| .nil), Nat.zero_le _⟩ fun k a6 w6 m6 hh6 => ?_
    have hst6 := hh6.st; have hle6 := hh6.le; have hfr6 := hh6.fr; have hrel := hh6.rel; clear hh6
    replace hc2 := hc2.mono hle6
    replace hcv12 := hcv12.mono hle6
    replace hfl12 := hfl12.mono hle6
    clear hst5 hfr5
    have hkn := hrel
    replace hlq13 := hlq13.trans hle6
    have hlh6 := hle6
    refine seq_any fun _ hK14 => ?_
    refine seq_any fun _ hK15 => ?_
    refine rp0 hst6 hfr6 (.cons rfl (ob_move rfl) <| .cons rfl (ob_fieldAddrO (off := 1) rfl Try.underlying35 rfl rfl Try.sizeOf23 rfl) <| .cons rfl (ob_load1 rfl hc2 Try.isAgg23 rfl) <| .cons rfl (ob_move rfl) <| .cons rfl (ob_indexAddr (k := y) rfl rfl Try.underlying23 Try.sizeOf89 rfl (by omega)) <| .cons rfl (ob_fieldAddrO (off := 1) rfl Try.underlying89 rfl rfl Try.sizeOf87 rfl) <| .cons rfl (ob_load1 rfl hcv12 Try.isAgg87 rfl) <| .cons rfl (ob_len rfl Try.underlying87) <| .cons rfl (ob_lss rfl rfl) <| .nil) ?_
    intro a7 w7 m7 hst7 hle7 hk7
    have hfr7 := hk7.fr (T' := [(8, _), (7, _), (1, _), (2, _), (4, _), (5, _), (24, _)]) (.old rfl rfl <| .old rfl rfl <| .old rfl rfl <| .old rfl rfl <| .old rfl rfl <| .old rfl rfl <| .new rfl <| .nil)
    replace hc2 := hc2.mono hle7
    replace hcv12 := hcv12.mono hle7
    replace hfl12 := hfl12.mono hle7
    have hlh7 := hlh6.trans hle7
    replace hlq13 := hlq13.trans hle7
    clear hst6 hfr6 hk7
    refine hK15 _ _ ?_; clear hK15
    refine cond_any hfr7 rfl rfl (fun hb24 => ?_) (fun hb24 => ?_)
    · try simp only [nq1, nq2, nq3, nq4, nq5, nq6, nq7, nq8, nq9, u8_eq] at hb24
      refine wp_skip ?_
      refine hK14 _ _ ?_; clear hK14
      refine seq_any fun _ hK16 => ?_
      refine wp_block ?_
      refine seq_any fun _ hK17 => ?_
      obtain ⟨p18, vs18, x18, ho18, hd18, hm_x18, ht18, hcv18, hl18, hv18⟩ := hfl12.nth (k := k) (by omega)
      cases ho18
      obtain ⟨oF18, cF18, rfl, hfl18⟩ := id hv18
      have hbf18 := hfl18.big; have hcf18 := hfl18.cap
      refine rp0 hst7 hfr7 (.cons rfl (ob_fieldAddrO (off := 1) rfl Try.underlying35 rfl rfl Try.sizeOf23 rfl) <| .cons rfl (ob_load1 rfl hc2 Try.isAgg23 rfl) <| .cons rfl (ob_move rfl) <| .cons rfl (ob_indexAddr (k := y) rfl rfl Try.underlying23 Try.sizeOf89 rfl (by omega)) <| .cons rfl (ob_fieldAddrO (off := 1) rfl Try.underlying89 rfl rfl Try.sizeOf87 rfl) <| .cons rfl (ob_load1 rfl hcv12 Try.isAgg87 rfl) <| .cons rfl (ob_move rfl) <| .cons rfl (ob_indexAddr (k := k) rfl rfl Try.underlying87 Try.sizeOf91 rfl (by omega)) <| .cons rfl (ob_fieldAddrO (off := 0) rfl Try.underlying91 rfl rfl Try.sizeOf9 rfl) <| .cons rfl (ob_load1 rfl hcv18 Try.isAgg9 rfl) <| .cons rfl (ob_move rfl) <| .cons rfl (ob_seql rfl rfl) <| .nil) ?_
      intro a8 w8 m8 hst8 hle8 hk8
      have hfr8 := hk8.fr (T' := [(8, _), (7, _), (1, _), (2, _), (4, _), (5, _), (38, _)]) (.old rfl rfl <| .old rfl rfl <| .old rfl rfl <| .old rfl rfl <| .old rfl rfl <| .old rfl rfl <| .new rfl <| .nil)
      replace hc2 := hc2.mono hle8
      replace hcv12 := hcv12.mono hle8
      replace hfl12 := hfl12.mono hle8
      replace hcv18 := hcv18.mono hle8
      replace hfl18 := hfl18.mono hle8
      have hlh8 := hlh7.trans hle8
      clear hst7 hfr7 hk8
      refine hK17 _ _ ?_; clear hK17
      refine cond_any hfr8 rfl rfl (fun hb38 => ?_) (fun hb38 => ?_)
      · try simp only [nq1, nq2, nq3, nq4, nq5, nq6, nq7, nq8, nq9, u8_eq] at hb38
        refine seq_any fun _ hK19 => ?_
        refine region_any (tch := [(14, 0, (fun _ => .blk _ _)), (15, 1, (fun _ => .blk _ _))]) (fun _ => mixed) hst8 hfr8 (by kernel_rfl) (by kernel_rfl) (by kernel_rfl) (.cons rfl (ob_fieldAddrO (off := 1) rfl Try.underlying35 rfl rfl Try.sizeOf23 rfl) <| .cons rfl (ob_load1 rfl hc2 Try.isAgg23 rfl) <| .cons rfl (ob_move rfl) <| .cons rfl (ob_indexAddr (k := y) rfl rfl Try.underlying23 Try.sizeOf89 rfl (by omega)) <| .cons rfl (ob_loadS' rfl hcv12 Try.isAgg89 Try.sizeOf89 rfl rfl) <| .cons rfl (ob_fieldAddrO (off := 1) rfl Try.underlying35 rfl rfl Try.sizeOf23 rfl) <| .cons rfl (ob_load1 rfl hc2 Try.isAgg23 rfl) <| .cons rfl (ob_move rfl) <| .cons rfl (ob_indexAddr (k := y) rfl rfl Try.underlying23 Try.sizeOf89 rfl (by omega)) <| .cons rfl (ob_fieldAddrO (off := 1) rfl Try.underlying89 rfl rfl Try.sizeOf87 rfl) <| .cons rfl (ob_load1 rfl hcv12 Try.isAgg87 rfl) <| .cons rfl (ob_move rfl) <| .cons rfl (ob_indexAddr (k := k) rfl rfl Try.underlying87 Try.sizeOf91 rfl (by omega)) <| .cons rfl (ob_loadS' rfl hcv18 Try.isAgg91 Try.sizeOf91 rfl rfl) <| .consT rfl rfl (fun _ => rfl) rfl (ob_store' rfl rfl rfl Try.sizeOf89 rfl rfl rfl) <| .consT rfl rfl (fun _ => rfl) rfl (ob_store' rfl rfl rfl Try.sizeOf91 rfl rfl rfl) <| .cons rfl (ob_assign rfl) <| .nil) ?_
        intro a9 w9 m9 hst9 hle9 hk9
        have hfr9 := hk9.fr (T' := [(8, _), (7, _), (4, _), (5, _), (6, _)]) (.old rfl rfl <| .old rfl rfl <| .old rfl rfl <| .old rfl rfl <| .new rfl <| .nil)
        replace hst9 := hst9.fin (L' := [_, _]) (.cons rfl <| .cons rfl <| .nil)
        replace hfl12 := hfl12.mono hle9
        replace hfl18 := hfl18.mono hle9
        have hlh9 := hlh8.trans hle9
        clear hst8 hfr8 hk9
        refine hK19 _ _ ?_; clear hK19
        refine wp_ret ?_
        repeat (with_reducible first | refine then_ret ?_ | refine block_ret ?_)
        exact fn_ret hst9 hfr9 rfl (.cell rfl (load_blk (blk_heap (hst9.loc.at_ (k := 0) rfl)) Try.isAgg89 Try.sizeOf89) <| .cell rfl (load_blk (blk_heap (hst9.loc.at_ (k := 1) rfl)) Try.isAgg91 Try.sizeOf91) <| .tmp rfl <| .nil) (⟨((x12, (_, _)), (x18, (_, _)), true), rfl, ⟨_, _, rfl, hfl12⟩, ⟨_, _, rfl, hfl18⟩⟩)
      · try simp only [nq1, nq2, nq3, nq4, nq5, nq6, nq7, nq8, nq9, u8_eq] at hb38
        refine wp_skip ?_
        refine hK16 _ _ ?_; clear hK16
        refine rp0 hst8 hfr8 (.cons rfl (ob_move rfl) <| .cons rfl (ob_add rfl rfl ⟨by omega, by omega⟩) <| .cons rfl (ob_assign rfl) <| .nil) ?_
        intro a9 w9 m9 hst9 hle9 hk9
        have hfr9 := hk9.fr (T' := [(7, _), (1, _), (2, _), (4, _), (5, _), (8, _)]) (.old rfl rfl <| .old rfl rfl <| .old rfl rfl <| .old rfl rfl <| .old rfl rfl <| .new rfl <| .nil)
        have hlh9 := hlh8.trans hle9
        clear hst8 hfr8 hk9
        exact ⟨k + 1, m9, by show x12.cons.length - (k + 1) < x12.cons.length - k; omega, ⟨hst9, hlh9, hfr9.sub (.cons rfl <| .cons rfl <| .cons rfl <| .cons rfl <| .cons rfl <| .cons rfl <| .nil), by show k + 1 ≤ x12.cons.length; omega⟩⟩
    · try simp only [nq1, nq2, nq3, nq4, nq5, nq6, nq7, nq8, nq9, u8_eq] at hb24
      have hgek : k = x12.cons.length := by omega
      refine wp_exit ?_
      refine hK10 _ _ ?_; clear hK10
      refine rp0 hst7 hfr7 (.cons rfl (ob_move rfl) <| .cons rfl (ob_add rfl rfl ⟨by omega, by omega⟩) <| .cons rfl (ob_assign rfl) <| .nil) ?_
      intro a8 w8 m8 hst8 hle8 hk8
      have hfr8 := hk8.fr (T' := [(8, _), (1, _), (2, _), (4, _), (5, _), (7, _)]) (.old rfl rfl <| .old rfl rfl <| .old rfl rfl <| .old rfl rfl <| .old rfl rfl <| .new rfl <| .nil)
      have hlh8 := hlh7.trans hle8
      replace hlq13 := hlq13.trans hle8
      clear hst7 hfr7 hk8
      exact ⟨y + 1, m8, by show p.datas.length - (y + 1) < p.datas.length - y; omega, ⟨hst8, hlq13, hfr8.sub (.cons rfl <| .cons rfl <| .cons rfl <| .cons rfl <| .cons rfl <| .nil), by show y + 1 ≤ p.datas.length; omega⟩⟩
  · try simp only [nq1, nq2, nq3, nq4, nq5, nq6, nq7, nq8, nq9, u8_eq] at hb13
    have hge : y = p.datas.length := by omega
    refine wp_exit ?_
    refine hK5 _ _ ?_; clear hK5
    refine seq_any fun _ hK21 => ?_
    refine ra0 (tch := [(2, 0, (fun _ => .blk _ _)), (3, 1, (fun _ => .blk _ _))]) hst4 hfr4 (.cons rfl (ob_buildS (.nil) Try.underlying89 Try.zeroValue89 (.cons Try.sizeOf9 <| .cons Try.sizeOf87 <| .nil) rfl) <| .cons rfl (ob_buildS (.nil) Try.underlying91 Try.zeroValue91 (.cons Try.sizeOf9 <| .cons Try.sizeOf26 <| .nil) rfl) <| .consT rfl rfl (fun _ => rfl) rfl (ob_store' rfl rfl rfl Try.sizeOf89 rfl rfl rfl) <| .consT rfl rfl (fun _ => rfl) rfl (ob_store' rfl rfl rfl Try.sizeOf91 rfl rfl rfl) <| .cons rfl (ob_assign rfl) <| .nil) ?_
    intro a5 w5 m5 hst5 hle5 hk5
    have hfr5 := hk5.fr (T' := [(7, _), (4, _), (5, _), (6, _)]) (.old rfl rfl <| .old rfl rfl <| .old rfl rfl <| .new rfl <| .nil)
    replace hst5 := hst5.fin (L' := [_, _]) (.cons rfl <| .cons rfl <| .nil)
    have hlh5 := hlh4.trans hle5
    clear hst4 hfr4 hk5
    refine hK21 _ _ ?_; clear hK21
    refine wp_ret ?_
    repeat (with_reducible first | refine then_ret ?_ | refine block_ret ?_)
    exact fn_ret hst5 hfr5 rfl (.cell rfl (load_blk (blk_heap (hst5.loc.at_ (k := 0) rfl)) Try.isAgg89 Try.sizeOf89) <| .cell rfl (load_blk (blk_heap (hst5.loc.at_ (k := 1) rfl)) Try.isAgg91 Try.sizeOf91) <| .tmp rfl <| .nil) (⟨((⟨[], []⟩, (none, 0)), (⟨[], []⟩, (none, 0)), false), rfl, ⟨_, _, rfl, Sl.empty⟩, ⟨_, _, rfl, Sl.empty⟩⟩)

set_option maxHeartbeats 400000 in
theorem effect_c {w : World} {m : Mem} {p : Pg} {vs_p : List Value} {s : Str} (hA : Agree w m) (h_p : PgR m p vs_p) : FnV Try.prog 74 #[.agg vs_p.toArray, S s] w m (fun _ m v => MP.aaB.p m v) := by
  obtain ⟨oE_p, cE_p, oD_p, cD_p, bs_p, rfl, hef_p, hda_p, hpb_p⟩ := id h_p
  have hbe_p := hef_p.big; have hce_p := hef_p.cap; have hbda_p := hda_p.big; have hcd_p := hda_p.cap
  obtain ⟨⟨oK_pb, cK_pb, oA_pb, cA_pb, oR_pb, cR_pb, t0_pb, t1_pb, t2_pb, t3_pb, t4_pb, t5_pb, u0_pb, u1_pb, u2_pb, u3_pb, u4_pb, u5_pb⟩, rfl, hon_pb, hkk_pb, haa_pb, hrr_pb⟩ := hpb_p.open_
  dsimp only at hkk_pb haa_pb hrr_pb
  have hbg_pb := hkk_pb.big; have hcp_pb := hkk_pb.cap; have hbh_pb := haa_pb.big; have hcq_pb := haa_pb.cap
  refine fn_enter (vs := [_, _]) Try.func74 rfl rfl rfl fun a0 hfr0 => ?_
  have hst0 := st_enter hA (loc_nil [] _ w m)
  have hM : MLe m m := MLe.refl m
  refine seq_any fun _ hK1 => ?_
  replace hst0 := hst0.more (r := .free) trivial List.nodup_nil (by simp [Res.blocks])
  replace hst0 := hst0.more (r := .free) trivial List.nodup_nil (by simp [Res.blocks])
  refine ra0 (tch := [(1, 0, (fun v => .blk v _)), (2, 1, (fun v => .blk v _))]) hst0 hfr0 (.cons rfl (ob_box rfl rfl) <| .consT rfl rfl (fun _ => rfl) rfl (ob_allocL Try.zeroValue83 rfl) <| .consT rfl rfl (fun _ => rfl) rfl (ob_allocL Try.zeroValue85 rfl) <| .cons rfl (ob_assign rfl) <| .nil) ?_
  intro a1 w1 m1 hst1 hle1 hk1
  have hfr1 := hk1.fr (T' := [(1, _)]) (.old rfl rfl <| .nil)
  obtain ⟨g2, e2, hc2⟩ := hk1.ex 2 rfl
  replace hfr1 := hfr1.cons e2
  obtain ⟨g3, e3, _⟩ := hk1.ex 4 rfl
  replace hfr1 := hfr1.cons e3
  obtain ⟨g4, e4, _⟩ := hk1.ex 5 rfl
  replace hfr1 := hfr1.cons e4
  replace hst1 := hst1.fin (L' := [_, _]) (.cons e3 <| .cons e4 <| .nil)
  replace hef_p := hef_p.mono hle1
  clear hst0 hfr0 hk1
  refine hK1 _ _ ?_; clear hK1
  refine seq_any fun _ hK5 => ?_
  refine seq_any fun _ hK6 => ?_
  refine rp0 hst1 hfr1 (.cons rfl (ob_assign rfl) <| .nil) ?_
  intro a2 w2 m2 hst2 hle2 hk2
  have hfr2 := hk2.fr (T' := [(1, _), (2, _), (4, _), (5, _), (7, _)]) (.old rfl rfl <| .old rfl rfl <| .old rfl rfl <| .old rfl rfl <| .new rfl <| .nil)
  replace hef_p := hef_p.mono hle2
  replace hc2 := hc2.mono hle2
  clear hst1 hfr1 hk2
  refine hK6 _ _ ?_; clear hK6
  refine wp_block ?_
  refine loop_any (T := [(1, _), (2, _), (4, _), (5, _)]) (fun (y : Nat) => ([(7, .int .i64 (y : Int))] : List (Nat × Value))) (fun _ => _) (fun (y : Nat) m => (y ≤ p.effects.length)) (fun y => p.effects.length - y) (0) ⟨hst2, MLe.refl _, hfr2.sub (.cons rfl <| .cons rfl <| .cons rfl <| .cons rfl <| .cons rfl <| .nil), Nat.zero_le _⟩ fun y a3 w3 m3 hh3 => ?_
  have hst3 := hh3.st; have hle3 := hh3.le; have hfr3 := hh3.fr; have hrel := hh3.rel; clear hh3
  replace hef_p := hef_p.mono hle3
  replace hc2 := hc2.mono hle3
  clear hst2 hfr2
  have hyn := hrel
  have hlh3 := hle3
  refine seq_any fun _ hK8 => ?_
  refine seq_any fun _ hK9 => ?_
  refine rp0 hst3 hfr3 (.cons rfl (ob_move rfl) <| .cons rfl (ob_fieldAddrO (off := 0) rfl Try.underlying35 rfl rfl Try.sizeOf22 rfl) <| .cons rfl (ob_load1 rfl hc2 Try.isAgg22 rfl) <| .cons rfl (ob_len rfl Try.underlying22) <| .cons rfl (ob_lss rfl rfl) <| .nil) ?_
  intro a4 w4 m4 hst4 hle4 hk4
  have hfr4 := hk4.fr (T' := [(7, _), (1, _), (2, _), (4, _), (5, _), (13, _)]) (.old rfl rfl <| .old rfl rfl <| .old rfl rfl <| .old rfl rfl <| .old rfl rfl <| .new rfl <| .nil)
  replace hef_p := hef_p.mono hle4
  replace hc2 := hc2.mono hle4
  have hlh4 := hlh3.trans hle4
  clear hst3 hfr3 hk4
  refine hK9 _ _ ?_; clear hK9
  refine cond_any hfr4 rfl rfl (fun hb13 => ?_) (fun hb13 => ?_)
  · try simp only [nq1, nq2, nq3, nq4, nq5, nq6, nq7, nq8, nq9, u8_eq] at hb13
    refine wp_skip ?_
    refine hK8 _ _ ?_; clear hK8
    refine seq_any fun _ hK10 => ?_
    refine wp_block ?_
    refine seq_any fun _ hK11 => ?_
    refine rp0 hst4 hfr4 (.cons rfl (ob_assign rfl) <| .nil) ?_
    intro a5 w5 m5 hst5 hle5 hk5
    have hfr5 := hk5.fr (T' := [(7, _), (1, _), (2, _), (4, _), (5, _), (8, _)]) (.old rfl rfl <| .old rfl rfl <| .old rfl rfl <| .old rfl rfl <| .old rfl rfl <| .new rfl <| .nil)
    replace hef_p := hef_p.mono hle5
    replace hc2 := hc2.mono hle5
    have hlh5 := hlh4.trans hle5
    clear hst4 hfr4 hk5
    obtain ⟨p12, vs12, x12, ho12, hd12, hm_x12, ht12, hcv12, hl12, hv12⟩ := hef_p.nth (k := y) (by omega)
    cases ho12
    obtain ⟨oF12, cF12, rfl, hfl12⟩ := id hv12
    have hbf12 := hfl12.big; have hcf12 := hfl12.cap
    refine hK11 _ _ ?_; clear hK11
    refine wp_block ?_
    have hlq13 := hlh5
    refine loop_any (T := [(7, _), (1, _), (2, _), (4, _), (5, _)]) (fun (k : Nat) => ([(8, .int .i64 (k : Int))] : List (Nat × Value))) (fun _ => _) (fun (k : Nat) m => (k ≤ x12.ops.length)) (fun k => x12.ops.length - k) (0) ⟨hst5, MLe.refl _, hfr5.sub (.cons rfl <| .cons rfl <| .cons rfl <| .cons rfl <| .cons rfl <| .cons rfl <| .nil), Nat.zero_le _⟩ fun k a6 w6 m6 hh6 => ?_
    have hst6 := hh6.st; have hle6 := hh6.le; have hfr6 := hh6.fr; have hrel := hh6.rel; clear hh6
    replace hc2 := hc2.mono hle6
    replace hcv12 := hcv12.mono hle6
    replace hfl12 := hfl12.mono hle6
    clear hst5 hfr5
    have hkn := hrel
    replace hlq13 := hlq13.trans hle6
    have hlh6 := hle6
    refine seq_any fun _ hK14 => ?_
    refine seq_any fun _ hK15 => ?_
    refine rp0 hst6 hfr6 (.cons rfl (ob_move rfl) <| .cons rfl (ob_fieldAddrO (off := 0) rfl Try.underlying35 rfl rfl Try.sizeOf22 rfl) <| .cons rfl (ob_load1 rfl hc2 Try.isAgg22 rfl) <| .cons rfl (ob_move rfl) <| .cons rfl (ob_indexAddr (k := y) rfl rfl Try.underlying22 Try.sizeOf83 rfl (by omega)) <| .cons rfl (ob_fieldAddrO (off := 1) rfl Try.underlying83 rfl rfl Try.sizeOf81 rfl) <| .cons rfl (ob_load1 rfl hcv12 Try.isAgg81 rfl) <| .cons rfl (ob_len rfl Try.underlying81) <| .cons rfl (ob_lss rfl rfl) <| .nil) ?_
    intro a7 w7 m7 hst7 hle7 hk7
    have hfr7 := hk7.fr (T' := [(8, _), (7, _), (1, _), (2, _), (4, _), (5, _), (24, _)]) (.old rfl rfl <| .old rfl rfl <| .old rfl rfl <| .old rfl rfl <| .old rfl rfl <| .old rfl rfl <| .new rfl <| .nil)
    replace hc2 := hc2.mono hle7
    replace hcv12 := hcv12.mono hle7
    replace hfl12 := hfl12.mono hle7
    have hlh7 := hlh6.trans hle7
    replace hlq13 := hlq13.trans hle7
    clear hst6 hfr6 hk7
    refine hK15 _ _ ?_; clear hK15
    refine cond_any hfr7 rfl rfl (fun hb24 => ?_) (fun hb24 => ?_)
    · try simp only [nq1, nq2, nq3, nq4, nq5, nq6, nq7, nq8, nq9, u8_eq] at hb24
      refine wp_skip ?_
      refine hK14 _ _ ?_; clear hK14
      refine seq_any fun _ hK16 => ?_
      refine wp_block ?_
      refine seq_any fun _ hK17 => ?_
      obtain ⟨p18, vs18, x18, ho18, hd18, hm_x18, ht18, hcv18, hl18, hv18⟩ := hfl12.nth (k := k) (by omega)
      cases ho18
      obtain ⟨as18, rs18, rfl, hoa18, hob18⟩ := id hv18
      obtain ⟨o18a, c18a, oL18a, cL18a, rfl, hkd18a, hs18a, hi18a, hj18a, hr18a⟩ := hoa18.open_
      have hbg18a := hkd18a.big; have hcp18a := hkd18a.cap; have hbs18a := hs18a.big; have hcs18a := hs18a.cap
      have hrw18a : RwR _ ⟨x18.arg.labels, x18.arg.rv⟩ _ := ⟨_, _, rfl, hs18a, hr18a⟩
      obtain ⟨o18r, c18r, oL18r, cL18r, rfl, hkd18r, hs18r, hi18r, hj18r, hr18r⟩ := hob18.open_
      have hbg18r := hkd18r.big; have hcp18r := hkd18r.cap; have hbs18r := hs18r.big; have hcs18r := hs18r.cap
      have hrw18r : RwR _ ⟨x18.res.labels, x18.res.rv⟩ _ := ⟨_, _, rfl, hs18r, hr18r⟩
      refine rp0 hst7 hfr7 (.cons rfl (ob_fieldAddrO (off := 0) rfl Try.underlying35 rfl rfl Try.sizeOf22 rfl) <| .cons rfl (ob_load1 rfl hc2 Try.isAgg22 rfl) <| .cons rfl (ob_move rfl) <| .cons rfl (ob_indexAddr (k := y) rfl rfl Try.underlying22 Try.sizeOf83 rfl (by omega)) <| .cons rfl (ob_fieldAddrO (off := 1) rfl Try.underlying83 rfl rfl Try.sizeOf81 rfl) <| .cons rfl (ob_load1 rfl hcv12 Try.isAgg81 rfl) <| .cons rfl (ob_move rfl) <| .cons rfl (ob_indexAddr (k := k) rfl rfl Try.underlying81 Try.sizeOf85 rfl (by omega)) <| .cons rfl (ob_fieldAddrO (off := 0) rfl Try.underlying85 rfl rfl Try.sizeOf9 rfl) <| .cons rfl (ob_load1 rfl hcv18 Try.isAgg9 rfl) <| .cons rfl (ob_move rfl) <| .cons rfl (ob_seql rfl rfl) <| .nil) ?_
      intro a8 w8 m8 hst8 hle8 hk8
      have hfr8 := hk8.fr (T' := [(8, _), (7, _), (1, _), (2, _), (4, _), (5, _), (38, _)]) (.old rfl rfl <| .old rfl rfl <| .old rfl rfl <| .old rfl rfl <| .old rfl rfl <| .old rfl rfl <| .new rfl <| .nil)
      replace hc2 := hc2.mono hle8
      replace hcv12 := hcv12.mono hle8
      replace hcv18 := hcv18.mono hle8
      have hlh8 := hlh7.trans hle8
      clear hst7 hfr7 hk8
      refine hK17 _ _ ?_; clear hK17
      refine cond_any hfr8 rfl rfl (fun hb38 => ?_) (fun hb38 => ?_)
      · try simp only [nq1, nq2, nq3, nq4, nq5, nq6, nq7, nq8, nq9, u8_eq] at hb38
        refine seq_any fun _ hK19 => ?_
        refine region_any (tch := [(14, 0, (fun _ => .blk _ _)), (15, 1, (fun _ => .blk _ _))]) (fun _ => mixed) hst8 hfr8 (by kernel_rfl) (by kernel_rfl) (by kernel_rfl) (.cons rfl (ob_fieldAddrO (off := 0) rfl Try.underlying35 rfl rfl Try.sizeOf22 rfl) <| .cons rfl (ob_load1 rfl hc2 Try.isAgg22 rfl) <| .cons rfl (ob_move rfl) <| .cons rfl (ob_indexAddr (k := y) rfl rfl Try.underlying22 Try.sizeOf83 rfl (by omega)) <| .cons rfl (ob_loadS' rfl hcv12 Try.isAgg83 Try.sizeOf83 rfl rfl) <| .cons rfl (ob_fieldAddrO (off := 0) rfl Try.underlying35 rfl rfl Try.sizeOf22 rfl) <| .cons rfl (ob_load1 rfl hc2 Try.isAgg22 rfl) <| .cons rfl (ob_move rfl) <| .cons rfl (ob_indexAddr (k := y) rfl rfl Try.underlying22 Try.sizeOf83 rfl (by omega)) <| .cons rfl (ob_fieldAddrO (off := 1) rfl Try.underlying83 rfl rfl Try.sizeOf81 rfl) <| .cons rfl (ob_load1 rfl hcv12 Try.isAgg81 rfl) <| .cons rfl (ob_move rfl) <| .cons rfl (ob_indexAddr (k := k) rfl rfl Try.underlying81 Try.sizeOf85 rfl (by omega)) <| .cons rfl (ob_loadS' rfl hcv18 Try.isAgg85 Try.sizeOf85 rfl rfl) <| .consT rfl rfl (fun _ => rfl) rfl (ob_store' rfl rfl rfl Try.sizeOf83 rfl rfl rfl) <| .consT rfl rfl (fun _ => rfl) rfl (ob_store' rfl rfl rfl Try.sizeOf85 rfl rfl rfl) <| .cons rfl (ob_assign rfl) <| .nil) ?_
        intro a9 w9 m9 hst9 hle9 hk9
        have hfr9 := hk9.fr (T' := [(8, _), (7, _), (4, _), (5, _), (6, _)]) (.old rfl rfl <| .old rfl rfl <| .old rfl rfl <| .old rfl rfl <| .new rfl <| .nil)
        replace hst9 := hst9.fin (L' := [_, _]) (.cons rfl <| .cons rfl <| .nil)
        have hlh9 := hlh8.trans hle9
        clear hst8 hfr8 hk9
        refine hK19 _ _ ?_; clear hK19
        refine wp_ret ?_
        repeat (with_reducible first | refine then_ret ?_ | refine block_ret ?_)
        exact fn_ret hst9 hfr9 rfl (.cell rfl (load_blk (blk_heap (hst9.loc.at_ (k := 0) rfl)) Try.isAgg83 Try.sizeOf83) <| .cell rfl (load_blk (blk_heap (hst9.loc.at_ (k := 1) rfl)) Try.isAgg85 Try.sizeOf85) <| .tmp rfl <| .nil) (⟨((_, (_, _, _)), (_, (_, _, _, (_, _, _), (_, _, _), _), (_, _, _, (_, _, _), (_, _, _), _)), true), rfl, trivial⟩)
      · try simp only [nq1, nq2, nq3, nq4, nq5, nq6, nq7, nq8, nq9, u8_eq] at hb38
        refine wp_skip ?_
        refine hK16 _ _ ?_; clear hK16
        refine rp0 hst8 hfr8 (.cons rfl (ob_move rfl) <| .cons rfl (ob_add rfl rfl ⟨by omega, by omega⟩) <| .cons rfl (ob_assign rfl) <| .nil) ?_
        intro a9 w9 m9 hst9 hle9 hk9
        have hfr9 := hk9.fr (T' := [(7, _), (1, _), (2, _), (4, _), (5, _), (8, _)]) (.old rfl rfl <| .old rfl rfl <| .old rfl rfl <| .old rfl rfl <| .old rfl rfl <| .new rfl <| .nil)
        have hlh9 := hlh8.trans hle9
        clear hst8 hfr8 hk9
        exact ⟨k + 1, m9, by show x12.ops.length - (k + 1) < x12.ops.length - k; omega, ⟨hst9, hlh9, hfr9.sub (.cons rfl <| .cons rfl <| .cons rfl <| .cons rfl <| .cons rfl <| .cons rfl <| .nil), by show k + 1 ≤ x12.ops.length; omega⟩⟩
    · try simp only [nq1, nq2, nq3, nq4, nq5, nq6, nq7, nq8, nq9, u8_eq] at hb24
      have hgek : k = x12.ops.length := by omega
      refine wp_exit ?_
      refine hK10 _ _ ?_; clear hK10
      refine rp0 hst7 hfr7 (.cons rfl (ob_move rfl) <| .cons rfl (ob_add rfl rfl ⟨by omega, by omega⟩) <| .cons rfl (ob_assign rfl) <| .nil) ?_
      intro a8 w8 m8 hst8 hle8 hk8
      have hfr8 := hk8.fr (T' := [(8, _), (1, _), (2, _), (4, _), (5, _), (7, _)]) (.old rfl rfl <| .old rfl rfl <| .old rfl rfl <| .old rfl rfl <| .old rfl rfl <| .new rfl <| .nil)
      have hlh8 := hlh7.trans hle8
      replace hlq13 := hlq13.trans hle8
      clear hst7 hfr7 hk8
      exact ⟨y + 1, m8, by show p.effects.length - (y + 1) < p.effects.length - y; omega, ⟨hst8, hlq13, hfr8.sub (.cons rfl <| .cons rfl <| .cons rfl <| .cons rfl <| .cons rfl <| .nil), by show y + 1 ≤ p.effects.length; omega⟩⟩
  · try simp only [nq1, nq2, nq3, nq4, nq5, nq6, nq7, nq8, nq9, u8_eq] at hb13
    have hge : y = p.effects.length := by omega
    refine wp_exit ?_
    refine hK5 _ _ ?_; clear hK5
    refine seq_any fun _ hK21 => ?_
    refine ra0 (tch := [(2, 0, (fun _ => .blk _ _)), (3, 1, (fun _ => .blk _ _))]) hst4 hfr4 (.cons rfl (ob_buildS (.nil) Try.underlying83 Try.zeroValue83 (.cons Try.sizeOf9 <| .cons Try.sizeOf81 <| .nil) rfl) <| .cons rfl (ob_buildS (.nil) Try.underlying85 Try.zeroValue85 (.cons Try.sizeOf9 <| .cons Try.sizeOf31 <| .cons Try.sizeOf31 <| .nil) rfl) <| .consT rfl rfl (fun _ => rfl) rfl (ob_store' rfl rfl rfl Try.sizeOf83 rfl rfl rfl) <| .consT rfl rfl (fun _ => rfl) rfl (ob_store' rfl rfl rfl Try.sizeOf85 rfl rfl rfl) <| .cons rfl (ob_assign rfl) <| .nil) ?_
    intro a5 w5 m5 hst5 hle5 hk5
    have hfr5 := hk5.fr (T' := [(7, _), (4, _), (5, _), (6, _)]) (.old rfl rfl <| .old rfl rfl <| .old rfl rfl <| .new rfl <| .nil)
    replace hst5 := hst5.fin (L' := [_, _]) (.cons rfl <| .cons rfl <| .nil)
    have hlh5 := hlh4.trans hle5
    clear hst4 hfr4 hk5
    refine hK21 _ _ ?_; clear hK21
    refine wp_ret ?_
    repeat (with_reducible first | refine then_ret ?_ | refine block_ret ?_)
    exact fn_ret hst5 hfr5 rfl (.cell rfl (load_blk (blk_heap (hst5.loc.at_ (k := 0) rfl)) Try.isAgg83 Try.sizeOf83) <| .cell rfl (load_blk (blk_heap (hst5.loc.at_ (k := 1) rfl)) Try.isAgg85 Try.sizeOf85) <| .tmp rfl <| .nil) (⟨((_, (_, _, _)), (_, (_, _, _, (_, _, _), (_, _, _), _), (_, _, _, (_, _, _), (_, _, _), _)), false), rfl, trivial⟩)

set_option maxHeartbeats 400000 in
theorem first_c {w : World} {m : Mem} {p : Pg} {vs_p : List Value} {t : Ty} {vs_t : List Value} (hA : Agree w m) (h_p : PgR m p vs_p) (h_t : TyR m t vs_t) : FnV Try.prog 50 #[.agg vs_p.toArray, .agg vs_t.toArray] w m (fun _ _ v => v = .bool (firstM p t)) := by
  obtain ⟨oE_p, cE_p, oD_p, cD_p, bs_p, rfl, hef_p, hda_p, hpb_p⟩ := id h_p
  have hbe_p := hef_p.big; have hce_p := hef_p.cap; have hbda_p := hda_p.big; have hcd_p := hda_p.cap
  obtain ⟨⟨oK_pb, cK_pb, oA_pb, cA_pb, oR_pb, cR_pb, t0_pb, t1_pb, t2_pb, t3_pb, t4_pb, t5_pb, u0_pb, u1_pb, u2_pb, u3_pb, u4_pb, u5_pb⟩, rfl, hon_pb, hkk_pb, haa_pb, hrr_pb⟩ := hpb_p.open_
  dsimp only at hkk_pb haa_pb hrr_pb
  have hbg_pb := hkk_pb.big; have hcp_pb := hkk_pb.cap; have hbh_pb := haa_pb.big; have hcq_pb := haa_pb.cap
  obtain ⟨o_t, c_t, oL_t, cL_t, rfl, hk_t, hs_t, hi_t, hj_t, hr_t⟩ := h_t.open_
  have hbg_t := hk_t.big; have hcp_t := hk_t.cap; have hbs_t := hs_t.big; have hcs_t := hs_t.cap
  have hrw_t : RwR _ ⟨t.labels, t.rv⟩ _ := ⟨_, _, rfl, hs_t, hr_t⟩
  refine fn_enter (vs := [_, _]) Try.func50 rfl rfl rfl fun a0 hfr0 => ?_
  have hst0 := st_enter hA (loc_nil [] _ w m)
  have hM : MLe m m := MLe.refl m
  refine seq_any fun _ hK1 => ?_
  refine rp0 hst0 hfr0 (.cons rfl (ob_box rfl rfl) <| .cons rfl (ob_box rfl rfl) <| .cons rfl (ob_assign rfl) <| .nil) ?_
  intro a1 w1 m1 hst1 hle1 hk1
  have hfr1 := hk1.fr (T' := []) (.nil)
  obtain ⟨g2, e2, hc2⟩ := hk1.ex 2 rfl
  replace hfr1 := hfr1.cons e2
  obtain ⟨g3, e3, hc3⟩ := hk1.ex 3 rfl
  replace hfr1 := hfr1.cons e3
  replace hda_p := hda_p.mono hle1
  clear hst0 hfr0 hk1
  refine hK1 _ _ ?_; clear hK1
  refine seq_any fun _ hK4 => ?_
  refine seq_any fun _ hK5 => ?_
  refine rp0 hst1 hfr1 (.cons rfl (ob_fieldAddrO (off := 2) rfl Try.underlying31 rfl rfl Try.sizeOf3 rfl) <| .cons rfl (ob_load1 rfl hc3 Try.isAgg3 rfl) <| .cons rfl (ob_neq rfl rfl) <| .cons rfl (ob_move rfl) <| .cons rfl (ob_fieldAddrO (off := 3) rfl Try.underlying31 rfl rfl Try.sizeOf26 rfl) <| .cons rfl (ob_load1 rfl hc3 Try.isAgg26 rfl) <| .cons rfl (ob_len rfl Try.underlying26) <| .cons rfl (ob_gtr rfl rfl) <| .cons rfl (ob_or rfl rfl rfl) <| .cons rfl (ob_move rfl) <| .cons rfl (ob_fieldAddrO (off := 4) rfl Try.underlying31 rfl rfl Try.sizeOf29 rfl) <| .cons rfl (ob_fieldAddrO (off := 0) rfl Try.underlying29 rfl rfl Try.sizeOf27 rfl) <| .cons rfl (ob_load1 rfl (hc3.drop 4) Try.isAgg27 rfl) <| .cons rfl (ob_len rfl Try.underlying27) <| .cons rfl (ob_gtr rfl rfl) <| .cons rfl (ob_or rfl rfl rfl) <| .cons rfl (ob_move rfl) <| .cons rfl (ob_fieldAddrO (off := 4) rfl Try.underlying31 rfl rfl Try.sizeOf29 rfl) <| .cons rfl (ob_fieldAddrO (off := 1) rfl Try.underlying29 rfl rfl Try.sizeOf3 rfl) <| .cons rfl (ob_load1 rfl (hc3.drop 4) Try.isAgg3 rfl) <| .cons rfl (ob_neq rfl rfl) <| .cons rfl (ob_or rfl rfl rfl) <| .nil) ?_
  intro a2 w2 m2 hst2 hle2 hk2
  have hfr2 := hk2.fr (T' := [(2, _), (3, _), (27, _)]) (.old rfl rfl <| .old rfl rfl <| .new rfl <| .nil)
  replace hda_p := hda_p.mono hle2
  replace hc2 := hc2.mono hle2
  replace hc3 := hc3.mono hle2
  clear hst1 hfr1 hk2
  refine hK5 _ _ ?_; clear hK5
  refine cond_any hfr2 rfl rfl (fun hb27 => ?_) (fun hb27 => ?_)
  · try simp only [nq1, nq2, nq3, nq4, nq5, nq6, nq7, nq8, nq9, u8_eq] at hb27
    have hc : t.var ≠ 0 ∨ t.args ≠ [] ∨ t.labels ≠ [] ∨ t.rv ≠ 0 := by rw [← lenPos (l := t.args), ← lenPos (l := t.labels)]; omega
    refine seq_any fun _ hK6 => ?_
    refine rp0 hst2 hfr2 (.cons rfl (ob_assign rfl) <| .nil) ?_
    intro a3 w3 m3 hst3 hle3 hk3
    have hfr3 := hk3.fr (T' := [(4, _)]) (.new rfl <| .nil)
    clear hst2 hfr2 hk3
    refine hK6 _ _ ?_; clear hK6
    refine wp_ret ?_
    repeat (with_reducible first | refine then_ret ?_ | refine block_ret ?_)
    exact fn_ret hst3 hfr3 rfl (.tmp rfl <| .nil) (by refine congrArg Value.bool ?_; unfold firstM; rw [if_pos hc])
  · try simp only [nq1, nq2, nq3, nq4, nq5, nq6, nq7, nq8, nq9, u8_eq] at hb27
    have hc : ¬ (t.var ≠ 0 ∨ t.args ≠ [] ∨ t.labels ≠ [] ∨ t.rv ≠ 0) := by rw [← lenPos (l := t.args), ← lenPos (l := t.labels)]; omega
    refine wp_skip ?_
    refine hK4 _ _ ?_; clear hK4
    refine seq_any fun _ hK8 => ?_
    refine seq_any fun _ hK9 => ?_
    refine rp0 hst2 hfr2 (.cons rfl (ob_fieldAddrO (off := 0) rfl Try.underlying31 rfl rfl Try.sizeOf3 rfl) <| .cons rfl (ob_load1 rfl hc3 Try.isAgg3 rfl) <| .cons rfl (ob_eql rfl rfl) <| .cons rfl (ob_move rfl) <| .cons rfl (ob_fieldAddrO (off := 0) rfl Try.underlying31 rfl rfl Try.sizeOf3 rfl) <| .cons rfl (ob_load1 rfl hc3 Try.isAgg3 rfl) <| .cons rfl (ob_eql rfl rfl) <| .cons rfl (ob_or rfl rfl rfl) <| .cons rfl (ob_move rfl) <| .cons rfl (ob_fieldAddrO (off := 0) rfl Try.underlying31 rfl rfl Try.sizeOf3 rfl) <| .cons rfl (ob_load1 rfl hc3 Try.isAgg3 rfl) <| .cons rfl (ob_eql rfl rfl) <| .cons rfl (ob_or rfl rfl rfl) <| .nil) ?_
    intro a3 w3 m3 hst3 hle3 hk3
    have hfr3 := hk3.fr (T' := [(2, _), (3, _), (40, _)]) (.old rfl rfl <| .old rfl rfl <| .new rfl <| .nil)
    replace hda_p := hda_p.mono hle3
    replace hc2 := hc2.mono hle3
    replace hc3 := hc3.mono hle3
    clear hst2 hfr2 hk3
    refine hK9 _ _ ?_; clear hK9
    refine cond_any hfr3 rfl rfl (fun hb40 => ?_) (fun hb40 => ?_)
    · try simp only [nq1, nq2, nq3, nq4, nq5, nq6, nq7, nq8, nq9, u8_eq] at hb40
      have hd : t.kind = 1 ∨ t.kind = 2 ∨ t.kind = 3 := by omega
      refine seq_any fun _ hK10 => ?_
      refine rp0 hst3 hfr3 (.cons rfl (ob_fieldAddrO (off := 1) rfl Try.underlying31 rfl rfl Try.sizeOf9 rfl) <| .cons rfl (ob_load1 rfl hc3 Try.isAgg9 rfl) <| .cons rfl (ob_seql rfl rfl) <| .cons rfl (ob_assign rfl) <| .nil) ?_
      intro a4 w4 m4 hst4 hle4 hk4
      have hfr4 := hk4.fr (T' := [(4, _)]) (.new rfl <| .nil)
      clear hst3 hfr3 hk4
      refine hK10 _ _ ?_; clear hK10
      refine wp_ret ?_
      repeat (with_reducible first | refine then_ret ?_ | refine block_ret ?_)
      exact fn_ret hst4 hfr4 rfl (.tmp rfl <| .nil) (by refine congrArg Value.bool ?_; unfold firstM; rw [if_neg hc, if_pos hd])
    · try simp only [nq1, nq2, nq3, nq4, nq5, nq6, nq7, nq8, nq9, u8_eq] at hb40
      have hd : ¬ (t.kind = 1 ∨ t.kind = 2 ∨ t.kind = 3) := by omega
      refine wp_skip ?_
      refine hK8 _ _ ?_; clear hK8
      refine seq_any fun _ hK12 => ?_
      refine seq_any fun _ hK13 => ?_
      refine rp0 hst3 hfr3 (.cons rfl (ob_assign rfl) <| .nil) ?_
      intro a4 w4 m4 hst4 hle4 hk4
      have hfr4 := hk4.fr (T' := [(2, _), (3, _), (5, _)]) (.old rfl rfl <| .old rfl rfl <| .new rfl <| .nil)
      replace hda_p := hda_p.mono hle4
      replace hc2 := hc2.mono hle4
      replace hc3 := hc3.mono hle4
      clear hst3 hfr3 hk4
      refine hK13 _ _ ?_; clear hK13
      refine wp_block ?_
      refine loop_any (T := [(2, _), (3, _)]) (fun (y : Nat) => ([(5, .int .i64 (y : Int))] : List (Nat × Value))) (fun _ => _) (fun (y : Nat) m => (y ≤ p.datas.length) ∧ (p.datas.any (fun d => decide (t.kind = 4) && decide (d.name = t.name)) = (p.datas.drop y).any (fun d => decide (t.kind = 4) && decide (d.name = t.name)))) (fun y => p.datas.length - y) (0) ⟨hst4, MLe.refl _, hfr4.sub (.cons rfl <| .cons rfl <| .cons rfl <| .nil), ⟨Nat.zero_le _, rfl⟩⟩ fun y a5 w5 m5 hh5 => ?_
      have hst5 := hh5.st; have hle5 := hh5.le; have hfr5 := hh5.fr; have hrel := hh5.rel; clear hh5
      replace hda_p := hda_p.mono hle5
      replace hc2 := hc2.mono hle5
      replace hc3 := hc3.mono hle5
      clear hst4 hfr4
      obtain ⟨hyn, hrem⟩ := hrel
      have hlh5 := hle5
      refine seq_any fun _ hK15 => ?_
      refine seq_any fun _ hK16 => ?_
      refine rp0 hst5 hfr5 (.cons rfl (ob_move rfl) <| .cons rfl (ob_fieldAddrO (off := 1) rfl Try.underlying35 rfl rfl Try.sizeOf23 rfl) <| .cons rfl (ob_load1 rfl hc2 Try.isAgg23 rfl) <| .cons rfl (ob_len rfl Try.underlying23) <| .cons rfl (ob_lss rfl rfl) <| .nil) ?_
      intro a6 w6 m6 hst6 hle6 hk6
      have hfr6 := hk6.fr (T' := [(5, _), (2, _), (3, _), (48, _)]) (.old rfl rfl <| .old rfl rfl <| .old rfl rfl <| .new rfl <| .nil)
      replace hda_p := hda_p.mono hle6
      replace hc2 := hc2.mono hle6
      replace hc3 := hc3.mono hle6
      have hlh6 := hlh5.trans hle6
      clear hst5 hfr5 hk6
      refine hK16 _ _ ?_; clear hK16
      refine cond_any hfr6 rfl rfl (fun hb48 => ?_) (fun hb48 => ?_)
      · try simp only [nq1, nq2, nq3, nq4, nq5, nq6, nq7, nq8, nq9, u8_eq] at hb48
        refine wp_skip ?_
        refine hK15 _ _ ?_; clear hK15
        refine seq_any fun _ hK17 => ?_
        refine wp_block ?_
        refine seq_any fun _ hK18 => ?_
        obtain ⟨p19, vs19, x19, ho19, hd19, hm_x19, ht19, hcv19, hl19, hv19⟩ := hda_p.nth (k := y) (by omega)
        cases ho19
        obtain ⟨oF19, cF19, rfl, hfl19⟩ := id hv19
        have hbf19 := hfl19.big; have hcf19 := hfl19.cap
        try rw [hd19] at hrem
        try simp only [List.any_cons, List.any_nil] at hrem
        refine region_plain (fun _ => mixed) hst6 hfr6 (by kernel_rfl) (by kernel_rfl) (.cons rfl (ob_fieldAddrO (off := 0) rfl Try.underlying31 rfl rfl Try.sizeOf3 rfl) <| .cons rfl (ob_load1 rfl hc3 Try.isAgg3 rfl) <| .cons rfl (ob_eql rfl rfl) <| .cons rfl (ob_move rfl) <| .cons rfl (ob_fieldAddrO (off := 1) rfl Try.underlying35 rfl rfl Try.sizeOf23 rfl) <| .cons rfl (ob_load1 rfl hc2 Try.isAgg23 rfl) <| .cons rfl (ob_move rfl) <| .cons rfl (ob_indexAddr (k := y) rfl rfl Try.underlying23 Try.sizeOf89 rfl (by omega)) <| .cons rfl (ob_fieldAddrO (off := 0) rfl Try.underlying89 rfl rfl Try.sizeOf9 rfl) <| .cons rfl (ob_load1 rfl hcv19 Try.isAgg9 rfl) <| .cons rfl (ob_fieldAddrO (off := 1) rfl Try.underlying31 rfl rfl Try.sizeOf9 rfl) <| .cons rfl (ob_load1 rfl hc3 Try.isAgg9 rfl) <| .cons rfl (ob_seql rfl rfl) <| .cons rfl (ob_and rfl rfl rfl) <| .nil) ?_
        intro a7 w7 m7 hst7 hle7 hk7
        have hfr7 := hk7.fr (T' := [(5, _), (2, _), (3, _), (64, _)]) (.old rfl rfl <| .old rfl rfl <| .old rfl rfl <| .new rfl <| .nil)
        have hlh7 := hlh6.trans hle7
        clear hst6 hfr6 hk7
        refine hK18 _ _ ?_; clear hK18
        refine cond_any hfr7 rfl rfl (fun hb64 => ?_) (fun hb64 => ?_)
        · try simp only [nq1, nq2, nq3, nq4, nq5, nq6, nq7, nq8, nq9, u8_eq] at hb64
          refine seq_any fun _ hK20 => ?_
          refine rp0 hst7 hfr7 (.cons rfl (ob_assign rfl) <| .nil) ?_
          intro a8 w8 m8 hst8 hle8 hk8
          have hfr8 := hk8.fr (T' := [(5, _), (4, _)]) (.old rfl rfl <| .new rfl <| .nil)
          have hlh8 := hlh7.trans hle8
          clear hst7 hfr7 hk8
          refine hK20 _ _ ?_; clear hK20
          refine wp_ret ?_
          repeat (with_reducible first | refine then_ret ?_ | refine block_ret ?_)
          exact fn_ret hst8 hfr8 rfl (.tmp rfl <| .nil) (by refine congrArg Value.bool ?_; unfold firstM; rw [if_neg hc, if_neg hd, hrem]; simp_all)
        · try simp only [nq1, nq2, nq3, nq4, nq5, nq6, nq7, nq8, nq9, u8_eq] at hb64
          refine wp_skip ?_
          refine hK17 _ _ ?_; clear hK17
          refine rp0 hst7 hfr7 (.cons rfl (ob_move rfl) <| .cons rfl (ob_add rfl rfl ⟨by omega, by omega⟩) <| .cons rfl (ob_assign rfl) <| .nil) ?_
          intro a8 w8 m8 hst8 hle8 hk8
          have hfr8 := hk8.fr (T' := [(2, _), (3, _), (5, _)]) (.old rfl rfl <| .old rfl rfl <| .new rfl <| .nil)
          have hlh8 := hlh7.trans hle8
          clear hst7 hfr7 hk8
          exact ⟨y + 1, m8, by show p.datas.length - (y + 1) < p.datas.length - y; omega, ⟨hst8, hlh8, hfr8.sub (.cons rfl <| .cons rfl <| .cons rfl <| .nil), ⟨by show y + 1 ≤ p.datas.length; omega, by rw [hrem, show (decide (t.kind = 4) && decide (x19.name = t.name)) = false from by rcases hb64 with h | h <;> simp [h]]; rfl⟩⟩⟩
      · try simp only [nq1, nq2, nq3, nq4, nq5, nq6, nq7, nq8, nq9, u8_eq] at hb48
        have hge : y = p.datas.length := by omega
        rw [List.drop_of_length_le (by omega)] at hrem
        simp only [List.any_cons, List.any_nil] at hrem
        refine wp_exit ?_
        refine hK12 _ _ ?_; clear hK12
        refine seq_any fun _ hK22 => ?_
        refine rp0 hst6 hfr6 (.cons rfl (ob_assign rfl) <| .nil) ?_
        intro a7 w7 m7 hst7 hle7 hk7
        have hfr7 := hk7.fr (T' := [(5, _), (4, _)]) (.old rfl rfl <| .new rfl <| .nil)
        have hlh7 := hlh6.trans hle7
        clear hst6 hfr6 hk7
        refine hK22 _ _ ?_; clear hK22
        refine wp_ret ?_
        repeat (with_reducible first | refine then_ret ?_ | refine block_ret ?_)
        exact fn_ret hst7 hfr7 rfl (.tmp rfl <| .nil) (by refine congrArg Value.bool ?_; unfold firstM; rw [if_neg hc, if_neg hd, hrem])

set_option maxHeartbeats 1600000 in
theorem declared_c {w : World} {m : Mem} {p : Pg} {vs_p : List Value} (hA : Agree w m) (h_p : PgR m p vs_p) (hbo : opsN p.effects ≤ 1000000000) (hbc : consN p.datas ≤ 1000000000) (hbd : p.datas.length ≤ 1000000000) : FnV Try.prog 39 #[.agg vs_p.toArray] w m (fun _ m v => MP.anyI.p m v) := by
  obtain ⟨oE_p, cE_p, oD_p, cD_p, bs_p, rfl, hef_p, hda_p, hpb_p⟩ := id h_p
  have hbe_p := hef_p.big; have hce_p := hef_p.cap; have hbda_p := hda_p.big; have hcd_p := hda_p.cap
  obtain ⟨⟨oK_pb, cK_pb, oA_pb, cA_pb, oR_pb, cR_pb, t0_pb, t1_pb, t2_pb, t3_pb, t4_pb, t5_pb, u0_pb, u1_pb, u2_pb, u3_pb, u4_pb, u5_pb⟩, rfl, hon_pb, hkk_pb, haa_pb, hrr_pb⟩ := hpb_p.open_
  dsimp only at hkk_pb haa_pb hrr_pb
  have hbg_pb := hkk_pb.big; have hcp_pb := hkk_pb.cap; have hbh_pb := haa_pb.big; have hcq_pb := haa_pb.cap
  refine fn_enter (vs := [_]) Try.func39 rfl rfl rfl fun a0 hfr0 => ?_
  have hst0 := st_enter hA (loc_nil [] _ w m)
  have hM : MLe m m := MLe.refl m
  refine seq_any fun _ hK1 => ?_
  refine rp0 hst0 hfr0 (.cons rfl (ob_box rfl rfl) <| .cons rfl (ob_assign rfl) <| .nil) ?_
  intro a1 w1 m1 hst1 hle1 hk1
  have hfr1 := hk1.fr (T' := []) (.nil)
  obtain ⟨g2, e2, hc1⟩ := hk1.ex 1 rfl
  replace hfr1 := hfr1.cons e2
  replace h_p := h_p.mono hle1
  replace hef_p := hef_p.mono hle1
  replace hda_p := hda_p.mono hle1
  replace hpb_p := hpb_p.mono hle1
  replace hkk_pb := hkk_pb.mono hle1
  replace haa_pb := haa_pb.mono hle1
  replace hrr_pb := hrr_pb.mono hle1
  clear hst0 hfr0 hk1
  refine hK1 _ _ ?_; clear hK1
  refine seq_any fun _ hK3 => ?_
  refine seq_any fun _ hK4 => ?_
  refine rp0 hst1 hfr1 (.cons rfl (ob_fieldAddrO (off := 0) rfl Try.underlying35 rfl rfl Try.sizeOf22 rfl) <| .cons rfl (ob_load1 rfl hc1 Try.isAgg22 rfl) <| .cons rfl (ob_len rfl Try.underlying22) <| .cons rfl (ob_gtr rfl rfl) <| .nil) ?_
  intro a2 w2 m2 hst2 hle2 hk2
  have hfr2 := hk2.fr (T' := [(1, _), (16, _)]) (.old rfl rfl <| .new rfl <| .nil)
  replace h_p := h_p.mono hle2
  replace hef_p := hef_p.mono hle2
  replace hda_p := hda_p.mono hle2
  replace hpb_p := hpb_p.mono hle2
  replace hkk_pb := hkk_pb.mono hle2
  replace haa_pb := haa_pb.mono hle2
  replace hrr_pb := hrr_pb.mono hle2
  replace hc1 := hc1.mono hle2
  clear hst1 hfr1 hk2
  refine hK4 _ _ ?_; clear hK4
  refine cond_any hfr2 rfl rfl (fun hb16 => ?_) (fun hb16 => ?_)
  · try simp only [nq1, nq2, nq3, nq4, nq5, nq6, nq7, nq8, nq9, u8_eq] at hb16
    refine seq_any fun _ hK5 => ?_
    refine rp0 hst2 hfr2 (.cons rfl (ob_assign rfl) <| .nil) ?_
    intro a3 w3 m3 hst3 hle3 hk3
    have hfr3 := hk3.fr (T' := [(2, _)]) (.new rfl <| .nil)
    clear hst2 hfr2 hk3
    refine hK5 _ _ ?_; clear hK5
    refine wp_ret ?_
    repeat (with_reducible first | refine then_ret ?_ | refine block_ret ?_)
    exact fn_ret hst3 hfr3 rfl (.tmp rfl <| .nil) (⟨_, rfl, trivial⟩)
  · try simp only [nq1, nq2, nq3, nq4, nq5, nq6, nq7, nq8, nq9, u8_eq] at hb16
    refine wp_skip ?_
    refine hK3 _ _ ?_; clear hK3
    refine seq_any fun _ hK7 => ?_
    refine rp0 hst2 hfr2 (.cons rfl (ob_assign rfl) <| .nil) ?_
    intro a3 w3 m3 hst3 hle3 hk3
    have hfr3 := hk3.fr (T' := [(1, _), (3, _)]) (.old rfl rfl <| .new rfl <| .nil)
    replace h_p := h_p.mono hle3
    replace hef_p := hef_p.mono hle3
    replace hda_p := hda_p.mono hle3
    replace hpb_p := hpb_p.mono hle3
    replace hkk_pb := hkk_pb.mono hle3
    replace haa_pb := haa_pb.mono hle3
    replace hrr_pb := hrr_pb.mono hle3
    replace hc1 := hc1.mono hle3
    clear hst2 hfr2 hk3
    have hst3 := hst3.more (r := .row (.slice none 0 0) 0 1 9 []) ⟨rfl, .inl ⟨rfl, rfl⟩⟩ List.nodup_nil (by simp [Res.blocks, rowBlock])
    have hrow_nm : RowAt m3 none (([] : List Str).map (fun x => S x)) := .inl rfl; have hcap_nm : ([] : List Str).length ≤ 0 := Nat.le_refl _
    refine hK7 _ _ ?_; clear hK7
    refine seq_any fun _ hK8 => ?_
    refine rp0 hst3 hfr3 (.cons rfl (ob_assign rfl) <| .nil) ?_
    intro a4 w4 m4 hst4 hle4 hk4
    have hfr4 := hk4.fr (T' := [(1, _), (3, _), (4, _)]) (.old rfl rfl <| .old rfl rfl <| .new rfl <| .nil)
    replace h_p := h_p.mono hle4
    replace hef_p := hef_p.mono hle4
    replace hda_p := hda_p.mono hle4
    replace hpb_p := hpb_p.mono hle4
    replace hkk_pb := hkk_pb.mono hle4
    replace haa_pb := haa_pb.mono hle4
    replace hrr_pb := hrr_pb.mono hle4
    replace hc1 := hc1.mono hle4
    replace hrow_nm := hrow_nm.mono hle4
    clear hst3 hfr3 hk4
    have hst4 := hst4.more (r := .row (.slice none 0 0) 0 1 9 []) ⟨rfl, .inl ⟨rfl, rfl⟩⟩ List.nodup_nil (by simp [Res.blocks, rowBlock])
    have hrow_op : RowAt m4 none (([] : List Str).map (fun x => S x)) := .inl rfl; have hcap_op : ([] : List Str).length ≤ 0 := Nat.le_refl _
    refine hK8 _ _ ?_; clear hK8
    refine seq_any fun _ hK9 => ?_
    refine seq_any fun _ hK10 => ?_
    refine rp0 hst4 hfr4 (.cons rfl (ob_assign rfl) <| .nil) ?_
    intro a5 w5 m5 hst5 hle5 hk5
    have hfr5 := hk5.fr (T' := [(1, _), (3, _), (4, _), (5, _)]) (.old rfl rfl <| .old rfl rfl <| .old rfl rfl <| .new rfl <| .nil)
    replace h_p := h_p.mono hle5
    replace hef_p := hef_p.mono hle5
    replace hda_p := hda_p.mono hle5
    replace hpb_p := hpb_p.mono hle5
    replace hkk_pb := hkk_pb.mono hle5
    replace haa_pb := haa_pb.mono hle5
    replace hrr_pb := hrr_pb.mono hle5
    replace hc1 := hc1.mono hle5
    replace hrow_nm := hrow_nm.mono hle5
    replace hrow_op := hrow_op.mono hle5
    clear hst4 hfr4 hk5
    refine hK10 _ _ ?_; clear hK10
    refine wp_block ?_
    refine loop_any (T := [(1, _)]) (fun (y : Nat × Option Addr × Nat × List Str × Option Addr × Nat × List Str) => ([(3, .slice y.2.1 y.2.2.2.1.length y.2.2.1), (4, .slice y.2.2.2.2.1 y.2.2.2.2.2.2.length y.2.2.2.2.2.1), (5, .int .i64 (y.1 : Int))] : List (Nat × Value))) (fun y => [.row (.slice y.2.1 y.2.2.2.1.length y.2.2.1) y.2.2.2.1.length 1 9 (y.2.2.2.1.map (fun x => S x)), .row (.slice y.2.2.2.2.1 y.2.2.2.2.2.2.length y.2.2.2.2.2.1) y.2.2.2.2.2.2.length 1 9 (y.2.2.2.2.2.2.map (fun x => S x))]) (fun (y : Nat × Option Addr × Nat × List Str × Option Addr × Nat × List Str) m => (fun (y : Nat) (nmo : Option Addr) (nmp : Nat) (nm : List Str) (opo : Option Addr) (opp : Nat) (op : List Str) => (y ≤ p.effects.length) ∧ (RowAt m nmo (nm.map (fun x => S x))) ∧ (nm.length ≤ nmp) ∧ (nm.length ≤ y) ∧ (RowAt m opo (op.map (fun x => S x))) ∧ (op.length ≤ opp) ∧ (op.length ≤ opsN (p.effects.take y))) y.1 y.2.1 y.2.2.1 y.2.2.2.1 y.2.2.2.2.1 y.2.2.2.2.2.1 y.2.2.2.2.2.2) (fun y => p.effects.length - y.1) ((0, none, 0, ([] : List Str), none, 0, ([] : List Str))) ⟨hst5, MLe.refl _, hfr5.sub (.cons rfl <| .cons rfl <| .cons rfl <| .cons rfl <| .nil), ⟨Nat.zero_le _, hrow_nm, hcap_nm, Nat.le_refl _, hrow_op, hcap_op, Nat.zero_le _⟩⟩ fun y a6 w6 m6 hh6 => ?_
    have hst6 := hh6.st; have hle6 := hh6.le; have hfr6 := hh6.fr; have hrel := hh6.rel; clear hh6
    replace h_p := h_p.mono hle6
    replace hef_p := hef_p.mono hle6
    replace hda_p := hda_p.mono hle6
    replace hpb_p := hpb_p.mono hle6
    replace hkk_pb := hkk_pb.mono hle6
    replace haa_pb := haa_pb.mono hle6
    replace hrr_pb := hrr_pb.mono hle6
    replace hc1 := hc1.mono hle6
    replace hrow_nm := hrow_nm.mono hle6
    replace hrow_op := hrow_op.mono hle6
    clear hst5 hfr5
    obtain ⟨y, nmo, nmp, nm, opo, opp, op⟩ := y
    dsimp only at hrel hfr6 hst6
    obtain ⟨hyn, hrow_nm, hcap_nm, hlen_nm, hrow_op, hcap_op, hlen_op⟩ := hrel
    have hlh6 := hle6
    refine seq_any fun _ hK12 => ?_
    refine seq_any fun _ hK13 => ?_
    refine rp0 hst6 hfr6 (.cons rfl (ob_move rfl) <| .cons rfl (ob_fieldAddrO (off := 0) rfl Try.underlying35 rfl rfl Try.sizeOf22 rfl) <| .cons rfl (ob_load1 rfl hc1 Try.isAgg22 rfl) <| .cons rfl (ob_len rfl Try.underlying22) <| .cons rfl (ob_lss rfl rfl) <| .nil) ?_
    intro a7 w7 m7 hst7 hle7 hk7
    have hfr7 := hk7.fr (T' := [(3, _), (4, _), (5, _), (1, _), (21, _)]) (.old rfl rfl <| .old rfl rfl <| .old rfl rfl <| .old rfl rfl <| .new rfl <| .nil)
    replace h_p := h_p.mono hle7
    replace hef_p := hef_p.mono hle7
    replace hda_p := hda_p.mono hle7
    replace hpb_p := hpb_p.mono hle7
    replace hkk_pb := hkk_pb.mono hle7
    replace haa_pb := haa_pb.mono hle7
    replace hrr_pb := hrr_pb.mono hle7
    replace hc1 := hc1.mono hle7
    replace hrow_nm := hrow_nm.mono hle7
    replace hrow_op := hrow_op.mono hle7
    have hlh7 := hlh6.trans hle7
    clear hst6 hfr6 hk7
    refine hK13 _ _ ?_; clear hK13
    refine cond_any hfr7 rfl rfl (fun hb21 => ?_) (fun hb21 => ?_)
    · try simp only [nq1, nq2, nq3, nq4, nq5, nq6, nq7, nq8, nq9, u8_eq] at hb21
      refine wp_skip ?_
      refine hK12 _ _ ?_; clear hK12
      refine seq_any fun _ hK14 => ?_
      refine wp_block ?_
      refine seq_any fun _ hK15 => ?_
      obtain ⟨p16, vs16, x16, ho16, hd16, hm_x16, ht16, hcv16, hl16, hv16⟩ := hef_p.nth (k := y) (by omega)
      cases ho16
      obtain ⟨oF16, cF16, rfl, hfl16⟩ := id hv16
      have hbf16 := hfl16.big; have hcf16 := hfl16.cap
      replace hst7 := hst7.more (r := .free) trivial List.nodup_nil (by simp [Res.blocks])
      refine ra0 (tch := [(5, 2, (fun v => .blk v _)), (6, 2, (fun v => .blk v _))]) hst7 hfr7 (.cons rfl (ob_fieldAddrO (off := 0) rfl Try.underlying35 rfl rfl Try.sizeOf22 rfl) <| .cons rfl (ob_load1 rfl hc1 Try.isAgg22 rfl) <| .cons rfl (ob_move rfl) <| .cons rfl (ob_indexAddr (k := y) rfl rfl Try.underlying22 Try.sizeOf83 rfl (by omega)) <| .cons rfl (ob_loadS' rfl hcv16 Try.isAgg83 Try.sizeOf83 rfl rfl) <| .consT rfl rfl (fun _ => rfl) rfl (ob_allocL Try.zeroValue83 rfl) <| .consT rfl rfl (fun _ => rfl) rfl (ob_imgT 6 rfl rfl rfl fun y6 => ob_storeF rfl rfl rfl rfl rfl Try.sizeOf83 rfl rfl rfl) <| .nil) ?_
      intro a8 w8 m8 hst8 hle8 hk8
      have hfr8 := hk8.fr (T' := [(3, _), (4, _), (5, _), (1, _)]) (.old rfl rfl <| .old rfl rfl <| .old rfl rfl <| .old rfl rfl <| .nil)
      obtain ⟨g17, e17, _⟩ := hk8.ex 6 rfl
      replace hfr8 := hfr8.cons e17
      replace hst8 := hst8.fin (L' := [_, _, _]) (.cons e17 <| .cons e17 <| .nil)
      replace h_p := h_p.mono hle8
      replace hc1 := hc1.mono hle8
      replace hrow_nm := hrow_nm.mono hle8
      replace hrow_op := hrow_op.mono hle8
      replace hfl16 := hfl16.mono hle8
      have hlh8 := hlh7.trans hle8
      clear hst7 hfr7 hk8
      have ho1 := opsN_take p.effects (y + 1)
      rw [ht16, opsN_snoc] at ho1
      refine hK15 _ _ ?_; clear hK15
      refine seq_any fun _ hK18 => ?_
      refine seq_any fun _ hK19 => ?_
      have hs_nm : Strs m8 nmo (nm).length nmp nm := Strs.of_row (by simpa using hrow_nm) rfl hcap_nm (by omega)
      refine rp0 hst8 hfr8 (.cons rfl (ob_fieldAddrO (off := 0) rfl Try.underlying83 rfl rfl Try.sizeOf9 rfl) <| .cons rfl (ob_loadL (j := 2) rfl rfl Try.isAgg9 rfl) <| .cons rfl (ob_seql rfl rfl) <| .cons rfl (ob_move rfl) <| .cons rfl (ob_fieldAddrO (off := 0) rfl Try.underlying83 rfl rfl Try.sizeOf9 rfl) <| .cons rfl (ob_loadL (j := 2) rfl rfl Try.isAgg9 rfl) <| .cons rfl (ob_seql rfl rfl) <| .cons rfl (ob_or rfl rfl rfl) <| .cons rfl (ob_move rfl) <| .cons rfl (ob_move rfl) <| .cons rfl (ob_fieldAddrO (off := 0) rfl Try.underlying83 rfl rfl Try.sizeOf9 rfl) <| .cons rfl (ob_loadL (j := 2) rfl rfl Try.isAgg9 rfl) <| .cons rfl (ob_callE rfl (.cons rfl <| .cons rfl <| .nil) Try.call15 (fun w m hK => by have hle_ := KC.le hK; have hA := KC.agree hK; have hs_nm := hs_nm.mono hle_; exact in_c hA hs_nm)) <| .cons rfl (ob_or rfl rfl rfl) <| .nil) ?_
      intro a9 w9 m9 hst9 hle9 hk9
      have hfr9 := hk9.fr (T' := [(3, _), (4, _), (5, _), (1, _), (6, _), (42, _)]) (.old rfl rfl <| .old rfl rfl <| .old rfl rfl <| .old rfl rfl <| .old rfl rfl <| .new rfl <| .nil)
      replace h_p := h_p.mono hle9
      replace hc1 := hc1.mono hle9
      replace hrow_op := hrow_op.mono hle9
      replace hfl16 := hfl16.mono hle9
      have hlh9 := hlh8.trans hle9
      clear hst8 hfr8 hk9
      refine hK19 _ _ ?_; clear hK19
      refine cond_any hfr9 rfl rfl (fun hb42 => ?_) (fun hb42 => ?_)
      · try simp only [nq1, nq2, nq3, nq4, nq5, nq6, nq7, nq8, nq9, u8_eq] at hb42
        refine seq_any fun _ hK20 => ?_
        refine rp0 hst9 hfr9 (.cons rfl (ob_assign rfl) <| .nil) ?_
        intro a10 w10 m10 hst10 hle10 hk10
        have hfr10 := hk10.fr (T' := [(3, _), (4, _), (5, _), (2, _)]) (.old rfl rfl <| .old rfl rfl <| .old rfl rfl <| .new rfl <| .nil)
        have hlh10 := hlh9.trans hle10
        clear hst9 hfr9 hk10
        refine hK20 _ _ ?_; clear hK20
        refine wp_ret ?_
        repeat (with_reducible first | refine then_ret ?_ | refine block_ret ?_)
        exact fn_ret hst10 hfr10 rfl (.tmp rfl <| .nil) (⟨_, rfl, trivial⟩)
      · try simp only [nq1, nq2, nq3, nq4, nq5, nq6, nq7, nq8, nq9, u8_eq] at hb42
        refine wp_skip ?_
        refine hK18 _ _ ?_; clear hK18
        refine seq_any fun _ hK22 => ?_
        refine ra0 (tch := [(4, 0, (fun v => .row v _ _ _ _))]) hst9 hfr9 (.cons rfl (ob_move rfl) <| .cons rfl (ob_fieldAddrO (off := 0) rfl Try.underlying83 rfl rfl Try.sizeOf9 rfl) <| .cons rfl (ob_loadL (j := 2) rfl rfl Try.isAgg9 rfl) <| .cons rfl (ob_buildSlice (.cons rfl <| .nil) Try.underlying27 Try.sizeOf9 Try.zeroValue9 rfl rfl rfl rfl) <| .consT rfl rfl (fun _ => rfl) rfl (ob_imgT 46 rfl rfl rfl fun y46 => ob_append (size := 1) (bytes := 16) rfl rfl Try.underlying27 Try.type9 rfl rfl rfl rfl (fun w m hK => .inr ⟨_, rfl, hK.2⟩) rfl (by decide) rfl (by simp only [maxLen]; omega) (by omega)) <| .consA 47 rfl rfl <| .nil) ?_
        intro a10 w10 m10 hst10 hle10 hk10
        have hfr10 := hk10.fr (T' := [(4, _), (5, _), (1, _), (6, _)]) (.old rfl rfl <| .old rfl rfl <| .old rfl rfl <| .old rfl rfl <| .nil)
        obtain ⟨⟨nm_23o, nm_23p⟩, e24, hrow_nm_23, hcap_nm_23⟩ := hk10.ex 47 rfl
        replace e24 : envOf a10 47 = .slice nm_23o (nm ++ [x16.name]).length nm_23p := by rw [e24]; refine congrArg (fun q => Value.slice _ q _) ?_; simp only [List.length_append, List.length_cons, List.length_nil]
        replace hfr10 := hfr10.cons (hk10.same 3 rfl e24)
        replace hst10 := hst10.fin (L' := [_, _, _]) (.cons e24 <| .nil)
        have en_nm_23 : (nm).length + 1 = ((nm ++ [x16.name])).length := by simp only [List.length_append, List.length_cons, List.length_nil]
        have em_nm_23 : (nm).map (fun x => S x) ++ [S x16.name] = ((nm ++ [x16.name])).map (fun x => S x) := by simp only [List.map_append, List.map_cons, List.map_nil]
        replace hst10 := hst10.row_eq (k := 0) rfl en_nm_23 em_nm_23
        simp only [List.set_cons_succ, List.set_cons_zero] at hst10
        change RowAt m10 nm_23o ((nm).map (fun x => S x) ++ [S x16.name]) at hrow_nm_23; rw [em_nm_23] at hrow_nm_23; change (nm).length + 1 ≤ nm_23p at hcap_nm_23; rw [en_nm_23] at hcap_nm_23
        replace h_p := h_p.mono hle10
        replace hc1 := hc1.mono hle10
        replace hrow_op := hrow_op.mono hle10
        replace hfl16 := hfl16.mono hle10
        have hlh10 := hlh9.trans hle10
        clear hst9 hfr9 hk10
        refine hK22 _ _ ?_; clear hK22
        refine seq_any fun _ hK25 => ?_
        refine rp0 hst10 hfr10 (.cons rfl (ob_assign rfl) <| .nil) ?_
        intro a11 w11 m11 hst11 hle11 hk11
        have hfr11 := hk11.fr (T' := [(4, _), (5, _), (1, _), (6, _), (3, _), (7, _)]) (.old rfl rfl <| .old rfl rfl <| .old rfl rfl <| .old rfl rfl <| .old rfl rfl <| .new rfl <| .nil)
        replace h_p := h_p.mono hle11
        replace hc1 := hc1.mono hle11
        replace hrow_op := hrow_op.mono hle11
        replace hfl16 := hfl16.mono hle11
        replace hrow_nm_23 := hrow_nm_23.mono hle11
        have hlh11 := hlh10.trans hle11
        clear hst10 hfr10 hk11
        refine hK25 _ _ ?_; clear hK25
        refine wp_block ?_
        have hlq26 := hlh11
        refine loop_any (T := [(5, _), (1, _), (6, _), (3, _)]) (fun (k : Nat × Option Addr × Nat × List Str) => ([(4, .slice k.2.1 k.2.2.2.length k.2.2.1), (7, .int .i64 (k.1 : Int))] : List (Nat × Value))) (fun k => [_, .row (.slice k.2.1 k.2.2.2.length k.2.2.1) k.2.2.2.length 1 9 (k.2.2.2.map (fun x => S x)), _]) (fun (k : Nat × Option Addr × Nat × List Str) m => (fun (k : Nat) (oqo : Option Addr) (oqp : Nat) (oq : List Str) => (k ≤ x16.ops.length) ∧ (RowAt m oqo (oq.map (fun x => S x))) ∧ (oq.length ≤ oqp) ∧ (oq.length ≤ opsN (p.effects.take y) + k)) k.1 k.2.1 k.2.2.1 k.2.2.2) (fun k => x16.ops.length - k.1) ((0, opo, opp, op)) ⟨hst11, MLe.refl _, hfr11.sub (.cons rfl <| .cons rfl <| .cons rfl <| .cons rfl <| .cons rfl <| .cons rfl <| .nil), ⟨Nat.zero_le _, hrow_op, hcap_op, hlen_op⟩⟩ fun k a12 w12 m12 hh12 => ?_
        have hst12 := hh12.st; have hle12 := hh12.le; have hfr12 := hh12.fr; have hrel := hh12.rel; clear hh12
        replace h_p := h_p.mono hle12
        replace hc1 := hc1.mono hle12
        replace hfl16 := hfl16.mono hle12
        replace hrow_nm_23 := hrow_nm_23.mono hle12
        clear hst11 hfr11
        obtain ⟨k, oqo, oqp, oq⟩ := k
        dsimp only at hrel hfr12 hst12
        obtain ⟨hkn, hrow_oq, hcap_oq, hlen_oq⟩ := hrel
        replace hlq26 := hlq26.trans hle12
        have hlh12 := hle12
        refine seq_any fun _ hK27 => ?_
        refine seq_any fun _ hK28 => ?_
        refine rp0 hst12 hfr12 (.cons rfl (ob_move rfl) <| .cons rfl (ob_fieldAddrO (off := 1) rfl Try.underlying83 rfl rfl Try.sizeOf81 rfl) <| .cons rfl (ob_loadL (j := 2) rfl rfl Try.isAgg81 rfl) <| .cons rfl (ob_len rfl Try.underlying81) <| .cons rfl (ob_lss rfl rfl) <| .nil) ?_
        intro a13 w13 m13 hst13 hle13 hk13
        have hfr13 := hk13.fr (T' := [(4, _), (7, _), (5, _), (1, _), (6, _), (3, _), (52, _)]) (.old rfl rfl <| .old rfl rfl <| .old rfl rfl <| .old rfl rfl <| .old rfl rfl <| .old rfl rfl <| .new rfl <| .nil)
        replace h_p := h_p.mono hle13
        replace hc1 := hc1.mono hle13
        replace hfl16 := hfl16.mono hle13
        replace hrow_nm_23 := hrow_nm_23.mono hle13
        replace hrow_oq := hrow_oq.mono hle13
        have hlh13 := hlh12.trans hle13
        replace hlq26 := hlq26.trans hle13
        clear hst12 hfr12 hk13
        refine hK28 _ _ ?_; clear hK28
        refine cond_any hfr13 rfl rfl (fun hb52 => ?_) (fun hb52 => ?_)
        · try simp only [nq1, nq2, nq3, nq4, nq5, nq6, nq7, nq8, nq9, u8_eq] at hb52
          refine wp_skip ?_
          refine hK27 _ _ ?_; clear hK27
          refine seq_any fun _ hK29 => ?_
          refine wp_block ?_
          refine seq_any fun _ hK30 => ?_
          refine seq_any fun _ hK31 => ?_
          have hs_op : Strs m13 oqo (oq).length oqp oq := Strs.of_row (by simpa using hrow_oq) rfl hcap_oq (by omega)
          obtain ⟨p32, vs32, x32, ho32, hd32, hm_x32, ht32, hcv32, hl32, hv32⟩ := hfl16.nth (k := k) (by omega)
          cases ho32
          obtain ⟨as32, rs32, rfl, hoa32, hob32⟩ := id hv32
          obtain ⟨o32a, c32a, oL32a, cL32a, rfl, hkd32a, hs32a, hi32a, hj32a, hr32a⟩ := hoa32.open_
          have hbg32a := hkd32a.big; have hcp32a := hkd32a.cap; have hbs32a := hs32a.big; have hcs32a := hs32a.cap
          have hrw32a : RwR _ ⟨x32.arg.labels, x32.arg.rv⟩ _ := ⟨_, _, rfl, hs32a, hr32a⟩
          obtain ⟨o32r, c32r, oL32r, cL32r, rfl, hkd32r, hs32r, hi32r, hj32r, hr32r⟩ := hob32.open_
          have hbg32r := hkd32r.big; have hcp32r := hkd32r.cap; have hbs32r := hs32r.big; have hcs32r := hs32r.cap
          have hrw32r : RwR _ ⟨x32.res.labels, x32.res.rv⟩ _ := ⟨_, _, rfl, hs32r, hr32r⟩
          refine region_plain (fun _ => mixed) hst13 hfr13 (by kernel_rfl) (by kernel_rfl) (.cons rfl (ob_fieldAddrO (off := 1) rfl Try.underlying83 rfl rfl Try.sizeOf81 rfl) <| .cons rfl (ob_loadL (j := 2) rfl rfl Try.isAgg81 rfl) <| .cons rfl (ob_move rfl) <| .cons rfl (ob_indexAddr (k := k) rfl rfl Try.underlying81 Try.sizeOf85 rfl (by omega)) <| .cons rfl (ob_fieldAddrO (off := 0) rfl Try.underlying85 rfl rfl Try.sizeOf9 rfl) <| .cons rfl (ob_load1 rfl hcv32 Try.isAgg9 rfl) <| .cons rfl (ob_seql rfl rfl) <| .cons rfl (ob_move rfl) <| .cons rfl (ob_move rfl) <| .cons rfl (ob_fieldAddrO (off := 1) rfl Try.underlying83 rfl rfl Try.sizeOf81 rfl) <| .cons rfl (ob_loadL (j := 2) rfl rfl Try.isAgg81 rfl) <| .cons rfl (ob_move rfl) <| .cons rfl (ob_indexAddr (k := k) rfl rfl Try.underlying81 Try.sizeOf85 rfl (by omega)) <| .cons rfl (ob_fieldAddrO (off := 0) rfl Try.underlying85 rfl rfl Try.sizeOf9 rfl) <| .cons rfl (ob_load1 rfl hcv32 Try.isAgg9 rfl) <| .cons rfl (ob_callE rfl (.cons rfl <| .cons rfl <| .nil) Try.call15 (fun w m hK => by have hle_ := KC.le hK; have hA := KC.agree hK; have hs_op := hs_op.mono hle_; exact in_c hA hs_op)) <| .cons rfl (ob_or rfl rfl rfl) <| .cons rfl (ob_move rfl) <| .cons rfl (ob_loadS' rfl hc1 Try.isAgg35 Try.sizeOf35 rfl rfl) <| .cons rfl (ob_fieldAddrO (off := 1) rfl Try.underlying83 rfl rfl Try.sizeOf81 rfl) <| .cons rfl (ob_loadL (j := 2) rfl rfl Try.isAgg81 rfl) <| .cons rfl (ob_move rfl) <| .cons rfl (ob_indexAddr (k := k) rfl rfl Try.underlying81 Try.sizeOf85 rfl (by omega)) <| .cons rfl (ob_fieldAddrO (off := 1) rfl Try.underlying85 rfl rfl Try.sizeOf31 rfl) <| .cons rfl (ob_loadS rfl hcv32 Try.isAgg31 Try.sizeOf31 rfl rfl) <| .cons rfl (ob_callE rfl (.cons rfl <| .cons rfl <| .nil) Try.call50 (fun w m hK => by have hle_ := KC.le hK; have hA := KC.agree hK; have h_p := h_p.mono hle_; have hoa32 := hoa32.mono hle_; exact first_c hA h_p hoa32)) <| .cons rfl (ob_not rfl) <| .cons rfl (ob_or rfl rfl rfl) <| .cons rfl (ob_move rfl) <| .cons rfl (ob_loadS' rfl hc1 Try.isAgg35 Try.sizeOf35 rfl rfl) <| .cons rfl (ob_fieldAddrO (off := 1) rfl Try.underlying83 rfl rfl Try.sizeOf81 rfl) <| .cons rfl (ob_loadL (j := 2) rfl rfl Try.isAgg81 rfl) <| .cons rfl (ob_move rfl) <| .cons rfl (ob_indexAddr (k := k) rfl rfl Try.underlying81 Try.sizeOf85 rfl (by omega)) <| .cons rfl (ob_fieldAddrO (off := 7) rfl Try.underlying85 rfl rfl Try.sizeOf31 rfl) <| .cons rfl (ob_loadS rfl hcv32 Try.isAgg31 Try.sizeOf31 rfl rfl) <| .cons rfl (ob_callE rfl (.cons rfl <| .cons rfl <| .nil) Try.call50 (fun w m hK => by have hle_ := KC.le hK; have hA := KC.agree hK; have h_p := h_p.mono hle_; have hob32 := hob32.mono hle_; exact first_c hA h_p hob32)) <| .cons rfl (ob_not rfl) <| .cons rfl (ob_or rfl rfl rfl) <| .nil) ?_
          intro a14 w14 m14 hst14 hle14 hk14
          have hfr14 := hk14.fr (T' := [(4, _), (7, _), (5, _), (1, _), (6, _), (3, _), (93, _)]) (.old rfl rfl <| .old rfl rfl <| .old rfl rfl <| .old rfl rfl <| .old rfl rfl <| .old rfl rfl <| .new rfl <| .nil)
          replace hcv32 := hcv32.mono hle14
          have hlh14 := hlh13.trans hle14
          clear hst13 hfr13 hk14
          refine hK31 _ _ ?_; clear hK31
          refine cond_any hfr14 rfl rfl (fun hb93 => ?_) (fun hb93 => ?_)
          · try simp only [nq1, nq2, nq3, nq4, nq5, nq6, nq7, nq8, nq9, u8_eq] at hb93
            refine seq_any fun _ hK33 => ?_
            refine rp0 hst14 hfr14 (.cons rfl (ob_assign rfl) <| .nil) ?_
            intro a15 w15 m15 hst15 hle15 hk15
            have hfr15 := hk15.fr (T' := [(4, _), (7, _), (5, _), (3, _), (2, _)]) (.old rfl rfl <| .old rfl rfl <| .old rfl rfl <| .old rfl rfl <| .new rfl <| .nil)
            have hlh15 := hlh14.trans hle15
            clear hst14 hfr14 hk15
            refine hK33 _ _ ?_; clear hK33
            refine wp_ret ?_
            repeat (with_reducible first | refine then_ret ?_ | refine block_ret ?_)
            exact fn_ret hst15 hfr15 rfl (.tmp rfl <| .nil) (⟨_, rfl, trivial⟩)
          · try simp only [nq1, nq2, nq3, nq4, nq5, nq6, nq7, nq8, nq9, u8_eq] at hb93
            refine wp_skip ?_
            refine hK30 _ _ ?_; clear hK30
            refine ra0 (tch := [(8, 1, (fun v => .row v _ _ _ _))]) hst14 hfr14 (.cons rfl (ob_move rfl) <| .cons rfl (ob_fieldAddrO (off := 1) rfl Try.underlying83 rfl rfl Try.sizeOf81 rfl) <| .cons rfl (ob_loadL (j := 2) rfl rfl Try.isAgg81 rfl) <| .cons rfl (ob_move rfl) <| .cons rfl (ob_indexAddr (k := k) rfl rfl Try.underlying81 Try.sizeOf85 rfl (by omega)) <| .cons rfl (ob_fieldAddrO (off := 0) rfl Try.underlying85 rfl rfl Try.sizeOf9 rfl) <| .cons rfl (ob_load1 rfl hcv32 Try.isAgg9 rfl) <| .cons rfl (ob_buildSlice (.cons rfl <| .nil) Try.underlying27 Try.sizeOf9 Try.zeroValue9 rfl rfl rfl rfl) <| .consT rfl rfl (fun _ => rfl) rfl (ob_imgT 101 rfl rfl rfl fun y101 => ob_append (size := 1) (bytes := 16) rfl rfl Try.underlying27 Try.type9 rfl rfl rfl rfl (fun w m hK => .inr ⟨_, rfl, hK.2⟩) rfl (by decide) rfl (by simp only [maxLen]; omega) (by omega)) <| .consA 102 rfl rfl <| .nil) ?_
            intro a15 w15 m15 hst15 hle15 hk15
            have hfr15 := hk15.fr (T' := [(7, _), (5, _), (1, _), (6, _), (3, _)]) (.old rfl rfl <| .old rfl rfl <| .old rfl rfl <| .old rfl rfl <| .old rfl rfl <| .nil)
            obtain ⟨⟨op_35o, op_35p⟩, e36, hrow_op_35, hcap_op_35⟩ := hk15.ex 102 rfl
            replace e36 : envOf a15 102 = .slice op_35o (oq ++ [x32.name]).length op_35p := by rw [e36]; refine congrArg (fun q => Value.slice _ q _) ?_; simp only [List.length_append, List.length_cons, List.length_nil]
            replace hfr15 := hfr15.cons (hk15.same 4 rfl e36)
            replace hst15 := hst15.fin (L' := [_, _, _]) (.cons e36 <| .nil)
            have en_op_35 : (oq).length + 1 = ((oq ++ [x32.name])).length := by simp only [List.length_append, List.length_cons, List.length_nil]
            have em_op_35 : (oq).map (fun x => S x) ++ [S x32.name] = ((oq ++ [x32.name])).map (fun x => S x) := by simp only [List.map_append, List.map_cons, List.map_nil]
            replace hst15 := hst15.row_eq (k := 1) rfl en_op_35 em_op_35
            simp only [List.set_cons_succ, List.set_cons_zero] at hst15
            change RowAt m15 op_35o ((oq).map (fun x => S x) ++ [S x32.name]) at hrow_op_35; rw [em_op_35] at hrow_op_35; change (oq).length + 1 ≤ op_35p at hcap_op_35; rw [en_op_35] at hcap_op_35
            have hlh15 := hlh14.trans hle15
            clear hst14 hfr14 hk15
            refine hK29 _ _ ?_; clear hK29
            refine rp0 hst15 hfr15 (.cons rfl (ob_move rfl) <| .cons rfl (ob_add rfl rfl ⟨by omega, by omega⟩) <| .cons rfl (ob_assign rfl) <| .nil) ?_
            intro a16 w16 m16 hst16 hle16 hk16
            have hfr16 := hk16.fr (T' := [(5, _), (1, _), (6, _), (3, _), (4, _), (7, _)]) (.old rfl rfl <| .old rfl rfl <| .old rfl rfl <| .old rfl rfl <| .old rfl rfl <| .new rfl <| .nil)
            replace hrow_op_35 := hrow_op_35.mono hle16
            have hlh16 := hlh15.trans hle16
            clear hst15 hfr15 hk16
            exact ⟨(k + 1, op_35o, op_35p, (oq ++ [x32.name])), m16, by show x16.ops.length - (k + 1) < x16.ops.length - k; omega, ⟨hst16, hlh16, hfr16.sub (.cons rfl <| .cons rfl <| .cons rfl <| .cons rfl <| .cons rfl <| .cons rfl <| .nil), ⟨by show k + 1 ≤ x16.ops.length; omega, hrow_op_35, hcap_op_35, by simp only [List.length_append, List.length_cons, List.length_nil]; omega⟩⟩⟩
        · try simp only [nq1, nq2, nq3, nq4, nq5, nq6, nq7, nq8, nq9, u8_eq] at hb52
          have hgek : k = x16.ops.length := by omega
          refine wp_exit ?_
          refine hK14 _ _ ?_; clear hK14
          refine rp0 hst13 hfr13 (.cons rfl (ob_move rfl) <| .cons rfl (ob_add rfl rfl ⟨by omega, by omega⟩) <| .cons rfl (ob_assign rfl) <| .nil) ?_
          intro a14 w14 m14 hst14 hle14 hk14
          have hfr14 := hk14.fr (T' := [(4, _), (7, _), (1, _), (3, _), (5, _)]) (.old rfl rfl <| .old rfl rfl <| .old rfl rfl <| .old rfl rfl <| .new rfl <| .nil)
          replace hrow_nm_23 := hrow_nm_23.mono hle14
          replace hrow_oq := hrow_oq.mono hle14
          have hlh14 := hlh13.trans hle14
          replace hlq26 := hlq26.trans hle14
          clear hst13 hfr13 hk14
          have hst14 := hst14.take 2
          exact ⟨(y + 1, nm_23o, nm_23p, (nm ++ [x16.name]), oqo, oqp, oq), m14, by show p.effects.length - (y + 1) < p.effects.length - y; omega, ⟨hst14, hlq26, hfr14.sub (.cons rfl <| .cons rfl <| .cons rfl <| .cons rfl <| .nil), ⟨by show y + 1 ≤ p.effects.length; omega, hrow_nm_23, hcap_nm_23, by simp only [List.length_append, List.length_cons, List.length_nil]; omega, hrow_oq, hcap_oq, by show (oq).length ≤ opsN (p.effects.take (y + 1)); rw [ht16, opsN_snoc]; omega⟩⟩⟩
    · try simp only [nq1, nq2, nq3, nq4, nq5, nq6, nq7, nq8, nq9, u8_eq] at hb21
      have hge : y = p.effects.length := by omega
      refine wp_exit ?_
      refine hK9 _ _ ?_; clear hK9
      refine seq_any fun _ hK37 => ?_
      refine rp0 hst7 hfr7 (.cons rfl (ob_assign rfl) <| .nil) ?_
      intro a8 w8 m8 hst8 hle8 hk8
      have hfr8 := hk8.fr (T' := [(4, _), (5, _), (1, _), (3, _)]) (.old rfl rfl <| .old rfl rfl <| .old rfl rfl <| .new rfl <| .nil)
      replace h_p := h_p.mono hle8
      replace hef_p := hef_p.mono hle8
      replace hda_p := hda_p.mono hle8
      replace hpb_p := hpb_p.mono hle8
      replace hkk_pb := hkk_pb.mono hle8
      replace haa_pb := haa_pb.mono hle8
      replace hrr_pb := hrr_pb.mono hle8
      replace hc1 := hc1.mono hle8
      replace hrow_nm := hrow_nm.mono hle8
      replace hrow_op := hrow_op.mono hle8
      have hlh8 := hlh7.trans hle8
      clear hst7 hfr7 hk8
      have hst8 := hst8.more (r := .row (.slice none 0 0) 0 1 9 []) ⟨rfl, .inl ⟨rfl, rfl⟩⟩ List.nodup_nil (by simp [Res.blocks, rowBlock])
      have hrow_nn : RowAt m8 none (([] : List Str).map (fun x => S x)) := .inl rfl; have hcap_nn : ([] : List Str).length ≤ 0 := Nat.le_refl _
      refine hK37 _ _ ?_; clear hK37
      refine seq_any fun _ hK38 => ?_
      refine rp0 hst8 hfr8 (.cons rfl (ob_assign rfl) <| .nil) ?_
      intro a9 w9 m9 hst9 hle9 hk9
      have hfr9 := hk9.fr (T' := [(4, _), (5, _), (1, _), (3, _), (8, _)]) (.old rfl rfl <| .old rfl rfl <| .old rfl rfl <| .old rfl rfl <| .new rfl <| .nil)
      replace h_p := h_p.mono hle9
      replace hef_p := hef_p.mono hle9
      replace hda_p := hda_p.mono hle9
      replace hpb_p := hpb_p.mono hle9
      replace hkk_pb := hkk_pb.mono hle9
      replace haa_pb := haa_pb.mono hle9
      replace hrr_pb := hrr_pb.mono hle9
      replace hc1 := hc1.mono hle9
      replace hrow_nm := hrow_nm.mono hle9
      replace hrow_op := hrow_op.mono hle9
      replace hrow_nn := hrow_nn.mono hle9
      have hlh9 := hlh8.trans hle9
      clear hst8 hfr8 hk9
      have hst9 := hst9.more (r := .row (.slice none 0 0) 0 1 9 []) ⟨rfl, .inl ⟨rfl, rfl⟩⟩ List.nodup_nil (by simp [Res.blocks, rowBlock])
      have hrow_cn : RowAt m9 none (([] : List Str).map (fun x => S x)) := .inl rfl; have hcap_cn : ([] : List Str).length ≤ 0 := Nat.le_refl _
      refine hK38 _ _ ?_; clear hK38
      refine seq_any fun _ hK39 => ?_
      refine seq_any fun _ hK40 => ?_
      refine rp0 hst9 hfr9 (.cons rfl (ob_assign rfl) <| .nil) ?_
      intro a10 w10 m10 hst10 hle10 hk10
      have hfr10 := hk10.fr (T' := [(4, _), (5, _), (1, _), (3, _), (8, _), (9, _)]) (.old rfl rfl <| .old rfl rfl <| .old rfl rfl <| .old rfl rfl <| .old rfl rfl <| .new rfl <| .nil)
      replace h_p := h_p.mono hle10
      replace hef_p := hef_p.mono hle10
      replace hda_p := hda_p.mono hle10
      replace hpb_p := hpb_p.mono hle10
      replace hkk_pb := hkk_pb.mono hle10
      replace haa_pb := haa_pb.mono hle10
      replace hrr_pb := hrr_pb.mono hle10
      replace hc1 := hc1.mono hle10
      replace hrow_nm := hrow_nm.mono hle10
      replace hrow_op := hrow_op.mono hle10
      replace hrow_nn := hrow_nn.mono hle10
      replace hrow_cn := hrow_cn.mono hle10
      have hlh10 := hlh9.trans hle10
      clear hst9 hfr9 hk10
      refine hK40 _ _ ?_; clear hK40
      refine wp_block ?_
      have hlq41 := hlh10
      refine loop_any (T := [(4, _), (5, _), (1, _)]) (fun (y : Nat × Option Addr × Nat × List Str × Option Addr × Nat × List Str) => ([(3, .slice y.2.1 y.2.2.2.1.length y.2.2.1), (8, .slice y.2.2.2.2.1 y.2.2.2.2.2.2.length y.2.2.2.2.2.1), (9, .int .i64 (y.1 : Int))] : List (Nat × Value))) (fun y => [_, _, .row (.slice y.2.1 y.2.2.2.1.length y.2.2.1) y.2.2.2.1.length 1 9 (y.2.2.2.1.map (fun x => S x)), .row (.slice y.2.2.2.2.1 y.2.2.2.2.2.2.length y.2.2.2.2.2.1) y.2.2.2.2.2.2.length 1 9 (y.2.2.2.2.2.2.map (fun x => S x))]) (fun (y : Nat × Option Addr × Nat × List Str × Option Addr × Nat × List Str) m => (fun (y : Nat) (nno : Option Addr) (nnp : Nat) (nn : List Str) (cno : Option Addr) (cnp : Nat) (cn : List Str) => (y ≤ p.datas.length) ∧ (RowAt m nno (nn.map (fun x => S x))) ∧ (nn.length ≤ nnp) ∧ (nn.length ≤ y) ∧ (RowAt m cno (cn.map (fun x => S x))) ∧ (cn.length ≤ cnp) ∧ (cn.length ≤ consN (p.datas.take y))) y.1 y.2.1 y.2.2.1 y.2.2.2.1 y.2.2.2.2.1 y.2.2.2.2.2.1 y.2.2.2.2.2.2) (fun y => p.datas.length - y.1) ((0, none, 0, ([] : List Str), none, 0, ([] : List Str))) ⟨hst10, MLe.refl _, hfr10.sub (.cons rfl <| .cons rfl <| .cons rfl <| .cons rfl <| .cons rfl <| .cons rfl <| .nil), ⟨Nat.zero_le _, hrow_nn, hcap_nn, Nat.le_refl _, hrow_cn, hcap_cn, Nat.zero_le _⟩⟩ fun y a11 w11 m11 hh11 => ?_
      have hst11 := hh11.st; have hle11 := hh11.le; have hfr11 := hh11.fr; have hrel := hh11.rel; clear hh11
      replace h_p := h_p.mono hle11
      replace hef_p := hef_p.mono hle11
      replace hda_p := hda_p.mono hle11
      replace hpb_p := hpb_p.mono hle11
      replace hkk_pb := hkk_pb.mono hle11
      replace haa_pb := haa_pb.mono hle11
      replace hrr_pb := hrr_pb.mono hle11
      replace hc1 := hc1.mono hle11
      replace hrow_nm := hrow_nm.mono hle11
      replace hrow_op := hrow_op.mono hle11
      replace hrow_nn := hrow_nn.mono hle11
      replace hrow_cn := hrow_cn.mono hle11
      clear hst10 hfr10
      obtain ⟨y, nno, nnp, nn, cno, cnp, cn⟩ := y
      dsimp only at hrel hfr11 hst11
      obtain ⟨hyn, hrow_nn, hcap_nn, hlen_nn, hrow_cn, hcap_cn, hlen_cn⟩ := hrel
      have hlh11 := hle11
      refine seq_any fun _ hK42 => ?_
      refine seq_any fun _ hK43 => ?_
      refine rp0 hst11 hfr11 (.cons rfl (ob_move rfl) <| .cons rfl (ob_fieldAddrO (off := 1) rfl Try.underlying35 rfl rfl Try.sizeOf23 rfl) <| .cons rfl (ob_load1 rfl hc1 Try.isAgg23 rfl) <| .cons rfl (ob_len rfl Try.underlying23) <| .cons rfl (ob_lss rfl rfl) <| .nil) ?_
      intro a12 w12 m12 hst12 hle12 hk12
      have hfr12 := hk12.fr (T' := [(3, _), (8, _), (9, _), (4, _), (5, _), (1, _), (107, _)]) (.old rfl rfl <| .old rfl rfl <| .old rfl rfl <| .old rfl rfl <| .old rfl rfl <| .old rfl rfl <| .new rfl <| .nil)
      replace h_p := h_p.mono hle12
      replace hef_p := hef_p.mono hle12
      replace hda_p := hda_p.mono hle12
      replace hpb_p := hpb_p.mono hle12
      replace hkk_pb := hkk_pb.mono hle12
      replace haa_pb := haa_pb.mono hle12
      replace hrr_pb := hrr_pb.mono hle12
      replace hc1 := hc1.mono hle12
      replace hrow_nm := hrow_nm.mono hle12
      replace hrow_op := hrow_op.mono hle12
      replace hrow_nn := hrow_nn.mono hle12
      replace hrow_cn := hrow_cn.mono hle12
      have hlh12 := hlh11.trans hle12
      clear hst11 hfr11 hk12
      refine hK43 _ _ ?_; clear hK43
      refine cond_any hfr12 rfl rfl (fun hb107 => ?_) (fun hb107 => ?_)
      · try simp only [nq1, nq2, nq3, nq4, nq5, nq6, nq7, nq8, nq9, u8_eq] at hb107
        refine wp_skip ?_
        refine hK42 _ _ ?_; clear hK42
        refine seq_any fun _ hK44 => ?_
        refine wp_block ?_
        refine seq_any fun _ hK45 => ?_
        obtain ⟨p46, vs46, x46, ho46, hd46, hm_x46, ht46, hcv46, hl46, hv46⟩ := hda_p.nth (k := y) (by omega)
        cases ho46
        obtain ⟨oF46, cF46, rfl, hfl46⟩ := id hv46
        have hbf46 := hfl46.big; have hcf46 := hfl46.cap
        replace hst12 := hst12.more (r := .free) trivial List.nodup_nil (by simp [Res.blocks])
        refine ra0 (tch := [(5, 4, (fun v => .blk v _)), (6, 4, (fun v => .blk v _))]) hst12 hfr12 (.cons rfl (ob_fieldAddrO (off := 1) rfl Try.underlying35 rfl rfl Try.sizeOf23 rfl) <| .cons rfl (ob_load1 rfl hc1 Try.isAgg23 rfl) <| .cons rfl (ob_move rfl) <| .cons rfl (ob_indexAddr (k := y) rfl rfl Try.underlying23 Try.sizeOf89 rfl (by omega)) <| .cons rfl (ob_loadS' rfl hcv46 Try.isAgg89 Try.sizeOf89 rfl rfl) <| .consT rfl rfl (fun _ => rfl) rfl (ob_allocL Try.zeroValue89 rfl) <| .consT rfl rfl (fun _ => rfl) rfl (ob_imgT 10 rfl rfl rfl fun y10 => ob_storeF rfl rfl rfl rfl rfl Try.sizeOf89 rfl rfl rfl) <| .nil) ?_
        intro a13 w13 m13 hst13 hle13 hk13
        have hfr13 := hk13.fr (T' := [(3, _), (8, _), (9, _), (4, _), (5, _), (1, _)]) (.old rfl rfl <| .old rfl rfl <| .old rfl rfl <| .old rfl rfl <| .old rfl rfl <| .old rfl rfl <| .nil)
        obtain ⟨g47, e47, _⟩ := hk13.ex 10 rfl
        replace hfr13 := hfr13.cons e47
        replace hst13 := hst13.fin (L' := [_, _, _, _, _]) (.cons e47 <| .cons e47 <| .nil)
        replace h_p := h_p.mono hle13
        replace hef_p := hef_p.mono hle13
        replace hda_p := hda_p.mono hle13
        replace hpb_p := hpb_p.mono hle13
        replace hkk_pb := hkk_pb.mono hle13
        replace haa_pb := haa_pb.mono hle13
        replace hrr_pb := hrr_pb.mono hle13
        replace hc1 := hc1.mono hle13
        replace hrow_nm := hrow_nm.mono hle13
        replace hrow_op := hrow_op.mono hle13
        replace hrow_nn := hrow_nn.mono hle13
        replace hrow_cn := hrow_cn.mono hle13
        replace hcv46 := hcv46.mono hle13
        replace hv46 := hv46.mono hle13
        replace hfl46 := hfl46.mono hle13
        have hlh13 := hlh12.trans hle13
        clear hst12 hfr12 hk13
        have ho1 := consN_take p.datas (y + 1)
        rw [ht46, consN_snoc] at ho1
        refine hK45 _ _ ?_; clear hK45
        refine seq_any fun _ hK48 => ?_
        refine seq_any fun _ hK49 => ?_
        have hs_nn : Strs m13 nno (nn).length nnp nn := Strs.of_row (by simpa using hrow_nn) rfl hcap_nn (by omega)
        refine rp0 hst13 hfr13 (.cons rfl (ob_fieldAddrO (off := 0) rfl Try.underlying89 rfl rfl Try.sizeOf9 rfl) <| .cons rfl (ob_loadL (j := 4) rfl rfl Try.isAgg9 rfl) <| .cons rfl (ob_seql rfl rfl) <| .cons rfl (ob_move rfl) <| .cons rfl (ob_fieldAddrO (off := 0) rfl Try.underlying89 rfl rfl Try.sizeOf9 rfl) <| .cons rfl (ob_loadL (j := 4) rfl rfl Try.isAgg9 rfl) <| .cons rfl (ob_seql rfl rfl) <| .cons rfl (ob_or rfl rfl rfl) <| .cons rfl (ob_move rfl) <| .cons rfl (ob_move rfl) <| .cons rfl (ob_fieldAddrO (off := 0) rfl Try.underlying89 rfl rfl Try.sizeOf9 rfl) <| .cons rfl (ob_loadL (j := 4) rfl rfl Try.isAgg9 rfl) <| .cons rfl (ob_callE rfl (.cons rfl <| .cons rfl <| .nil) Try.call15 (fun w m hK => by have hle_ := KC.le hK; have hA := KC.agree hK; have hs_nn := hs_nn.mono hle_; exact in_c hA hs_nn)) <| .cons rfl (ob_or rfl rfl rfl) <| .nil) ?_
        intro a14 w14 m14 hst14 hle14 hk14
        have hfr14 := hk14.fr (T' := [(3, _), (8, _), (9, _), (4, _), (5, _), (1, _), (10, _), (128, _)]) (.old rfl rfl <| .old rfl rfl <| .old rfl rfl <| .old rfl rfl <| .old rfl rfl <| .old rfl rfl <| .old rfl rfl <| .new rfl <| .nil)
        replace h_p := h_p.mono hle14
        replace hef_p := hef_p.mono hle14
        replace hda_p := hda_p.mono hle14
        replace hpb_p := hpb_p.mono hle14
        replace hkk_pb := hkk_pb.mono hle14
        replace haa_pb := haa_pb.mono hle14
        replace hrr_pb := hrr_pb.mono hle14
        replace hc1 := hc1.mono hle14
        replace hrow_nm := hrow_nm.mono hle14
        replace hrow_op := hrow_op.mono hle14
        replace hrow_nn := hrow_nn.mono hle14
        replace hrow_cn := hrow_cn.mono hle14
        replace hcv46 := hcv46.mono hle14
        replace hv46 := hv46.mono hle14
        replace hfl46 := hfl46.mono hle14
        replace hs_nn := hs_nn.mono hle14
        have hlh14 := hlh13.trans hle14
        clear hst13 hfr13 hk14
        refine hK49 _ _ ?_; clear hK49
        refine cond_any hfr14 rfl rfl (fun hb128 => ?_) (fun hb128 => ?_)
        · try simp only [nq1, nq2, nq3, nq4, nq5, nq6, nq7, nq8, nq9, u8_eq] at hb128
          refine seq_any fun _ hK50 => ?_
          refine rp0 hst14 hfr14 (.cons rfl (ob_assign rfl) <| .nil) ?_
          intro a15 w15 m15 hst15 hle15 hk15
          have hfr15 := hk15.fr (T' := [(3, _), (8, _), (9, _), (4, _), (5, _), (2, _)]) (.old rfl rfl <| .old rfl rfl <| .old rfl rfl <| .old rfl rfl <| .old rfl rfl <| .new rfl <| .nil)
          have hlh15 := hlh14.trans hle15
          clear hst14 hfr14 hk15
          refine hK50 _ _ ?_; clear hK50
          refine wp_ret ?_
          repeat (with_reducible first | refine then_ret ?_ | refine block_ret ?_)
          exact fn_ret hst15 hfr15 rfl (.tmp rfl <| .nil) (⟨_, rfl, trivial⟩)
        · try simp only [nq1, nq2, nq3, nq4, nq5, nq6, nq7, nq8, nq9, u8_eq] at hb128
          refine wp_skip ?_
          refine hK48 _ _ ?_; clear hK48
          refine seq_any fun _ hK52 => ?_
          refine ra0 (tch := [(4, 2, (fun v => .row v _ _ _ _))]) hst14 hfr14 (.cons rfl (ob_move rfl) <| .cons rfl (ob_fieldAddrO (off := 0) rfl Try.underlying89 rfl rfl Try.sizeOf9 rfl) <| .cons rfl (ob_loadL (j := 4) rfl rfl Try.isAgg9 rfl) <| .cons rfl (ob_buildSlice (.cons rfl <| .nil) Try.underlying27 Try.sizeOf9 Try.zeroValue9 rfl rfl rfl rfl) <| .consT rfl rfl (fun _ => rfl) rfl (ob_imgT 132 rfl rfl rfl fun y132 => ob_append (size := 1) (bytes := 16) rfl rfl Try.underlying27 Try.type9 rfl rfl rfl rfl (fun w m hK => .inr ⟨_, rfl, hK.2⟩) rfl (by decide) rfl (by simp only [maxLen]; omega) (by omega)) <| .consA 133 rfl rfl <| .nil) ?_
          intro a15 w15 m15 hst15 hle15 hk15
          have hfr15 := hk15.fr (T' := [(8, _), (9, _), (4, _), (5, _), (1, _), (10, _)]) (.old rfl rfl <| .old rfl rfl <| .old rfl rfl <| .old rfl rfl <| .old rfl rfl <| .old rfl rfl <| .nil)
          obtain ⟨⟨nn_53o, nn_53p⟩, e54, hrow_nn_53, hcap_nn_53⟩ := hk15.ex 133 rfl
          replace e54 : envOf a15 133 = .slice nn_53o (nn ++ [x46.name]).length nn_53p := by rw [e54]; refine congrArg (fun q => Value.slice _ q _) ?_; simp only [List.length_append, List.length_cons, List.length_nil]
          replace hfr15 := hfr15.cons (hk15.same 3 rfl e54)
          replace hst15 := hst15.fin (L' := [_, _, _, _, _]) (.cons e54 <| .nil)
          have en_nn_53 : (nn).length + 1 = ((nn ++ [x46.name])).length := by simp only [List.length_append, List.length_cons, List.length_nil]
          have em_nn_53 : (nn).map (fun x => S x) ++ [S x46.name] = ((nn ++ [x46.name])).map (fun x => S x) := by simp only [List.map_append, List.map_cons, List.map_nil]
          replace hst15 := hst15.row_eq (k := 2) rfl en_nn_53 em_nn_53
          simp only [List.set_cons_succ, List.set_cons_zero] at hst15
          change RowAt m15 nn_53o ((nn).map (fun x => S x) ++ [S x46.name]) at hrow_nn_53; rw [em_nn_53] at hrow_nn_53; change (nn).length + 1 ≤ nn_53p at hcap_nn_53; rw [en_nn_53] at hcap_nn_53
          replace h_p := h_p.mono hle15
          replace hef_p := hef_p.mono hle15
          replace hda_p := hda_p.mono hle15
          replace hpb_p := hpb_p.mono hle15
          replace hkk_pb := hkk_pb.mono hle15
          replace haa_pb := haa_pb.mono hle15
          replace hrr_pb := hrr_pb.mono hle15
          replace hc1 := hc1.mono hle15
          replace hrow_nm := hrow_nm.mono hle15
          replace hrow_op := hrow_op.mono hle15
          replace hrow_nn := hrow_nn.mono hle15
          replace hrow_cn := hrow_cn.mono hle15
          replace hcv46 := hcv46.mono hle15
          replace hv46 := hv46.mono hle15
          replace hfl46 := hfl46.mono hle15
          replace hs_nn := hs_nn.mono hle15
          have hlh15 := hlh14.trans hle15
          clear hst14 hfr14 hk15
          refine hK52 _ _ ?_; clear hK52
          refine seq_any fun _ hK55 => ?_
          refine rp0 hst15 hfr15 (.cons rfl (ob_assign rfl) <| .nil) ?_
          intro a16 w16 m16 hst16 hle16 hk16
          have hfr16 := hk16.fr (T' := [(8, _), (9, _), (4, _), (5, _), (1, _), (10, _), (3, _), (11, _)]) (.old rfl rfl <| .old rfl rfl <| .old rfl rfl <| .old rfl rfl <| .old rfl rfl <| .old rfl rfl <| .old rfl rfl <| .new rfl <| .nil)
          replace h_p := h_p.mono hle16
          replace hef_p := hef_p.mono hle16
          replace hda_p := hda_p.mono hle16
          replace hpb_p := hpb_p.mono hle16
          replace hkk_pb := hkk_pb.mono hle16
          replace haa_pb := haa_pb.mono hle16
          replace hrr_pb := hrr_pb.mono hle16
          replace hc1 := hc1.mono hle16
          replace hrow_nm := hrow_nm.mono hle16
          replace hrow_op := hrow_op.mono hle16
          replace hrow_nn := hrow_nn.mono hle16
          replace hrow_cn := hrow_cn.mono hle16
          replace hcv46 := hcv46.mono hle16
          replace hv46 := hv46.mono hle16
          replace hfl46 := hfl46.mono hle16
          replace hs_nn := hs_nn.mono hle16
          replace hrow_nn_53 := hrow_nn_53.mono hle16
          have hlh16 := hlh15.trans hle16
          clear hst15 hfr15 hk16
          refine hK55 _ _ ?_; clear hK55
          refine wp_block ?_
          have hlq56 := hlh16
          refine loop_any (T := [(9, _), (4, _), (5, _), (1, _), (10, _), (3, _)]) (fun (k : Nat × Option Addr × Nat × List Str) => ([(8, .slice k.2.1 k.2.2.2.length k.2.2.1), (11, .int .i64 (k.1 : Int))] : List (Nat × Value))) (fun k => [_, _, _, .row (.slice k.2.1 k.2.2.2.length k.2.2.1) k.2.2.2.length 1 9 (k.2.2.2.map (fun x => S x)), _]) (fun (k : Nat × Option Addr × Nat × List Str) m => (fun (k : Nat) (cqo : Option Addr) (cqp : Nat) (cq : List Str) => (k ≤ x46.cons.length) ∧ (RowAt m cqo (cq.map (fun x => S x))) ∧ (cq.length ≤ cqp) ∧ (cq.length ≤ consN (p.datas.take y) + k)) k.1 k.2.1 k.2.2.1 k.2.2.2) (fun k => x46.cons.length - k.1) ((0, cno, cnp, cn)) ⟨hst16, MLe.refl _, hfr16.sub (.cons rfl <| .cons rfl <| .cons rfl <| .cons rfl <| .cons rfl <| .cons rfl <| .cons rfl <| .cons rfl <| .nil), ⟨Nat.zero_le _, hrow_cn, hcap_cn, hlen_cn⟩⟩ fun k a17 w17 m17 hh17 => ?_
          have hst17 := hh17.st; have hle17 := hh17.le; have hfr17 := hh17.fr; have hrel := hh17.rel; clear hh17
          replace h_p := h_p.mono hle17
          replace hef_p := hef_p.mono hle17
          replace hda_p := hda_p.mono hle17
          replace hpb_p := hpb_p.mono hle17
          replace hkk_pb := hkk_pb.mono hle17
          replace haa_pb := haa_pb.mono hle17
          replace hrr_pb := hrr_pb.mono hle17
          replace hc1 := hc1.mono hle17
          replace hrow_nm := hrow_nm.mono hle17
          replace hrow_op := hrow_op.mono hle17
          replace hrow_nn := hrow_nn.mono hle17
          replace hrow_cn := hrow_cn.mono hle17
          replace hcv46 := hcv46.mono hle17
          replace hv46 := hv46.mono hle17
          replace hfl46 := hfl46.mono hle17
          replace hs_nn := hs_nn.mono hle17
          replace hrow_nn_53 := hrow_nn_53.mono hle17
          clear hst16 hfr16
          obtain ⟨k, cqo, cqp, cq⟩ := k
          dsimp only at hrel hfr17 hst17
          obtain ⟨hkn, hrow_cq, hcap_cq, hlen_cq⟩ := hrel
          replace hlq56 := hlq56.trans hle17
          have hlh17 := hle17
          refine seq_any fun _ hK57 => ?_
          refine seq_any fun _ hK58 => ?_
          refine rp0 hst17 hfr17 (.cons rfl (ob_move rfl) <| .cons rfl (ob_fieldAddrO (off := 1) rfl Try.underlying89 rfl rfl Try.sizeOf87 rfl) <| .cons rfl (ob_loadL (j := 4) rfl rfl Try.isAgg87 rfl) <| .cons rfl (ob_len rfl Try.underlying87) <| .cons rfl (ob_lss rfl rfl) <| .nil) ?_
          intro a18 w18 m18 hst18 hle18 hk18
          have hfr18 := hk18.fr (T' := [(8, _), (11, _), (9, _), (4, _), (5, _), (1, _), (10, _), (3, _), (138, _)]) (.old rfl rfl <| .old rfl rfl <| .old rfl rfl <| .old rfl rfl <| .old rfl rfl <| .old rfl rfl <| .old rfl rfl <| .old rfl rfl <| .new rfl <| .nil)
          replace h_p := h_p.mono hle18
          replace hef_p := hef_p.mono hle18
          replace hda_p := hda_p.mono hle18
          replace hpb_p := hpb_p.mono hle18
          replace hkk_pb := hkk_pb.mono hle18
          replace haa_pb := haa_pb.mono hle18
          replace hrr_pb := hrr_pb.mono hle18
          replace hc1 := hc1.mono hle18
          replace hrow_nm := hrow_nm.mono hle18
          replace hrow_op := hrow_op.mono hle18
          replace hrow_nn := hrow_nn.mono hle18
          replace hrow_cn := hrow_cn.mono hle18
          replace hcv46 := hcv46.mono hle18
          replace hv46 := hv46.mono hle18
          replace hfl46 := hfl46.mono hle18
          replace hs_nn := hs_nn.mono hle18
          replace hrow_nn_53 := hrow_nn_53.mono hle18
          replace hrow_cq := hrow_cq.mono hle18
          have hlh18 := hlh17.trans hle18
          replace hlq56 := hlq56.trans hle18
          clear hst17 hfr17 hk18
          refine hK58 _ _ ?_; clear hK58
          refine cond_any hfr18 rfl rfl (fun hb138 => ?_) (fun hb138 => ?_)
          · try simp only [nq1, nq2, nq3, nq4, nq5, nq6, nq7, nq8, nq9, u8_eq] at hb138
            refine wp_skip ?_
            refine hK57 _ _ ?_; clear hK57
            refine seq_any fun _ hK59 => ?_
            refine wp_block ?_
            refine seq_any fun _ hK60 => ?_
            refine seq_any fun _ hK61 => ?_
            have hs_cn : Strs m18 cqo (cq).length cqp cq := Strs.of_row (by simpa using hrow_cq) rfl hcap_cq (by omega)
            obtain ⟨p62, vs62, x62, ho62, hd62, hm_x62, ht62, hcv62, hl62, hv62⟩ := hfl46.nth (k := k) (by omega)
            cases ho62
            obtain ⟨oF62, cF62, rfl, hfl62⟩ := id hv62
            have hbf62 := hfl62.big; have hcf62 := hfl62.cap
            refine rp0 hst18 hfr18 (.cons rfl (ob_fieldAddrO (off := 1) rfl Try.underlying89 rfl rfl Try.sizeOf87 rfl) <| .cons rfl (ob_loadL (j := 4) rfl rfl Try.isAgg87 rfl) <| .cons rfl (ob_move rfl) <| .cons rfl (ob_indexAddr (k := k) rfl rfl Try.underlying87 Try.sizeOf91 rfl (by omega)) <| .cons rfl (ob_fieldAddrO (off := 0) rfl Try.underlying91 rfl rfl Try.sizeOf9 rfl) <| .cons rfl (ob_load1 rfl hcv62 Try.isAgg9 rfl) <| .cons rfl (ob_seql rfl rfl) <| .cons rfl (ob_move rfl) <| .cons rfl (ob_move rfl) <| .cons rfl (ob_fieldAddrO (off := 1) rfl Try.underlying89 rfl rfl Try.sizeOf87 rfl) <| .cons rfl (ob_loadL (j := 4) rfl rfl Try.isAgg87 rfl) <| .cons rfl (ob_move rfl) <| .cons rfl (ob_indexAddr (k := k) rfl rfl Try.underlying87 Try.sizeOf91 rfl (by omega)) <| .cons rfl (ob_fieldAddrO (off := 0) rfl Try.underlying91 rfl rfl Try.sizeOf9 rfl) <| .cons rfl (ob_load1 rfl hcv62 Try.isAgg9 rfl) <| .cons rfl (ob_callE rfl (.cons rfl <| .cons rfl <| .nil) Try.call15 (fun w m hK => by have hle_ := KC.le hK; have hA := KC.agree hK; have hs_cn := hs_cn.mono hle_; exact in_c hA hs_cn)) <| .cons rfl (ob_or rfl rfl rfl) <| .nil) ?_
            intro a19 w19 m19 hst19 hle19 hk19
            have hfr19 := hk19.fr (T' := [(8, _), (11, _), (9, _), (4, _), (5, _), (1, _), (10, _), (3, _), (157, _)]) (.old rfl rfl <| .old rfl rfl <| .old rfl rfl <| .old rfl rfl <| .old rfl rfl <| .old rfl rfl <| .old rfl rfl <| .old rfl rfl <| .new rfl <| .nil)
            replace h_p := h_p.mono hle19
            replace hef_p := hef_p.mono hle19
            replace hda_p := hda_p.mono hle19
            replace hpb_p := hpb_p.mono hle19
            replace hkk_pb := hkk_pb.mono hle19
            replace haa_pb := haa_pb.mono hle19
            replace hrr_pb := hrr_pb.mono hle19
            replace hc1 := hc1.mono hle19
            replace hrow_nm := hrow_nm.mono hle19
            replace hrow_op := hrow_op.mono hle19
            replace hrow_nn := hrow_nn.mono hle19
            replace hrow_cn := hrow_cn.mono hle19
            replace hcv46 := hcv46.mono hle19
            replace hv46 := hv46.mono hle19
            replace hfl46 := hfl46.mono hle19
            replace hs_nn := hs_nn.mono hle19
            replace hrow_nn_53 := hrow_nn_53.mono hle19
            replace hrow_cq := hrow_cq.mono hle19
            replace hs_cn := hs_cn.mono hle19
            replace hcv62 := hcv62.mono hle19
            replace hv62 := hv62.mono hle19
            replace hfl62 := hfl62.mono hle19
            have hlh19 := hlh18.trans hle19
            clear hst18 hfr18 hk19
            refine hK61 _ _ ?_; clear hK61
            refine cond_any hfr19 rfl rfl (fun hb157 => ?_) (fun hb157 => ?_)
            · try simp only [nq1, nq2, nq3, nq4, nq5, nq6, nq7, nq8, nq9, u8_eq] at hb157
              refine seq_any fun _ hK63 => ?_
              refine rp0 hst19 hfr19 (.cons rfl (ob_assign rfl) <| .nil) ?_
              intro a20 w20 m20 hst20 hle20 hk20
              have hfr20 := hk20.fr (T' := [(8, _), (11, _), (9, _), (4, _), (5, _), (3, _), (2, _)]) (.old rfl rfl <| .old rfl rfl <| .old rfl rfl <| .old rfl rfl <| .old rfl rfl <| .old rfl rfl <| .new rfl <| .nil)
              have hlh20 := hlh19.trans hle20
              clear hst19 hfr19 hk20
              refine hK63 _ _ ?_; clear hK63
              refine wp_ret ?_
              repeat (with_reducible first | refine then_ret ?_ | refine block_ret ?_)
              exact fn_ret hst20 hfr20 rfl (.tmp rfl <| .nil) (⟨_, rfl, trivial⟩)
            · try simp only [nq1, nq2, nq3, nq4, nq5, nq6, nq7, nq8, nq9, u8_eq] at hb157
              refine wp_skip ?_
              refine hK60 _ _ ?_; clear hK60
              refine seq_any fun _ hK65 => ?_
              refine ra0 (tch := [(8, 3, (fun v => .row v _ _ _ _))]) hst19 hfr19 (.cons rfl (ob_move rfl) <| .cons rfl (ob_fieldAddrO (off := 1) rfl Try.underlying89 rfl rfl Try.sizeOf87 rfl) <| .cons rfl (ob_loadL (j := 4) rfl rfl Try.isAgg87 rfl) <| .cons rfl (ob_move rfl) <| .cons rfl (ob_indexAddr (k := k) rfl rfl Try.underlying87 Try.sizeOf91 rfl (by omega)) <| .cons rfl (ob_fieldAddrO (off := 0) rfl Try.underlying91 rfl rfl Try.sizeOf9 rfl) <| .cons rfl (ob_load1 rfl hcv62 Try.isAgg9 rfl) <| .cons rfl (ob_buildSlice (.cons rfl <| .nil) Try.underlying27 Try.sizeOf9 Try.zeroValue9 rfl rfl rfl rfl) <| .consT rfl rfl (fun _ => rfl) rfl (ob_imgT 165 rfl rfl rfl fun y165 => ob_append (size := 1) (bytes := 16) rfl rfl Try.underlying27 Try.type9 rfl rfl rfl rfl (fun w m hK => .inr ⟨_, rfl, hK.2⟩) rfl (by decide) rfl (by simp only [maxLen]; omega) (by omega)) <| .consA 166 rfl rfl <| .nil) ?_
              intro a20 w20 m20 hst20 hle20 hk20
              have hfr20 := hk20.fr (T' := [(11, _), (9, _), (4, _), (5, _), (1, _), (10, _), (3, _)]) (.old rfl rfl <| .old rfl rfl <| .old rfl rfl <| .old rfl rfl <| .old rfl rfl <| .old rfl rfl <| .old rfl rfl <| .nil)
              obtain ⟨⟨cn_66o, cn_66p⟩, e67, hrow_cn_66, hcap_cn_66⟩ := hk20.ex 166 rfl
              replace e67 : envOf a20 166 = .slice cn_66o (cq ++ [x62.name]).length cn_66p := by rw [e67]; refine congrArg (fun q => Value.slice _ q _) ?_; simp only [List.length_append, List.length_cons, List.length_nil]
              replace hfr20 := hfr20.cons (hk20.same 8 rfl e67)
              replace hst20 := hst20.fin (L' := [_, _, _, _, _]) (.cons e67 <| .nil)
              have en_cn_66 : (cq).length + 1 = ((cq ++ [x62.name])).length := by simp only [List.length_append, List.length_cons, List.length_nil]
              have em_cn_66 : (cq).map (fun x => S x) ++ [S x62.name] = ((cq ++ [x62.name])).map (fun x => S x) := by simp only [List.map_append, List.map_cons, List.map_nil]
              replace hst20 := hst20.row_eq (k := 3) rfl en_cn_66 em_cn_66
              simp only [List.set_cons_succ, List.set_cons_zero] at hst20
              change RowAt m20 cn_66o ((cq).map (fun x => S x) ++ [S x62.name]) at hrow_cn_66; rw [em_cn_66] at hrow_cn_66; change (cq).length + 1 ≤ cn_66p at hcap_cn_66; rw [en_cn_66] at hcap_cn_66
              replace h_p := h_p.mono hle20
              replace hef_p := hef_p.mono hle20
              replace hda_p := hda_p.mono hle20
              replace hpb_p := hpb_p.mono hle20
              replace hkk_pb := hkk_pb.mono hle20
              replace haa_pb := haa_pb.mono hle20
              replace hrr_pb := hrr_pb.mono hle20
              replace hc1 := hc1.mono hle20
              replace hrow_nm := hrow_nm.mono hle20
              replace hrow_op := hrow_op.mono hle20
              replace hrow_nn := hrow_nn.mono hle20
              replace hrow_cn := hrow_cn.mono hle20
              replace hcv46 := hcv46.mono hle20
              replace hv46 := hv46.mono hle20
              replace hfl46 := hfl46.mono hle20
              replace hs_nn := hs_nn.mono hle20
              replace hrow_nn_53 := hrow_nn_53.mono hle20
              replace hrow_cq := hrow_cq.mono hle20
              replace hs_cn := hs_cn.mono hle20
              replace hcv62 := hcv62.mono hle20
              replace hv62 := hv62.mono hle20
              replace hfl62 := hfl62.mono hle20
              have hlh20 := hlh19.trans hle20
              clear hst19 hfr19 hk20
              refine hK65 _ _ ?_; clear hK65
              refine seq_any fun _ hK68 => ?_
              refine rp0 hst20 hfr20 (.cons rfl (ob_assign rfl) <| .nil) ?_
              intro a21 w21 m21 hst21 hle21 hk21
              have hfr21 := hk21.fr (T' := [(11, _), (9, _), (4, _), (5, _), (1, _), (10, _), (3, _), (8, _), (12, _)]) (.old rfl rfl <| .old rfl rfl <| .old rfl rfl <| .old rfl rfl <| .old rfl rfl <| .old rfl rfl <| .old rfl rfl <| .old rfl rfl <| .new rfl <| .nil)
              replace h_p := h_p.mono hle21
              replace hef_p := hef_p.mono hle21
              replace hda_p := hda_p.mono hle21
              replace hpb_p := hpb_p.mono hle21
              replace hkk_pb := hkk_pb.mono hle21
              replace haa_pb := haa_pb.mono hle21
              replace hrr_pb := hrr_pb.mono hle21
              replace hc1 := hc1.mono hle21
              replace hrow_nm := hrow_nm.mono hle21
              replace hrow_op := hrow_op.mono hle21
              replace hrow_nn := hrow_nn.mono hle21
              replace hrow_cn := hrow_cn.mono hle21
              replace hcv46 := hcv46.mono hle21
              replace hv46 := hv46.mono hle21
              replace hfl46 := hfl46.mono hle21
              replace hs_nn := hs_nn.mono hle21
              replace hrow_nn_53 := hrow_nn_53.mono hle21
              replace hrow_cq := hrow_cq.mono hle21
              replace hs_cn := hs_cn.mono hle21
              replace hcv62 := hcv62.mono hle21
              replace hv62 := hv62.mono hle21
              replace hfl62 := hfl62.mono hle21
              replace hrow_cn_66 := hrow_cn_66.mono hle21
              have hlh21 := hlh20.trans hle21
              clear hst20 hfr20 hk21
              refine hK68 _ _ ?_; clear hK68
              refine wp_block ?_
              have hlq69 := hlh21
              refine loop_any (T := [(11, _), (9, _), (4, _), (5, _), (1, _), (10, _), (3, _), (8, _)]) (fun (j : Nat) => ([(12, .int .i64 (j : Int))] : List (Nat × Value))) (fun _ => _) (fun (j : Nat) m => (j ≤ x62.fields.length)) (fun j => x62.fields.length - j) (0) ⟨hst21, MLe.refl _, hfr21.sub (.cons rfl <| .cons rfl <| .cons rfl <| .cons rfl <| .cons rfl <| .cons rfl <| .cons rfl <| .cons rfl <| .cons rfl <| .nil), Nat.zero_le _⟩ fun j a22 w22 m22 hh22 => ?_
              have hst22 := hh22.st; have hle22 := hh22.le; have hfr22 := hh22.fr; have hrel := hh22.rel; clear hh22
              replace h_p := h_p.mono hle22
              replace hef_p := hef_p.mono hle22
              replace hda_p := hda_p.mono hle22
              replace hpb_p := hpb_p.mono hle22
              replace hkk_pb := hkk_pb.mono hle22
              replace haa_pb := haa_pb.mono hle22
              replace hrr_pb := hrr_pb.mono hle22
              replace hc1 := hc1.mono hle22
              replace hrow_nm := hrow_nm.mono hle22
              replace hrow_op := hrow_op.mono hle22
              replace hrow_nn := hrow_nn.mono hle22
              replace hrow_cn := hrow_cn.mono hle22
              replace hcv46 := hcv46.mono hle22
              replace hv46 := hv46.mono hle22
              replace hfl46 := hfl46.mono hle22
              replace hs_nn := hs_nn.mono hle22
              replace hrow_nn_53 := hrow_nn_53.mono hle22
              replace hrow_cq := hrow_cq.mono hle22
              replace hs_cn := hs_cn.mono hle22
              replace hcv62 := hcv62.mono hle22
              replace hv62 := hv62.mono hle22
              replace hfl62 := hfl62.mono hle22
              replace hrow_cn_66 := hrow_cn_66.mono hle22
              clear hst21 hfr21
              have hjn := hrel
              replace hlq69 := hlq69.trans hle22
              have hlh22 := hle22
              refine seq_any fun _ hK70 => ?_
              refine seq_any fun _ hK71 => ?_
              refine rp0 hst22 hfr22 (.cons rfl (ob_move rfl) <| .cons rfl (ob_fieldAddrO (off := 1) rfl Try.underlying89 rfl rfl Try.sizeOf87 rfl) <| .cons rfl (ob_loadL (j := 4) rfl rfl Try.isAgg87 rfl) <| .cons rfl (ob_move rfl) <| .cons rfl (ob_indexAddr (k := k) rfl rfl Try.underlying87 Try.sizeOf91 rfl (by omega)) <| .cons rfl (ob_fieldAddrO (off := 1) rfl Try.underlying91 rfl rfl Try.sizeOf26 rfl) <| .cons rfl (ob_load1 rfl hcv62 Try.isAgg26 rfl) <| .cons rfl (ob_len rfl Try.underlying26) <| .cons rfl (ob_lss rfl rfl) <| .nil) ?_
              intro a23 w23 m23 hst23 hle23 hk23
              have hfr23 := hk23.fr (T' := [(12, _), (11, _), (9, _), (4, _), (5, _), (1, _), (10, _), (3, _), (8, _), (175, _)]) (.old rfl rfl <| .old rfl rfl <| .old rfl rfl <| .old rfl rfl <| .old rfl rfl <| .old rfl rfl <| .old rfl rfl <| .old rfl rfl <| .old rfl rfl <| .new rfl <| .nil)
              replace h_p := h_p.mono hle23
              replace hef_p := hef_p.mono hle23
              replace hda_p := hda_p.mono hle23
              replace hpb_p := hpb_p.mono hle23
              replace hkk_pb := hkk_pb.mono hle23
              replace haa_pb := haa_pb.mono hle23
              replace hrr_pb := hrr_pb.mono hle23
              replace hc1 := hc1.mono hle23
              replace hrow_nm := hrow_nm.mono hle23
              replace hrow_op := hrow_op.mono hle23
              replace hrow_nn := hrow_nn.mono hle23
              replace hrow_cn := hrow_cn.mono hle23
              replace hcv46 := hcv46.mono hle23
              replace hv46 := hv46.mono hle23
              replace hfl46 := hfl46.mono hle23
              replace hs_nn := hs_nn.mono hle23
              replace hrow_nn_53 := hrow_nn_53.mono hle23
              replace hrow_cq := hrow_cq.mono hle23
              replace hs_cn := hs_cn.mono hle23
              replace hcv62 := hcv62.mono hle23
              replace hv62 := hv62.mono hle23
              replace hfl62 := hfl62.mono hle23
              replace hrow_cn_66 := hrow_cn_66.mono hle23
              have hlh23 := hlh22.trans hle23
              replace hlq69 := hlq69.trans hle23
              clear hst22 hfr22 hk23
              refine hK71 _ _ ?_; clear hK71
              refine cond_any hfr23 rfl rfl (fun hb175 => ?_) (fun hb175 => ?_)
              · try simp only [nq1, nq2, nq3, nq4, nq5, nq6, nq7, nq8, nq9, u8_eq] at hb175
                refine wp_skip ?_
                refine hK70 _ _ ?_; clear hK70
                refine seq_any fun _ hK72 => ?_
                refine wp_block ?_
                refine seq_any fun _ hK73 => ?_
                obtain ⟨p74, vs74, x74, ho74, hd74, hm_x74, ht74, hcv74, hl74, hv74⟩ := hfl62.nth (k := j) (by omega)
                cases ho74
                obtain ⟨o74, c74, oL74, cL74, rfl, hkd74, hs74, hi74, hj74, hr74⟩ := hv74.open_
                have hbg74 := hkd74.big; have hcp74 := hkd74.cap; have hbs74 := hs74.big; have hcs74 := hs74.cap
                have hrw74 : RwR _ ⟨x74.labels, x74.rv⟩ _ := ⟨_, _, rfl, hs74, hr74⟩
                refine region_plain (fun _ => mixed) hst23 hfr23 (by kernel_rfl) (by kernel_rfl) (.cons rfl (ob_loadS' rfl hc1 Try.isAgg35 Try.sizeOf35 rfl rfl) <| .cons rfl (ob_fieldAddrO (off := 1) rfl Try.underlying89 rfl rfl Try.sizeOf87 rfl) <| .cons rfl (ob_loadL (j := 4) rfl rfl Try.isAgg87 rfl) <| .cons rfl (ob_move rfl) <| .cons rfl (ob_indexAddr (k := k) rfl rfl Try.underlying87 Try.sizeOf91 rfl (by omega)) <| .cons rfl (ob_fieldAddrO (off := 1) rfl Try.underlying91 rfl rfl Try.sizeOf26 rfl) <| .cons rfl (ob_load1 rfl hcv62 Try.isAgg26 rfl) <| .cons rfl (ob_move rfl) <| .cons rfl (ob_indexAddr (k := j) rfl rfl Try.underlying26 Try.sizeOf31 rfl (by omega)) <| .cons rfl (ob_loadS' rfl hcv74 Try.isAgg31 Try.sizeOf31 rfl rfl) <| .cons rfl (ob_callE rfl (.cons rfl <| .cons rfl <| .nil) Try.call50 (fun w m hK => by have hle_ := KC.le hK; have hA := KC.agree hK; have h_p := h_p.mono hle_; have hef_p := hef_p.mono hle_; have hda_p := hda_p.mono hle_; have hpb_p := hpb_p.mono hle_; have hkk_pb := hkk_pb.mono hle_; have haa_pb := haa_pb.mono hle_; have hrr_pb := hrr_pb.mono hle_; have hc1 := hc1.mono hle_; have hrow_nm := hrow_nm.mono hle_; have hrow_op := hrow_op.mono hle_; have hrow_nn := hrow_nn.mono hle_; have hrow_cn := hrow_cn.mono hle_; have hcv46 := hcv46.mono hle_; have hv46 := hv46.mono hle_; have hfl46 := hfl46.mono hle_; have hs_nn := hs_nn.mono hle_; have hrow_nn_53 := hrow_nn_53.mono hle_; have hrow_cq := hrow_cq.mono hle_; have hs_cn := hs_cn.mono hle_; have hcv62 := hcv62.mono hle_; have hv62 := hv62.mono hle_; have hfl62 := hfl62.mono hle_; have hrow_cn_66 := hrow_cn_66.mono hle_; have hcv74 := hcv74.mono hle_; have hv74 := hv74.mono hle_; have hkd74 := hkd74.mono hle_; have hs74 := hs74.mono hle_; have hrw74 := hrw74.mono hle_; exact first_c hA h_p (by assumption))) <| .cons rfl (ob_not rfl) <| .nil) ?_
                intro a24 w24 m24 hst24 hle24 hk24
                have hfr24 := hk24.fr (T' := [(12, _), (11, _), (9, _), (4, _), (5, _), (1, _), (10, _), (3, _), (8, _), (189, _)]) (.old rfl rfl <| .old rfl rfl <| .old rfl rfl <| .old rfl rfl <| .old rfl rfl <| .old rfl rfl <| .old rfl rfl <| .old rfl rfl <| .old rfl rfl <| .new rfl <| .nil)
                have hlh24 := hlh23.trans hle24
                clear hst23 hfr23 hk24
                refine hK73 _ _ ?_; clear hK73
                refine cond_any hfr24 rfl rfl (fun hb189 => ?_) (fun hb189 => ?_)
                · try simp only [nq1, nq2, nq3, nq4, nq5, nq6, nq7, nq8, nq9, u8_eq] at hb189
                  refine seq_any fun _ hK75 => ?_
                  refine rp0 hst24 hfr24 (.cons rfl (ob_assign rfl) <| .nil) ?_
                  intro a25 w25 m25 hst25 hle25 hk25
                  have hfr25 := hk25.fr (T' := [(12, _), (11, _), (9, _), (4, _), (5, _), (3, _), (8, _), (2, _)]) (.old rfl rfl <| .old rfl rfl <| .old rfl rfl <| .old rfl rfl <| .old rfl rfl <| .old rfl rfl <| .old rfl rfl <| .new rfl <| .nil)
                  have hlh25 := hlh24.trans hle25
                  clear hst24 hfr24 hk25
                  refine hK75 _ _ ?_; clear hK75
                  refine wp_ret ?_
                  repeat (with_reducible first | refine then_ret ?_ | refine block_ret ?_)
                  exact fn_ret hst25 hfr25 rfl (.tmp rfl <| .nil) (⟨_, rfl, trivial⟩)
                · try simp only [nq1, nq2, nq3, nq4, nq5, nq6, nq7, nq8, nq9, u8_eq] at hb189
                  refine wp_skip ?_
                  refine hK72 _ _ ?_; clear hK72
                  refine rp0 hst24 hfr24 (.cons rfl (ob_move rfl) <| .cons rfl (ob_add rfl rfl ⟨by omega, by omega⟩) <| .cons rfl (ob_assign rfl) <| .nil) ?_
                  intro a25 w25 m25 hst25 hle25 hk25
                  have hfr25 := hk25.fr (T' := [(11, _), (9, _), (4, _), (5, _), (1, _), (10, _), (3, _), (8, _), (12, _)]) (.old rfl rfl <| .old rfl rfl <| .old rfl rfl <| .old rfl rfl <| .old rfl rfl <| .old rfl rfl <| .old rfl rfl <| .old rfl rfl <| .new rfl <| .nil)
                  have hlh25 := hlh24.trans hle25
                  clear hst24 hfr24 hk25
                  exact ⟨j + 1, m25, by show x62.fields.length - (j + 1) < x62.fields.length - j; omega, ⟨hst25, hlh25, hfr25.sub (.cons rfl <| .cons rfl <| .cons rfl <| .cons rfl <| .cons rfl <| .cons rfl <| .cons rfl <| .cons rfl <| .cons rfl <| .nil), by show j + 1 ≤ x62.fields.length; omega⟩⟩
              · try simp only [nq1, nq2, nq3, nq4, nq5, nq6, nq7, nq8, nq9, u8_eq] at hb175
                have hgej : j = x62.fields.length := by omega
                refine wp_exit ?_
                refine hK59 _ _ ?_; clear hK59
                refine rp0 hst23 hfr23 (.cons rfl (ob_move rfl) <| .cons rfl (ob_add rfl rfl ⟨by omega, by omega⟩) <| .cons rfl (ob_assign rfl) <| .nil) ?_
                intro a24 w24 m24 hst24 hle24 hk24
                have hfr24 := hk24.fr (T' := [(12, _), (9, _), (4, _), (5, _), (1, _), (10, _), (3, _), (8, _), (11, _)]) (.old rfl rfl <| .old rfl rfl <| .old rfl rfl <| .old rfl rfl <| .old rfl rfl <| .old rfl rfl <| .old rfl rfl <| .old rfl rfl <| .new rfl <| .nil)
                replace hrow_cn_66 := hrow_cn_66.mono hle24
                have hlh24 := hlh23.trans hle24
                replace hlq69 := hlq69.trans hle24
                clear hst23 hfr23 hk24
                exact ⟨(k + 1, cn_66o, cn_66p, (cq ++ [x62.name])), m24, by show x46.cons.length - (k + 1) < x46.cons.length - k; omega, ⟨hst24, hlq69, hfr24.sub (.cons rfl <| .cons rfl <| .cons rfl <| .cons rfl <| .cons rfl <| .cons rfl <| .cons rfl <| .cons rfl <| .nil), ⟨by show k + 1 ≤ x46.cons.length; omega, hrow_cn_66, hcap_cn_66, by simp only [List.length_append, List.length_cons, List.length_nil]; omega⟩⟩⟩
          · try simp only [nq1, nq2, nq3, nq4, nq5, nq6, nq7, nq8, nq9, u8_eq] at hb138
            have hgek : k = x46.cons.length := by omega
            refine wp_exit ?_
            refine hK44 _ _ ?_; clear hK44
            refine rp0 hst18 hfr18 (.cons rfl (ob_move rfl) <| .cons rfl (ob_add rfl rfl ⟨by omega, by omega⟩) <| .cons rfl (ob_assign rfl) <| .nil) ?_
            intro a19 w19 m19 hst19 hle19 hk19
            have hfr19 := hk19.fr (T' := [(8, _), (11, _), (4, _), (5, _), (1, _), (3, _), (9, _)]) (.old rfl rfl <| .old rfl rfl <| .old rfl rfl <| .old rfl rfl <| .old rfl rfl <| .old rfl rfl <| .new rfl <| .nil)
            replace hrow_nn_53 := hrow_nn_53.mono hle19
            replace hrow_cq := hrow_cq.mono hle19
            have hlh19 := hlh18.trans hle19
            replace hlq56 := hlq56.trans hle19
            clear hst18 hfr18 hk19
            have hst19 := hst19.take 4
            exact ⟨(y + 1, nn_53o, nn_53p, (nn ++ [x46.name]), cqo, cqp, cq), m19, by show p.datas.length - (y + 1) < p.datas.length - y; omega, ⟨hst19, hlq56, hfr19.sub (.cons rfl <| .cons rfl <| .cons rfl <| .cons rfl <| .cons rfl <| .cons rfl <| .nil), ⟨by show y + 1 ≤ p.datas.length; omega, hrow_nn_53, hcap_nn_53, by simp only [List.length_append, List.length_cons, List.length_nil]; omega, hrow_cq, hcap_cq, by show (cq).length ≤ consN (p.datas.take (y + 1)); rw [ht46, consN_snoc]; omega⟩⟩⟩
      · try simp only [nq1, nq2, nq3, nq4, nq5, nq6, nq7, nq8, nq9, u8_eq] at hb107
        have hge : y = p.datas.length := by omega
        refine wp_exit ?_
        refine hK39 _ _ ?_; clear hK39
        refine seq_any fun _ hK77 => ?_
        refine rp0 hst12 hfr12 (.cons rfl (ob_assign rfl) <| .nil) ?_
        intro a13 w13 m13 hst13 hle13 hk13
        have hfr13 := hk13.fr (T' := [(3, _), (8, _), (9, _), (4, _), (5, _), (2, _)]) (.old rfl rfl <| .old rfl rfl <| .old rfl rfl <| .old rfl rfl <| .old rfl rfl <| .new rfl <| .nil)
        have hlh13 := hlh12.trans hle13
        clear hst12 hfr12 hk13
        refine hK77 _ _ ?_; clear hK77
        refine wp_ret ?_
        repeat (with_reducible first | refine then_ret ?_ | refine block_ret ?_)
        exact fn_ret hst13 hfr13 rfl (.tmp rfl <| .nil) (⟨_, rfl, trivial⟩)

end Go.Proofs.Ytppmbhjacjmfkaa
