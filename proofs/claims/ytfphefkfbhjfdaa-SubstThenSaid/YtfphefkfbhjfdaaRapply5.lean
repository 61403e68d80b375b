/-
  brocaderef05: what is said is put in the stead of variables, as the document has it. Conditions: those of each theorem.
-/
import Derived.Test.YtfphefkfbhjfdaaGood5
namespace Go.Proofs.Ytfphefkfbhjfdaa
set_option linter.all false
set_option maxRecDepth 4000
open Go.RowKit
theorem idx_look {α : Type} (n : Int) : ∀ (l : List (Int × α)) (i : Nat), (idxA i (l.map Prod.fst) n < 0 ∧ alook n l = none) ∨ ∃ (k : Nat) (p : Int × α), idxA i (l.map Prod.fst) n = ((i + k : Nat) : Int) ∧ l[k]? = some p ∧ alook n l = some p.2
  | [], i => .inl ⟨by simp [idxA], rfl⟩
  | (a, u) :: l, i => by
    by_cases h : n = a
    · exact .inr ⟨0, (a, u), by simp [idxA, h], rfl, by simp [alook, h]⟩
    · rcases idx_look n l (i + 1) with ⟨h1, h2⟩ | ⟨k, p, h1, h2, h3⟩
      · exact .inl ⟨by simp only [List.map_cons, idxA]; rw [if_neg h]; exact h1, by simp only [alook]; rw [if_neg h]; exact h2⟩
      · exact .inr ⟨k + 1, p, by simp only [List.map_cons, idxA]; rw [if_neg h, h1]; congr 1; omega, by simpa using h2, by simp only [alook]; rw [if_neg h]; exact h3⟩
def leS (a b : Str) : Bool := Op.bytesLess a b || decide (a = b)
theorem leS_le (a b : Str) : leS a b = decide (a ≤ b) := by
  unfold leS; rw [bytesLess_eq, Bool.eq_iff_iff]
  simp only [Bool.or_eq_true, decide_eq_true_eq]
  constructor
  · rintro (h | h)
    · exact List.le_of_lt h
    · subst h; exact List.le_refl _
  · intro h
    by_cases h2 : a < b
    · exact .inl h2
    · exact .inr (List.le_antisymm h (List.not_lt.1 h2))
/-- A label more, at its place. -/
def putS : List Str → Str → List Str
  | [], s => [s]
  | a :: l, s => if leS a s then a :: putS l s else s :: a :: l
theorem putS_cons (a : Str) (l : List Str) (s : Str) : putS (a :: l) s = if leS a s then a :: putS l s else s :: a :: l := by rw [putS]
theorem putS_perm (s : Str) : ∀ l : List Str, (putS l s).Perm (l ++ [s])
  | [] => List.Perm.refl _
  | a :: l => by
    unfold putS; split
    · exact (putS_perm s l).cons a
    · exact List.perm_append_comm (l₁ := [s]) (l₂ := a :: l)
theorem putS_len (l : List Str) (s : Str) : (putS l s).length = l.length + 1 := by rw [(putS_perm s l).length_eq]; simp
theorem putS_sorted (s : Str) : ∀ l : List Str, l.Pairwise (· ≤ ·) → (putS l s).Pairwise (· ≤ ·)
  | [], _ => by simp [putS]
  | a :: l, h => by
    rw [List.pairwise_cons] at h
    unfold putS; split
    · rename_i hl
      rw [leS_le, decide_eq_true_eq] at hl
      refine List.pairwise_cons.2 ⟨fun x hx => ?_, putS_sorted s l h.2⟩
      rcases List.mem_append.1 ((putS_perm s l).mem_iff.1 hx) with hx | hx
      · exact h.1 x hx
      · rw [List.mem_singleton] at hx; subst hx; exact hl
    · rename_i hl
      rw [leS_le, decide_eq_true_eq] at hl
      have hsa : s ≤ a := (List.le_total a s).resolve_left hl
      refine List.pairwise_cons.2 ⟨fun x hx => ?_, List.pairwise_cons.2 h⟩
      rcases List.mem_cons.1 hx with rfl | hx
      · exact hsa
      · exact List.le_trans hsa (h.1 x hx)
theorem foldl_putS : ∀ (l acc : List Str), acc.Pairwise (· ≤ ·) → (l.foldl putS acc).Perm (acc ++ l) ∧ (l.foldl putS acc).Pairwise (· ≤ ·)
  | [], acc, h => by simpa using h
  | x :: l, acc, h => by
    obtain ⟨h1, h2⟩ := foldl_putS l (putS acc x) (putS_sorted x acc h)
    refine ⟨h1.trans ?_, h2⟩
    have := (putS_perm x acc).append_right l
    rwa [List.append_assoc] at this
theorem sort_puts (l : List Str) : l.foldl putS [] = sortS l := by
  obtain ⟨h1, h2⟩ := foldl_putS l [] List.Pairwise.nil
  exact perm_sorted (h1.trans (sortS_perm l).symm) ((sorted_iff _).2 h2) (sortS_sorted l)
set_option maxHeartbeats 400000 in
theorem find_c {w : World} {m : Mem} {o_l : Option Addr} {c_l : Nat} {l : List Int} {n : Int} (hA : Agree w m) (h_l : Ints m o_l l.length c_l l) : FnV Try.prog 38 #[.slice o_l l.length c_l, .int .i64 n] w m (fun _ _ v => v = .int .i64 (idxA 0 l n)) := by
  have hb_l := h_l.big; have hc_l := h_l.cap
  refine fn_enter (vs := [_, _]) Try.func38 rfl rfl rfl fun a0 hfr0 => ?_
  have hst0 := st_enter hA (loc_nil [] _ w m)
  have hM : MLe m m := MLe.refl m
  refine seq_any fun _ hK1 => ?_
  refine rp0 hst0 hfr0 (.cons rfl (ob_assign rfl) <| .nil) ?_
  intro a1 w1 m1 hst1 hle1 hk1
  have hfr1 := hk1.fr (T' := [(0, _), (1, _)]) (.old rfl rfl <| .old rfl rfl <| .nil)
  replace h_l := h_l.mono hle1
  clear hst0 hfr0 hk1
  refine hK1 _ _ ?_; clear hK1
  refine seq_any fun _ hK2 => ?_
  refine seq_any fun _ hK3 => ?_
  refine rp0 hst1 hfr1 (.cons rfl (ob_assign rfl) <| .nil) ?_
  intro a2 w2 m2 hst2 hle2 hk2
  have hfr2 := hk2.fr (T' := [(0, _), (1, _), (5, _)]) (.old rfl rfl <| .old rfl rfl <| .new rfl <| .nil)
  replace h_l := h_l.mono hle2
  clear hst1 hfr1 hk2
  refine hK3 _ _ ?_; clear hK3
  refine wp_block ?_
  refine loop_any (T := [(0, _), (1, _)]) (fun (y : Nat) => ([(5, .int .i64 (y : Int))] : List (Nat × Value))) (fun _ => _) (fun (y : Nat) m => (y ≤ l.length) ∧ (idxA 0 l n = idxA y (l.drop y) n)) (fun y => l.length - y) (0) ⟨hst2, MLe.refl _, hfr2.sub (.cons rfl <| .cons rfl <| .cons rfl <| .nil), ⟨Nat.zero_le _, rfl⟩⟩ fun y a3 w3 m3 hh3 => ?_
  have hst3 := hh3.st; have hle3 := hh3.le; have hfr3 := hh3.fr; have hrel := hh3.rel; clear hh3
  replace h_l := h_l.mono hle3
  clear hst2 hfr2
  obtain ⟨hyn, hrem⟩ := hrel
  have hlh3 := hle3
  refine seq_any fun _ hK5 => ?_
  refine seq_any fun _ hK6 => ?_
  refine rp0 hst3 hfr3 (.cons rfl (ob_move rfl) <| .cons rfl (ob_move rfl) <| .cons rfl (ob_len rfl Try.underlying37) <| .cons rfl (ob_lss rfl rfl) <| .nil) ?_
  intro a4 w4 m4 hst4 hle4 hk4
  have hfr4 := hk4.fr (T' := [(5, _), (0, _), (1, _), (9, _)]) (.old rfl rfl <| .old rfl rfl <| .old rfl rfl <| .new rfl <| .nil)
  replace h_l := h_l.mono hle4
  have hlh4 := hlh3.trans hle4
  clear hst3 hfr3 hk4
  refine hK6 _ _ ?_; clear hK6
  refine cond_any hfr4 rfl rfl (fun hb9 => ?_) (fun hb9 => ?_)
  · try simp only [nq1, nq2, nq3, nq4, nq5, nq6, nq7, nq8, nq9, u8_eq] at hb9
    refine wp_skip ?_
    refine hK5 _ _ ?_; clear hK5
    refine seq_any fun _ hK7 => ?_
    refine wp_block ?_
    refine seq_any fun _ hK8 => ?_
    obtain ⟨p9, vs9, x9, ho9, hd9, hm_x9, ht9, hcv9, hl9, hv9⟩ := h_l.nth (k := y) (by omega)
    cases ho9
    subst hv9
    try rw [hd9] at hrem
    try simp only [idxA] at hrem
    refine rp0 hst4 hfr4 (.cons rfl (ob_move rfl) <| .cons rfl (ob_move rfl) <| .cons rfl (ob_indexAddr (k := y) rfl rfl Try.underlying37 Try.sizeOf3 rfl (by omega)) <| .cons rfl (ob_load1' rfl hcv9 Try.isAgg3 rfl) <| .cons rfl (ob_move rfl) <| .cons rfl (ob_eql rfl rfl) <| .nil) ?_
    intro a5 w5 m5 hst5 hle5 hk5
    have hfr5 := hk5.fr (T' := [(5, _), (0, _), (1, _), (17, _)]) (.old rfl rfl <| .old rfl rfl <| .old rfl rfl <| .new rfl <| .nil)
    have hlh5 := hlh4.trans hle5
    clear hst4 hfr4 hk5
    refine hK8 _ _ ?_; clear hK8
    refine cond_any hfr5 rfl rfl (fun hb17 => ?_) (fun hb17 => ?_)
    · try simp only [nq1, nq2, nq3, nq4, nq5, nq6, nq7, nq8, nq9, u8_eq] at hb17
      have hres : idxA 0 l n = (y : Int) := by rw [hrem, if_pos (by omega)]
      refine seq_any fun _ hK10 => ?_
      refine rp0 hst5 hfr5 (.cons rfl (ob_move rfl) <| .cons rfl (ob_assign rfl) <| .nil) ?_
      intro a6 w6 m6 hst6 hle6 hk6
      have hfr6 := hk6.fr (T' := [(5, _), (4, _)]) (.old rfl rfl <| .new rfl <| .nil)
      have hlh6 := hlh5.trans hle6
      clear hst5 hfr5 hk6
      refine hK10 _ _ ?_; clear hK10
      refine wp_ret ?_
      repeat (with_reducible first | refine then_ret ?_ | refine block_ret ?_)
      exact fn_ret hst6 hfr6 rfl (.tmp rfl <| .nil) (by refine congrArg (Value.int _) ?_; exact hres.symm)
    · try simp only [nq1, nq2, nq3, nq4, nq5, nq6, nq7, nq8, nq9, u8_eq] at hb17
      refine wp_skip ?_
      refine hK7 _ _ ?_; clear hK7
      refine rp0 hst5 hfr5 (.cons rfl (ob_move rfl) <| .cons rfl (ob_add rfl rfl ⟨by omega, by omega⟩) <| .cons rfl (ob_assign rfl) <| .nil) ?_
      intro a6 w6 m6 hst6 hle6 hk6
      have hfr6 := hk6.fr (T' := [(0, _), (1, _), (5, _)]) (.old rfl rfl <| .old rfl rfl <| .new rfl <| .nil)
      have hlh6 := hlh5.trans hle6
      clear hst5 hfr5 hk6
      exact ⟨y + 1, m6, by show l.length - (y + 1) < l.length - y; omega, ⟨hst6, hlh6, hfr6.sub (.cons rfl <| .cons rfl <| .cons rfl <| .nil), ⟨by show y + 1 ≤ l.length; omega, by rw [hrem, if_neg (by omega)]⟩⟩⟩
  · try simp only [nq1, nq2, nq3, nq4, nq5, nq6, nq7, nq8, nq9, u8_eq] at hb9
    have hge : y = l.length := by omega
    rw [List.drop_of_length_le (by omega)] at hrem
    simp only [idxA] at hrem
    refine wp_exit ?_
    refine hK2 _ _ ?_; clear hK2
    refine seq_any fun _ hK12 => ?_
    refine rp0 hst4 hfr4 (.cons rfl (ob_assign rfl) <| .nil) ?_
    intro a5 w5 m5 hst5 hle5 hk5
    have hfr5 := hk5.fr (T' := [(5, _), (4, _)]) (.old rfl rfl <| .new rfl <| .nil)
    have hlh5 := hlh4.trans hle5
    clear hst4 hfr4 hk5
    refine hK12 _ _ ?_; clear hK12
    refine wp_ret ?_
    repeat (with_reducible first | refine then_ret ?_ | refine block_ret ?_)
    exact fn_ret hst5 hfr5 rfl (.tmp rfl <| .nil) (by refine congrArg (Value.int _) ?_; exact hrem.symm)

set_option maxHeartbeats 1600000 in
theorem rtype_c {w : World} {m : Mem} {s : Sub} {vs_s : List Value} {n : Int} (hA : Agree w m) (h_s : RSubR m s vs_s) : FnV Try.prog 23 #[.agg vs_s.toArray, .int .i64 n] w m (fun _ m v => (MP.tyb ((alook n s.ts).getD zeroTy) (alook n s.ts).isSome).p m v) := by
  obtain ⟨⟨⟨⟨oA_s, cA_s⟩, oB_s, cB_s⟩, ⟨oC_s, cC_s⟩, oD_s, cD_s⟩, rfl, hqa_s, hqb_s, hqc_s, hqd_s⟩ := id h_s
  have hgb_s := hqa_s.big; have hgd_s := hqc_s.big; simp only [List.length_map] at hgb_s hgd_s
  refine fn_enter (vs := [_, _]) Try.func23 rfl rfl rfl fun a0 hfr0 => ?_
  have hst0 := st_enter hA (loc_nil [] _ w m)
  have hM : MLe m m := MLe.refl m
  have hlk := idx_look n s.ts 0
  refine seq_any fun _ hK1 => ?_
  replace hst0 := hst0.more (r := .free) trivial List.nodup_nil (by simp [Res.blocks])
  refine ra0 (tch := [(1, 0, (fun v => .blk v _))]) hst0 hfr0 (.cons rfl (ob_box rfl rfl) <| .consT rfl rfl (fun _ => rfl) rfl (ob_allocL Try.zeroValue28 rfl) <| .cons rfl (ob_assign rfl) <| .nil) ?_
  intro a1 w1 m1 hst1 hle1 hk1
  have hfr1 := hk1.fr (T' := [(1, _)]) (.old rfl rfl <| .nil)
  obtain ⟨g2, e2, hc2⟩ := hk1.ex 2 rfl
  replace hfr1 := hfr1.cons e2
  obtain ⟨g3, e3, _⟩ := hk1.ex 4 rfl
  replace hfr1 := hfr1.cons e3
  replace hst1 := hst1.fin (L' := [_]) (.cons e3 <| .nil)
  replace h_s := h_s.mono hle1
  replace hqa_s := hqa_s.mono hle1
  replace hqb_s := hqb_s.mono hle1
  replace hqc_s := hqc_s.mono hle1
  replace hqd_s := hqd_s.mono hle1
  clear hst0 hfr0 hk1
  refine hK1 _ _ ?_; clear hK1
  refine seq_any fun _ hK4 => ?_
  refine rp0 hst1 hfr1 (.cons rfl (ob_fieldAddrO (off := 0) rfl Try.underlying40 rfl rfl Try.sizeOf37 rfl) <| .cons rfl (ob_load1 rfl hc2 Try.isAgg37 rfl) <| .cons rfl (ob_move rfl) <| .cons rfl (ob_callE rfl (.cons rfl <| .cons rfl <| .nil) Try.call38 (fun w m hK => by have hle_ := KC.le hK; have hA := KC.agree hK; have h_s := h_s.mono hle_; have hqa_s := hqa_s.mono hle_; have hqb_s := hqb_s.mono hle_; have hqc_s := hqc_s.mono hle_; have hqd_s := hqd_s.mono hle_; have hc2 := hc2.mono hle_; exact find_c hA (by first | assumption | omega | simp_all))) <| .cons rfl (ob_assign rfl) <| .nil) ?_
  intro a2 w2 m2 hst2 hle2 hk2
  have hfr2 := hk2.fr (T' := [(2, _), (4, _), (6, _)]) (.old rfl rfl <| .old rfl rfl <| .new rfl <| .nil)
  replace hqb_s := hqb_s.mono hle2
  replace hc2 := hc2.mono hle2
  clear hst1 hfr1 hk2
  refine hK4 _ _ ?_; clear hK4
  refine seq_any fun _ hK5 => ?_
  refine seq_any fun _ hK6 => ?_
  refine rp0 hst2 hfr2 (.cons rfl (ob_move rfl) <| .cons rfl (ob_lss rfl rfl) <| .nil) ?_
  intro a3 w3 m3 hst3 hle3 hk3
  have hfr3 := hk3.fr (T' := [(2, _), (4, _), (6, _), (12, _)]) (.old rfl rfl <| .old rfl rfl <| .old rfl rfl <| .new rfl <| .nil)
  replace hqb_s := hqb_s.mono hle3
  replace hc2 := hc2.mono hle3
  clear hst2 hfr2 hk3
  refine hK6 _ _ ?_; clear hK6
  refine cond_any hfr3 rfl rfl (fun hb12 => ?_) (fun hb12 => ?_)
  · try simp only [nq1, nq2, nq3, nq4, nq5, nq6, nq7, nq8, nq9, u8_eq] at hb12
    have hno : alook n s.ts = none := by rcases hlk with ⟨_, h⟩ | ⟨k, p, h, _⟩; (exact h); (exfalso; omega)
    refine seq_any fun _ hK7 => ?_
    refine ra0 (tch := [(1, 0, (fun _ => .blk _ _))]) hst3 hfr3 (.cons rfl (ob_buildS (.nil) Try.underlying28 Try.zeroValue28 (.cons Try.sizeOf3 <| .cons Try.sizeOf9 <| .cons Try.sizeOf3 <| .cons Try.sizeOf23 <| .cons Try.sizeOf26 <| .nil) rfl) <| .consT rfl rfl (fun _ => rfl) rfl (ob_store' rfl rfl rfl Try.sizeOf28 rfl rfl rfl) <| .cons rfl (ob_assign rfl) <| .nil) ?_
    intro a4 w4 m4 hst4 hle4 hk4
    have hfr4 := hk4.fr (T' := [(4, _), (5, _)]) (.old rfl rfl <| .new rfl <| .nil)
    replace hst4 := hst4.fin (L' := [_]) (.cons rfl <| .nil)
    try simp only [List.take_succ_cons, List.take_zero, List.drop_succ_cons, List.drop_zero, List.cons_append, List.nil_append, List.append_nil, List.length_cons, List.length_nil, Nat.zero_add, Nat.reduceAdd] at hst4
    clear hst3 hfr3 hk4
    refine hK7 _ _ ?_; clear hK7
    refine wp_ret ?_
    repeat (with_reducible first | refine then_ret ?_ | refine block_ret ?_)
    exact fn_ret hst4 hfr4 rfl (.cell rfl (load_blk (blk_heap (hst4.loc.at_ (k := 0) rfl)) Try.isAgg28 Try.sizeOf28) <| .tmp rfl <| .nil) (⟨((none, 0), (none, 0)), by rw [hno]; rfl, by rw [hno]; exact zeroTy_R⟩)
  · try simp only [nq1, nq2, nq3, nq4, nq5, nq6, nq7, nq8, nq9, u8_eq] at hb12
    obtain ⟨k9, p9, hk9, hp9, hsm⟩ := hlk.resolve_left (by omega)
    have hkl9 : k9 < (s.ts.map Prod.snd).length := by rw [List.length_map]; exact (List.getElem?_eq_some_iff.1 hp9).1
    refine wp_skip ?_
    refine hK5 _ _ ?_; clear hK5
    refine seq_any fun _ hK9 => ?_
    obtain ⟨p10, vs10, x10, ho10, hd10, hm_x10, ht10, hcv10, hl10, hv10⟩ := hqb_s.nth (k := k9) (by omega)
    cases ho10
    obtain ⟨o10, c10, oL10, cL10, rfl, hkd10, hs10, hi10, hj10, hr10⟩ := hv10.open_
    have hbg10 := hkd10.big; have hcp10 := hkd10.cap; have hbs10 := hs10.big; have hcs10 := hs10.cap
    have hrw10 : RwR _ ⟨x10.labels, x10.rv⟩ _ := ⟨_, _, rfl, hs10, hr10⟩
    refine ra0 (tch := [(5, 0, (fun _ => .blk _ _))]) hst3 hfr3 (.cons rfl (ob_fieldAddrO (off := 1) rfl Try.underlying40 rfl rfl Try.sizeOf23 rfl) <| .cons rfl (ob_load1 rfl hc2 Try.isAgg23 rfl) <| .cons rfl (ob_move rfl) <| .cons rfl (ob_indexAddr (k := k9) rfl rfl Try.underlying23 Try.sizeOf28 (by omega) (by omega)) <| .cons rfl (ob_loadS' rfl hcv10 Try.isAgg28 Try.sizeOf28 rfl rfl) <| .consT rfl rfl (fun _ => rfl) rfl (ob_store' rfl rfl rfl Try.sizeOf28 rfl rfl hv10.one) <| .cons rfl (ob_assign rfl) <| .nil) ?_
    intro a4 w4 m4 hst4 hle4 hk4
    have hfr4 := hk4.fr (T' := [(4, _), (5, _)]) (.old rfl rfl <| .new rfl <| .nil)
    replace hst4 := hst4.fin (L' := [_]) (.cons rfl <| .nil)
    try simp only [List.take_succ_cons, List.take_zero, List.drop_succ_cons, List.drop_zero, List.cons_append, List.nil_append, List.append_nil, List.length_cons, List.length_nil, Nat.zero_add, Nat.reduceAdd] at hst4
    replace hv10 := hv10.mono hle4
    clear hst3 hfr3 hk4
    have e9 := at_map hp9 hd10
    rw [← e9] at hsm
    refine hK9 _ _ ?_; clear hK9
    refine wp_ret ?_
    repeat (with_reducible first | refine then_ret ?_ | refine block_ret ?_)
    exact fn_ret hst4 hfr4 rfl (.cell rfl (load_blk (blk_heap (hst4.loc.at_ (k := 0) rfl)) Try.isAgg28 Try.sizeOf28) <| .tmp rfl <| .nil) (⟨((o10, c10), (oL10, cL10)), by rw [hsm]; rfl, by rw [hsm]; exact hv10⟩)

theorem rtype_x {w : World} {m : Mem} {s : Sub} {n : Int} {vs : List Value} {x : Ty} {b : Bool} (hA : Agree w m) (hS : RSubR m s vs) (hx : x = (alook n s.ts).getD zeroTy) (hb : b = (alook n s.ts).isSome) :
    FnV Try.prog 23 #[.agg vs.toArray, .int .i64 n] w m fun _ m v => (MP.tyb x b).p m v := by subst hx; subst hb; exact rtype_c hA hS

set_option maxHeartbeats 1600000 in
theorem rrow_c {w : World} {m : Mem} {s : Sub} {vs_s : List Value} {n : Int} (hA : Agree w m) (h_s : RSubR m s vs_s) : FnV Try.prog 24 #[.agg vs_s.toArray, .int .i64 n] w m (fun _ m v => (MP.rwb ((alook n s.rs).getD zeroRw) (alook n s.rs).isSome).p m v) := by
  obtain ⟨⟨⟨⟨oA_s, cA_s⟩, oB_s, cB_s⟩, ⟨oC_s, cC_s⟩, oD_s, cD_s⟩, rfl, hqa_s, hqb_s, hqc_s, hqd_s⟩ := id h_s
  have hgb_s := hqa_s.big; have hgd_s := hqc_s.big; simp only [List.length_map] at hgb_s hgd_s
  refine fn_enter (vs := [_, _]) Try.func24 rfl rfl rfl fun a0 hfr0 => ?_
  have hst0 := st_enter hA (loc_nil [] _ w m)
  have hM : MLe m m := MLe.refl m
  have hlk := idx_look n s.rs 0
  refine seq_any fun _ hK1 => ?_
  replace hst0 := hst0.more (r := .free) trivial List.nodup_nil (by simp [Res.blocks])
  refine ra0 (tch := [(1, 0, (fun v => .blk v _))]) hst0 hfr0 (.cons rfl (ob_box rfl rfl) <| .consT rfl rfl (fun _ => rfl) rfl (ob_allocL Try.zeroValue26 rfl) <| .cons rfl (ob_assign rfl) <| .nil) ?_
  intro a1 w1 m1 hst1 hle1 hk1
  have hfr1 := hk1.fr (T' := [(1, _)]) (.old rfl rfl <| .nil)
  obtain ⟨g2, e2, hc2⟩ := hk1.ex 2 rfl
  replace hfr1 := hfr1.cons e2
  obtain ⟨g3, e3, _⟩ := hk1.ex 4 rfl
  replace hfr1 := hfr1.cons e3
  replace hst1 := hst1.fin (L' := [_]) (.cons e3 <| .nil)
  replace h_s := h_s.mono hle1
  replace hqa_s := hqa_s.mono hle1
  replace hqb_s := hqb_s.mono hle1
  replace hqc_s := hqc_s.mono hle1
  replace hqd_s := hqd_s.mono hle1
  clear hst0 hfr0 hk1
  refine hK1 _ _ ?_; clear hK1
  refine seq_any fun _ hK4 => ?_
  refine rp0 hst1 hfr1 (.cons rfl (ob_fieldAddrO (off := 2) rfl Try.underlying40 rfl rfl Try.sizeOf37 rfl) <| .cons rfl (ob_load1 rfl hc2 Try.isAgg37 rfl) <| .cons rfl (ob_move rfl) <| .cons rfl (ob_callE rfl (.cons rfl <| .cons rfl <| .nil) Try.call38 (fun w m hK => by have hle_ := KC.le hK; have hA := KC.agree hK; have h_s := h_s.mono hle_; have hqa_s := hqa_s.mono hle_; have hqb_s := hqb_s.mono hle_; have hqc_s := hqc_s.mono hle_; have hqd_s := hqd_s.mono hle_; have hc2 := hc2.mono hle_; exact find_c hA (by first | assumption | omega | simp_all))) <| .cons rfl (ob_assign rfl) <| .nil) ?_
  intro a2 w2 m2 hst2 hle2 hk2
  have hfr2 := hk2.fr (T' := [(2, _), (4, _), (6, _)]) (.old rfl rfl <| .old rfl rfl <| .new rfl <| .nil)
  replace hqd_s := hqd_s.mono hle2
  replace hc2 := hc2.mono hle2
  clear hst1 hfr1 hk2
  refine hK4 _ _ ?_; clear hK4
  refine seq_any fun _ hK5 => ?_
  refine seq_any fun _ hK6 => ?_
  refine rp0 hst2 hfr2 (.cons rfl (ob_move rfl) <| .cons rfl (ob_lss rfl rfl) <| .nil) ?_
  intro a3 w3 m3 hst3 hle3 hk3
  have hfr3 := hk3.fr (T' := [(2, _), (4, _), (6, _), (12, _)]) (.old rfl rfl <| .old rfl rfl <| .old rfl rfl <| .new rfl <| .nil)
  replace hqd_s := hqd_s.mono hle3
  replace hc2 := hc2.mono hle3
  clear hst2 hfr2 hk3
  refine hK6 _ _ ?_; clear hK6
  refine cond_any hfr3 rfl rfl (fun hb12 => ?_) (fun hb12 => ?_)
  · try simp only [nq1, nq2, nq3, nq4, nq5, nq6, nq7, nq8, nq9, u8_eq] at hb12
    have hno : alook n s.rs = none := by rcases hlk with ⟨_, h⟩ | ⟨k, p, h, _⟩; (exact h); (exfalso; omega)
    refine seq_any fun _ hK7 => ?_
    refine ra0 (tch := [(1, 0, (fun _ => .blk _ _))]) hst3 hfr3 (.cons rfl (ob_buildS (.nil) Try.underlying26 Try.zeroValue26 (.cons Try.sizeOf24 <| .cons Try.sizeOf3 <| .nil) rfl) <| .consT rfl rfl (fun _ => rfl) rfl (ob_store' rfl rfl rfl Try.sizeOf26 rfl rfl rfl) <| .cons rfl (ob_assign rfl) <| .nil) ?_
    intro a4 w4 m4 hst4 hle4 hk4
    have hfr4 := hk4.fr (T' := [(4, _), (5, _)]) (.old rfl rfl <| .new rfl <| .nil)
    replace hst4 := hst4.fin (L' := [_]) (.cons rfl <| .nil)
    try simp only [List.take_succ_cons, List.take_zero, List.drop_succ_cons, List.drop_zero, List.cons_append, List.nil_append, List.append_nil, List.length_cons, List.length_nil, Nat.zero_add, Nat.reduceAdd] at hst4
    clear hst3 hfr3 hk4
    refine hK7 _ _ ?_; clear hK7
    refine wp_ret ?_
    repeat (with_reducible first | refine then_ret ?_ | refine block_ret ?_)
    exact fn_ret hst4 hfr4 rfl (.cell rfl (load_blk (blk_heap (hst4.loc.at_ (k := 0) rfl)) Try.isAgg26 Try.sizeOf26) <| .tmp rfl <| .nil) (⟨(none, 0), by rw [hno]; rfl, by rw [hno]; exact zeroRw_R⟩)
  · try simp only [nq1, nq2, nq3, nq4, nq5, nq6, nq7, nq8, nq9, u8_eq] at hb12
    obtain ⟨k9, p9, hk9, hp9, hsm⟩ := hlk.resolve_left (by omega)
    have hkl9 : k9 < (s.rs.map Prod.snd).length := by rw [List.length_map]; exact (List.getElem?_eq_some_iff.1 hp9).1
    refine wp_skip ?_
    refine hK5 _ _ ?_; clear hK5
    refine seq_any fun _ hK9 => ?_
    obtain ⟨p10, vs10, x10, ho10, hd10, hm_x10, ht10, hcv10, hl10, hv10⟩ := hqd_s.nth (k := k9) (by omega)
    cases ho10
    obtain ⟨o10, c10, rfl, hs10, hr10⟩ := hv10.open_
    have hbs10 := hs10.big; have hcs10 := hs10.cap
    refine ra0 (tch := [(5, 0, (fun _ => .blk _ _))]) hst3 hfr3 (.cons rfl (ob_fieldAddrO (off := 3) rfl Try.underlying40 rfl rfl Try.sizeOf38 rfl) <| .cons rfl (ob_load1 rfl hc2 Try.isAgg38 rfl) <| .cons rfl (ob_move rfl) <| .cons rfl (ob_indexAddr (k := k9) rfl rfl Try.underlying38 Try.sizeOf26 (by omega) (by omega)) <| .cons rfl (ob_loadS' rfl hcv10 Try.isAgg26 Try.sizeOf26 rfl rfl) <| .consT rfl rfl (fun _ => rfl) rfl (ob_store' rfl rfl rfl Try.sizeOf26 rfl rfl hv10.one) <| .cons rfl (ob_assign rfl) <| .nil) ?_
    intro a4 w4 m4 hst4 hle4 hk4
    have hfr4 := hk4.fr (T' := [(4, _), (5, _)]) (.old rfl rfl <| .new rfl <| .nil)
    replace hst4 := hst4.fin (L' := [_]) (.cons rfl <| .nil)
    try simp only [List.take_succ_cons, List.take_zero, List.drop_succ_cons, List.drop_zero, List.cons_append, List.nil_append, List.append_nil, List.length_cons, List.length_nil, Nat.zero_add, Nat.reduceAdd] at hst4
    replace hv10 := hv10.mono hle4
    clear hst3 hfr3 hk4
    have e9 := at_map hp9 hd10
    rw [← e9] at hsm
    refine hK9 _ _ ?_; clear hK9
    refine wp_ret ?_
    repeat (with_reducible first | refine then_ret ?_ | refine block_ret ?_)
    exact fn_ret hst4 hfr4 rfl (.cell rfl (load_blk (blk_heap (hst4.loc.at_ (k := 0) rfl)) Try.isAgg26 Try.sizeOf26) <| .tmp rfl <| .nil) (⟨(o10, c10), by rw [hsm]; rfl, by rw [hsm]; exact hv10⟩)

theorem rrow_x {w : World} {m : Mem} {s : Sub} {n : Int} {vs : List Value} {x : Rw} {b : Bool} (hA : Agree w m) (hS : RSubR m s vs) (hx : x = (alook n s.rs).getD zeroRw) (hb : b = (alook n s.rs).isSome) :
    FnV Try.prog 24 #[.agg vs.toArray, .int .i64 n] w m fun _ m v => (MP.rwb x b).p m v := by subst hx; subst hb; exact rrow_c hA hS

set_option maxHeartbeats 800000 in
theorem putR_c {w : World} {m : Mem} {o_l : Option Addr} {c_l : Nat} {l : List Str} {s : Str} (hA : Agree w m) (h_l : Strs m o_l l.length c_l l) (hbig : l.length ≤ 8796093022200) : FnV Try.prog 49 #[.slice o_l l.length c_l, S s] w m (fun _ m v => (MP.strs (putS l s)).p m v) := by
  have hb_l := h_l.big; have hc_l := h_l.cap
  refine fn_enter (vs := [_, _]) Try.func49 rfl rfl rfl fun a0 hfr0 => ?_
  have hst0 := st_enter hA (loc_nil [] _ w m)
  have hM : MLe m m := MLe.refl m
  refine seq_any fun _ hK1 => ?_
  refine rp0 hst0 hfr0 (.cons rfl (ob_assign rfl) <| .nil) ?_
  intro a1 w1 m1 hst1 hle1 hk1
  have hfr1 := hk1.fr (T' := [(0, _), (1, _)]) (.old rfl rfl <| .old rfl rfl <| .nil)
  replace h_l := h_l.mono hle1
  clear hst0 hfr0 hk1
  refine hK1 _ _ ?_; clear hK1
  refine seq_any fun _ hK2 => ?_
  refine rp0 hst1 hfr1 (.cons rfl (ob_assign rfl) <| .nil) ?_
  intro a2 w2 m2 hst2 hle2 hk2
  have hfr2 := hk2.fr (T' := [(0, _), (1, _), (5, _)]) (.old rfl rfl <| .old rfl rfl <| .new rfl <| .nil)
  replace h_l := h_l.mono hle2
  clear hst1 hfr1 hk2
  refine hK2 _ _ ?_; clear hK2
  refine seq_any fun _ hK3 => ?_
  refine wp_block ?_
  refine loop_any (T := [(0, _), (1, _)]) (fun (y : Nat) => ([(5, .int .i64 (y : Int))] : List (Nat × Value))) (fun _ => _) (fun (y : Nat) m => (y ≤ l.length) ∧ (putS l s = l.take y ++ putS (l.drop y) s)) (fun y => l.length - y) (0) ⟨hst2, MLe.refl _, hfr2.sub (.cons rfl <| .cons rfl <| .cons rfl <| .nil), ⟨Nat.zero_le _, by simp⟩⟩ fun y a3 w3 m3 hh3 => ?_
  have hst3 := hh3.st; have hle3 := hh3.le; have hfr3 := hh3.fr; have hrel := hh3.rel; clear hh3
  replace h_l := h_l.mono hle3
  clear hst2 hfr2
  obtain ⟨hyn, hpu⟩ := hrel
  have hlh3 := hle3
  refine seq_any fun _ hK5 => ?_
  refine seq_any fun _ hK6 => ?_
  rcases Nat.lt_or_ge y l.length with hyl | hyl
  · skip
    obtain ⟨p7, vs7, x7, ho7, hd7, hm_x7, ht7, hcv7, hl7, hv7⟩ := h_l.nth (k := y) (by omega)
    cases ho7
    subst hv7
    refine rp0 hst3 hfr3 (.cons rfl (ob_move rfl) <| .cons rfl (ob_move rfl) <| .cons rfl (ob_len rfl Try.underlying24) <| .cons rfl (ob_lss rfl rfl) <| .cons rfl (ob_move rfl) <| .cons rfl (ob_move rfl) <| .cons rfl (ob_move rfl) <| .cons rfl (ob_indexAddr (k := y) rfl rfl Try.underlying24 Try.sizeOf9 rfl (by omega)) <| .cons rfl (ob_load1' rfl hcv7 Try.isAgg9 rfl) <| .cons rfl (ob_move rfl) <| .cons rfl (ob_sleq rfl rfl) <| .cons rfl (ob_and rfl rfl rfl) <| .nil) ?_
    intro a4 w4 m4 hst4 hle4 hk4
    have hfr4 := hk4.fr (T' := [(5, _), (0, _), (1, _), (17, _)]) (.old rfl rfl <| .old rfl rfl <| .old rfl rfl <| .new rfl <| .nil)
    replace h_l := h_l.mono hle4
    have hlh4 := hlh3.trans hle4
    clear hst3 hfr3 hk4
    have hdl := hd7
    rw [hdl, putS_cons] at hpu
    refine hK6 _ _ ?_; clear hK6
    refine cond_any hfr4 rfl rfl (fun hb17 => ?_) (fun hb17 => ?_)
    · try simp only [nq1, nq2, nq3, nq4, nq5, nq6, nq7, nq8, nq9, u8_eq] at hb17
      rw [if_pos (show leS x7 s = true by unfold leS; rcases hb17 with ⟨_, h | h⟩ <;> simp [h])] at hpu
      refine wp_skip ?_
      refine hK5 _ _ ?_; clear hK5
      refine wp_block ?_
      refine rp0 hst4 hfr4 (.cons rfl (ob_move rfl) <| .cons rfl (ob_add rfl rfl ⟨by omega, by omega⟩) <| .cons rfl (ob_assign rfl) <| .nil) ?_
      intro a5 w5 m5 hst5 hle5 hk5
      have hfr5 := hk5.fr (T' := [(0, _), (1, _), (5, _)]) (.old rfl rfl <| .old rfl rfl <| .new rfl <| .nil)
      have hlh5 := hlh4.trans hle5
      clear hst4 hfr4 hk5
      exact ⟨y + 1, m5, by show l.length - (y + 1) < l.length - y; omega, ⟨hst5, hlh5, hfr5.sub (.cons rfl <| .cons rfl <| .cons rfl <| .nil), ⟨by show y + 1 ≤ l.length; omega, by rw [hpu, ht7, List.append_assoc]; rfl⟩⟩⟩
    · try simp only [nq1, nq2, nq3, nq4, nq5, nq6, nq7, nq8, nq9, u8_eq] at hb17
      rw [if_neg (show ¬ leS x7 s = true by unfold leS; rcases hb17 with h | ⟨h1, h2⟩; (exfalso; omega); simp [h1, h2])] at hpu
      have hpe : putS l s = (((l.take y).drop 0) ++ [s]) ++ ((l.take l.length).drop y) := by rw [hpu, List.take_length, hdl]; simp
      refine wp_exit ?_
      refine hK3 _ _ ?_; clear hK3
      refine seq_any fun _ hK8 => ?_
      have hcp9 := h_l.cap
      have hct9 : Strs _ _ _ _ ((l.take (y)).drop (0)) := h_l.cut (l := 0) (k := y) (by omega) (by omega)
      have hcl9 : (y) - (0) = (((l.take (y)).drop (0))).length := hct9.len.symm
      have hcu9 : Strs _ _ _ _ ((l.take (y)).drop (0)) := hct9.lenL
      obtain ⟨cs_10, hrw_10, hrd_10, hcl_10⟩ := hct9.reads
      have hct12 : Strs _ _ _ _ ((l.take (l.length)).drop (y)) := h_l.cut (l := y) (k := l.length) (by omega) (by omega)
      have hcl12 : (l.length) - (y) = (((l.take (l.length)).drop (y))).length := hct12.len.symm
      have hcu12 : Strs _ _ _ _ ((l.take (l.length)).drop (y)) := hct12.lenL
      obtain ⟨cs_13, hrw_13, hrd_13, hcl_13⟩ := hct12.reads
      replace hst4 := hst4.more (r := .free) trivial List.nodup_nil (by simp [Res.blocks])
      refine region_any (tch := [(4, 0, (fun v => .row (nz v) _ _ _ _)), (7, 0, (fun v => .row (nz v) _ _ _ _)), (11, 0, (fun v => .row (nz v) _ _ _ _))]) (fun _ => mixed) hst4 hfr4 (by kernel_rfl) (by kernel_rfl) (by kernel_rfl) (.cons rfl (ob_buildSlice0 Try.underlying24 Try.sizeOf9) <| .cons rfl (ob_move rfl) <| .cons rfl (ob_move rfl) <| .cons rfl (ob_slice (l := 0) (h := y) rfl .none (.some rfl (by omega)) Try.underlying24 Try.sizeOf9 (by omega) (by omega)) <| .consT rfl rfl (fun _ => rfl) rfl (ob_imgT 20 rfl rfl rfl fun y20 => ob_appendZ (size := 1) (bytes := 16) rfl rfl (fun _ => .inr ⟨rfl, rfl, rfl, rfl⟩) Try.underlying24 Try.type9 rfl rfl rfl rfl (fun w m hK => hrw_10.mono (KC.le hK)) hcl_10 (by decide) hrd_10.one (by simp only [maxLen]; omega) (by omega)) <| .cons rfl (ob_move rfl) <| .cons rfl (ob_buildSlice (.cons rfl <| .nil) Try.underlying24 Try.sizeOf9 Try.zeroValue9 rfl rfl rfl rfl) <| .consT rfl rfl (fun _ => rfl) rfl (ob_imgT 24 rfl rfl rfl fun y24 => ob_imgT 26 rfl rfl rfl fun y26 => ob_appendZ (size := 1) (bytes := 16) rfl rfl (fun _ => .inl rfl) Try.underlying24 Try.type9 rfl rfl rfl rfl (fun w m hK => .inr ⟨_, rfl, hK.2⟩) rfl (by decide) rfl (by simp only [maxLen]; omega) (by omega)) <| .cons rfl (ob_move rfl) <| .cons rfl (ob_move rfl) <| .cons rfl (ob_slice (l := y) (h := l.length) rfl (.some rfl (by omega)) .none Try.underlying24 Try.sizeOf9 (by omega) (by omega)) <| .consT rfl rfl (fun _ => rfl) rfl (ob_imgT 27 rfl rfl rfl fun y27 => ob_appendZ (size := 1) (bytes := 16) rfl rfl (fun _ => .inl rfl) Try.underlying24 Try.type9 rfl rfl rfl rfl (fun w m hK => hrw_13.mono (KC.le hK)) hcl_13 (by decide) hrd_13.one (by simp only [maxLen]; omega) (by omega)) <| .consA 31 rfl rfl <| .nil) ?_
      intro a5 w5 m5 hst5 hle5 hk5
      have hfr5 := hk5.fr (T' := [(5, _)]) (.old rfl rfl <| .nil)
      obtain ⟨⟨oz10, cz10⟩, e14, hrz10, hcz10⟩ := hk5.ex 24 rfl
      replace e14 : envOf a5 24 = .slice oz10 (((l.take (y)).drop (0))).length cz10 := by rw [e14]; refine congrArg (fun q => Value.slice _ q _) ?_; first | omega | (simp only [List.length_append, List.length_cons, List.length_nil, List.nil_append, List.length_take, List.length_drop]; try omega)
      obtain ⟨⟨oz11, cz11⟩, e15, hrz11, hcz11⟩ := hk5.ex 27 rfl
      replace e15 : envOf a5 27 = .slice oz11 ((((l.take (y)).drop (0)) ++ [s])).length cz11 := by rw [e15]; refine congrArg (fun q => Value.slice _ q _) ?_; first | omega | (simp only [List.length_append, List.length_cons, List.length_nil, List.nil_append, List.length_take, List.length_drop]; try omega)
      obtain ⟨⟨oz13, cz13⟩, e16, hrz13, hcz13⟩ := hk5.ex 31 rfl
      replace e16 : envOf a5 31 = .slice oz13 (((((l.take (y)).drop (0)) ++ [s]) ++ ((l.take (l.length)).drop (y)))).length cz13 := by rw [e16]; refine congrArg (fun q => Value.slice _ q _) ?_; first | omega | (simp only [List.length_append, List.length_cons, List.length_nil, List.nil_append, List.length_take, List.length_drop]; try omega)
      replace hfr5 := hfr5.cons (hk5.same 4 rfl e16)
      replace hst5 := hst5.fin (L' := [_]) (.cons e14 <| .cons e15 <| .cons e16 <| .nil)
      replace hrd_10 := hrd_10.mono hle5
      replace hrd_13 := hrd_13.mono hle5
      have hlh5 := hlh4.trans hle5
      clear hst4 hfr4 hk5
      have hsz13 : Strs m5 oz13 (((((l.take (y)).drop (0)) ++ [s]) ++ ((l.take (l.length)).drop (y)))).length cz13 ((((l.take (y)).drop (0)) ++ [s]) ++ ((l.take (l.length)).drop (y))) := Reads.sl (((Reads.nil.app hrd_10).app (Reads.single (vs := [_]) rfl rfl)).app hrd_13) hrz13 (by decide) rfl (by have h := hcz13; first | omega | (simp only [List.length_append, List.length_cons, List.length_nil, List.nil_append, List.length_take, List.length_drop] at h ⊢; omega)) (by first | omega | (simp only [List.length_append, List.length_cons, List.length_nil, List.nil_append, List.length_take, List.length_drop]; omega))
      refine hK8 _ _ ?_; clear hK8
      refine wp_ret ?_
      repeat (with_reducible first | refine then_ret ?_ | refine block_ret ?_)
      exact fn_ret hst5 hfr5 rfl (.tmp rfl <| .nil) (⟨(oz13, cz13), by rw [hpe]; rfl, by rw [hpe]; exact hsz13⟩)
  · skip
    refine rp0 hst3 hfr3 (.cons rfl (ob_move rfl) <| .cons rfl (ob_move rfl) <| .cons rfl (ob_len rfl Try.underlying24) <| .cons rfl (ob_lss rfl rfl) <| .cons rfl (ob_move rfl) <| .cons rfl (ob_guard (κ := .eq (.bool false)) (b := true) 10 rfl rfl (fun h => by simp at h; omega)) <| .cons rfl (ob_guard (κ := .eq (.bool false)) (b := true) 10 rfl rfl (fun h => by simp at h; omega)) <| .cons rfl (ob_guard (κ := .eq (.bool false)) (b := true) 10 rfl rfl (fun h => by simp at h; omega)) <| .cons rfl (ob_guard (κ := .eq (.bool false)) (b := true) 10 rfl rfl (fun h => by simp at h; omega)) <| .cons rfl (ob_guard (κ := .eq (.bool false)) (b := true) 10 rfl rfl (fun h => by simp at h; omega)) <| .cons rfl (ob_guard (κ := .eq (.bool false)) (b := true) 10 rfl rfl (fun h => by simp at h; omega)) <| .cons rfl (ob_and rfl rfl rfl) <| .nil) ?_
    intro a4 w4 m4 hst4 hle4 hk4
    have hfr4 := hk4.fr (T' := [(5, _), (0, _), (1, _), (17, _)]) (.old rfl rfl <| .old rfl rfl <| .old rfl rfl <| .new rfl <| .nil)
    replace h_l := h_l.mono hle4
    have hlh4 := hlh3.trans hle4
    clear hst3 hfr3 hk4
    refine hK6 _ _ ?_; clear hK6
    refine cond_any hfr4 rfl rfl (fun hb17 => ?_) (fun hb17 => ?_)
    · exfalso; simp at hb17; try omega
    · try simp only [nq1, nq2, nq3, nq4, nq5, nq6, nq7, nq8, nq9, u8_eq] at hb17
      have hye : y = l.length := by omega
      have hpe : putS l s = (((l.take y).drop 0) ++ [s]) ++ ((l.take l.length).drop y) := by rw [hpu, hye, List.drop_length]; simp [putS]
      refine wp_exit ?_
      refine hK3 _ _ ?_; clear hK3
      refine seq_any fun _ hK18 => ?_
      have hcp9 := h_l.cap
      have hct19 : Strs _ _ _ _ ((l.take (y)).drop (0)) := h_l.cut (l := 0) (k := y) (by omega) (by omega)
      have hcl19 : (y) - (0) = (((l.take (y)).drop (0))).length := hct19.len.symm
      have hcu19 : Strs _ _ _ _ ((l.take (y)).drop (0)) := hct19.lenL
      obtain ⟨cs_20, hrw_20, hrd_20, hcl_20⟩ := hct19.reads
      have hct22 : Strs _ _ _ _ ((l.take (l.length)).drop (y)) := h_l.cut (l := y) (k := l.length) (by omega) (by omega)
      have hcl22 : (l.length) - (y) = (((l.take (l.length)).drop (y))).length := hct22.len.symm
      have hcu22 : Strs _ _ _ _ ((l.take (l.length)).drop (y)) := hct22.lenL
      obtain ⟨cs_23, hrw_23, hrd_23, hcl_23⟩ := hct22.reads
      replace hst4 := hst4.more (r := .free) trivial List.nodup_nil (by simp [Res.blocks])
      refine region_any (tch := [(4, 0, (fun v => .row (nz v) _ _ _ _)), (7, 0, (fun v => .row (nz v) _ _ _ _)), (11, 0, (fun v => .row (nz v) _ _ _ _))]) (fun _ => mixed) hst4 hfr4 (by kernel_rfl) (by kernel_rfl) (by kernel_rfl) (.cons rfl (ob_buildSlice0 Try.underlying24 Try.sizeOf9) <| .cons rfl (ob_move rfl) <| .cons rfl (ob_move rfl) <| .cons rfl (ob_slice (l := 0) (h := y) rfl .none (.some rfl (by omega)) Try.underlying24 Try.sizeOf9 (by omega) (by omega)) <| .consT rfl rfl (fun _ => rfl) rfl (ob_imgT 20 rfl rfl rfl fun y20 => ob_appendZ (size := 1) (bytes := 16) rfl rfl (fun _ => .inr ⟨rfl, rfl, rfl, rfl⟩) Try.underlying24 Try.type9 rfl rfl rfl rfl (fun w m hK => hrw_20.mono (KC.le hK)) hcl_20 (by decide) hrd_20.one (by simp only [maxLen]; omega) (by omega)) <| .cons rfl (ob_move rfl) <| .cons rfl (ob_buildSlice (.cons rfl <| .nil) Try.underlying24 Try.sizeOf9 Try.zeroValue9 rfl rfl rfl rfl) <| .consT rfl rfl (fun _ => rfl) rfl (ob_imgT 24 rfl rfl rfl fun y24 => ob_imgT 26 rfl rfl rfl fun y26 => ob_appendZ (size := 1) (bytes := 16) rfl rfl (fun _ => .inl rfl) Try.underlying24 Try.type9 rfl rfl rfl rfl (fun w m hK => .inr ⟨_, rfl, hK.2⟩) rfl (by decide) rfl (by simp only [maxLen]; omega) (by omega)) <| .cons rfl (ob_move rfl) <| .cons rfl (ob_move rfl) <| .cons rfl (ob_slice (l := y) (h := l.length) rfl (.some rfl (by omega)) .none Try.underlying24 Try.sizeOf9 (by omega) (by omega)) <| .consT rfl rfl (fun _ => rfl) rfl (ob_imgT 27 rfl rfl rfl fun y27 => ob_appendZ (size := 1) (bytes := 16) rfl rfl (fun _ => .inl rfl) Try.underlying24 Try.type9 rfl rfl rfl rfl (fun w m hK => hrw_23.mono (KC.le hK)) hcl_23 (by decide) hrd_23.one (by simp only [maxLen]; omega) (by omega)) <| .consA 31 rfl rfl <| .nil) ?_
      intro a5 w5 m5 hst5 hle5 hk5
      have hfr5 := hk5.fr (T' := [(5, _)]) (.old rfl rfl <| .nil)
      obtain ⟨⟨oz20, cz20⟩, e24, hrz20, hcz20⟩ := hk5.ex 24 rfl
      replace e24 : envOf a5 24 = .slice oz20 (((l.take (y)).drop (0))).length cz20 := by rw [e24]; refine congrArg (fun q => Value.slice _ q _) ?_; first | omega | (simp only [List.length_append, List.length_cons, List.length_nil, List.nil_append, List.length_take, List.length_drop]; try omega)
      obtain ⟨⟨oz21, cz21⟩, e25, hrz21, hcz21⟩ := hk5.ex 27 rfl
      replace e25 : envOf a5 27 = .slice oz21 ((((l.take (y)).drop (0)) ++ [s])).length cz21 := by rw [e25]; refine congrArg (fun q => Value.slice _ q _) ?_; first | omega | (simp only [List.length_append, List.length_cons, List.length_nil, List.nil_append, List.length_take, List.length_drop]; try omega)
      obtain ⟨⟨oz23, cz23⟩, e26, hrz23, hcz23⟩ := hk5.ex 31 rfl
      replace e26 : envOf a5 31 = .slice oz23 (((((l.take (y)).drop (0)) ++ [s]) ++ ((l.take (l.length)).drop (y)))).length cz23 := by rw [e26]; refine congrArg (fun q => Value.slice _ q _) ?_; first | omega | (simp only [List.length_append, List.length_cons, List.length_nil, List.nil_append, List.length_take, List.length_drop]; try omega)
      replace hfr5 := hfr5.cons (hk5.same 4 rfl e26)
      replace hst5 := hst5.fin (L' := [_]) (.cons e24 <| .cons e25 <| .cons e26 <| .nil)
      replace hrd_20 := hrd_20.mono hle5
      replace hrd_23 := hrd_23.mono hle5
      have hlh5 := hlh4.trans hle5
      clear hst4 hfr4 hk5
      have hsz23 : Strs m5 oz23 (((((l.take (y)).drop (0)) ++ [s]) ++ ((l.take (l.length)).drop (y)))).length cz23 ((((l.take (y)).drop (0)) ++ [s]) ++ ((l.take (l.length)).drop (y))) := Reads.sl (((Reads.nil.app hrd_20).app (Reads.single (vs := [_]) rfl rfl)).app hrd_23) hrz23 (by decide) rfl (by have h := hcz23; first | omega | (simp only [List.length_append, List.length_cons, List.length_nil, List.nil_append, List.length_take, List.length_drop] at h ⊢; omega)) (by first | omega | (simp only [List.length_append, List.length_cons, List.length_nil, List.nil_append, List.length_take, List.length_drop]; omega))
      refine hK18 _ _ ?_; clear hK18
      refine wp_ret ?_
      repeat (with_reducible first | refine then_ret ?_ | refine block_ret ?_)
      exact fn_ret hst5 hfr5 rfl (.tmp rfl <| .nil) (⟨(oz23, cz23), by rw [hpe]; rfl, by rw [hpe]; exact hsz23⟩)

set_option maxHeartbeats 800000 in
theorem sortedR_c {w : World} {m : Mem} {r : Rw} {vs_r : List Value} (hA : Agree w m) (h_r : RwR m r vs_r) (hbig : r.labels.length ≤ 8796093022200) : FnV Try.prog 45 #[.agg vs_r.toArray] w m (fun _ m v => (MP.rw ⟨sortS r.labels, r.var⟩).p m v) := by
  obtain ⟨o_r, c_r, rfl, hs_r, hr_r⟩ := h_r.open_
  have hbs_r := hs_r.big; have hcs_r := hs_r.cap
  refine fn_enter (vs := [_]) Try.func45 rfl rfl rfl fun a0 hfr0 => ?_
  have hst0 := st_enter hA (loc_nil [] _ w m)
  have hM : MLe m m := MLe.refl m
  refine seq_any fun _ hK1 => ?_
  replace hst0 := hst0.more (r := .free) trivial List.nodup_nil (by simp [Res.blocks])
  refine ra0 (tch := [(1, 0, (fun v => .blk v _))]) hst0 hfr0 (.cons rfl (ob_box rfl rfl) <| .consT rfl rfl (fun _ => rfl) rfl (ob_allocL Try.zeroValue26 rfl) <| .nil) ?_
  intro a1 w1 m1 hst1 hle1 hk1
  have hfr1 := hk1.fr (T' := []) (.nil)
  obtain ⟨g2, e2, hc1⟩ := hk1.ex 1 rfl
  replace hfr1 := hfr1.cons e2
  obtain ⟨g3, e3, _⟩ := hk1.ex 2 rfl
  replace hfr1 := hfr1.cons e3
  replace hst1 := hst1.fin (L' := [_]) (.cons e3 <| .nil)
  replace hs_r := hs_r.mono hle1
  clear hst0 hfr0 hk1
  refine hK1 _ _ ?_; clear hK1
  refine seq_any fun _ hK4 => ?_
  replace hst1 := hst1.more (r := .free) trivial List.nodup_nil (by simp [Res.blocks])
  refine ra0 (tch := [(3, 1, (fun v => .blk v _)), (4, 1, (fun v => .blk v _))]) hst1 hfr1 (.cons rfl (ob_fieldAddrO (off := 1) rfl Try.underlying26 rfl rfl Try.sizeOf3 rfl) <| .cons rfl (ob_load1 rfl hc1 Try.isAgg3 rfl) <| .cons rfl (ob_buildS (.cons rfl <| .nil) Try.underlying26 Try.zeroValue26 (.cons Try.sizeOf24 <| .cons Try.sizeOf3 <| .nil) rfl) <| .consT rfl rfl (fun _ => rfl) rfl (ob_allocL Try.zeroValue26 rfl) <| .consT rfl rfl (fun _ => rfl) rfl (ob_imgT 3 rfl rfl rfl fun y3 => ob_storeF rfl rfl rfl rfl rfl Try.sizeOf26 rfl rfl rfl) <| .nil) ?_
  intro a2 w2 m2 hst2 hle2 hk2
  have hfr2 := hk2.fr (T' := [(1, _), (2, _)]) (.old rfl rfl <| .old rfl rfl <| .nil)
  obtain ⟨g3, e5, _⟩ := hk2.ex 3 rfl
  replace hfr2 := hfr2.cons e5
  replace hst2 := hst2.fin (L' := [_, _]) (.cons e5 <| .cons e5 <| .nil)
  try simp only [List.take_succ_cons, List.take_zero, List.drop_succ_cons, List.drop_zero, List.cons_append, List.nil_append, List.append_nil, List.length_cons, List.length_nil, Nat.zero_add, Nat.reduceAdd] at hst2
  replace hs_r := hs_r.mono hle2
  replace hc1 := hc1.mono hle2
  clear hst1 hfr1 hk2
  refine hK4 _ _ ?_; clear hK4
  refine seq_any fun _ hK6 => ?_
  refine seq_any fun _ hK7 => ?_
  refine rp0 hst2 hfr2 (.cons rfl (ob_assign rfl) <| .nil) ?_
  intro a3 w3 m3 hst3 hle3 hk3
  have hfr3 := hk3.fr (T' := [(1, _), (2, _), (3, _), (4, _)]) (.old rfl rfl <| .old rfl rfl <| .old rfl rfl <| .new rfl <| .nil)
  replace hs_r := hs_r.mono hle3
  replace hc1 := hc1.mono hle3
  clear hst2 hfr2 hk3
  refine hK7 _ _ ?_; clear hK7
  refine wp_block ?_
  refine loop_any (T := [(1, _), (2, _), (3, _)]) (fun (y : Nat × List Str × Option Addr × Nat) => ([(4, .int .i64 (y.1 : Int))] : List (Nat × Value))) (fun y => [_, .blk (.pointer (some ⟨g3, 0, none⟩)) (.cells ([.slice y.2.2.1 y.2.1.length y.2.2.2, .int .i64 r.var] : List Value).toArray 26)]) (fun (y : Nat × List Str × Option Addr × Nat) m => (fun (y : Nat) (acc : List Str) (ao : Option Addr) (ac : Nat) => (y ≤ r.labels.length) ∧ (Strs m ao acc.length ac acc) ∧ (acc = (r.labels.take y).foldl putS []) ∧ (acc.length = y)) y.1 y.2.1 y.2.2.1 y.2.2.2) (fun y => r.labels.length - y.1) ((0, [], none, 0)) ⟨hst3, MLe.refl _, hfr3.sub (.cons rfl <| .cons rfl <| .cons rfl <| .cons rfl <| .nil), ⟨Nat.zero_le _, Sl.empty, rfl, rfl⟩⟩ fun y a4 w4 m4 hh4 => ?_
  have hst4 := hh4.st; have hle4 := hh4.le; have hfr4 := hh4.fr; have hrel := hh4.rel; clear hh4
  replace hs_r := hs_r.mono hle4
  replace hc1 := hc1.mono hle4
  clear hst3 hfr3
  obtain ⟨y, acc, ao, ac⟩ := y
  dsimp only at hrel hfr4 hst4
  obtain ⟨hyn, hac, hacc, hacl⟩ := hrel
  have hlh4 := hle4
  refine seq_any fun _ hK9 => ?_
  refine seq_any fun _ hK10 => ?_
  refine rp0 hst4 hfr4 (.cons rfl (ob_move rfl) <| .cons rfl (ob_fieldAddrO (off := 0) rfl Try.underlying26 rfl rfl Try.sizeOf24 rfl) <| .cons rfl (ob_load1 rfl hc1 Try.isAgg24 rfl) <| .cons rfl (ob_len rfl Try.underlying24) <| .cons rfl (ob_lss rfl rfl) <| .nil) ?_
  intro a5 w5 m5 hst5 hle5 hk5
  have hfr5 := hk5.fr (T' := [(4, _), (1, _), (2, _), (3, _), (12, _)]) (.old rfl rfl <| .old rfl rfl <| .old rfl rfl <| .old rfl rfl <| .new rfl <| .nil)
  replace hs_r := hs_r.mono hle5
  replace hc1 := hc1.mono hle5
  replace hac := hac.mono hle5
  have hlh5 := hlh4.trans hle5
  clear hst4 hfr4 hk5
  refine hK10 _ _ ?_; clear hK10
  refine cond_any hfr5 rfl rfl (fun hb12 => ?_) (fun hb12 => ?_)
  · try simp only [nq1, nq2, nq3, nq4, nq5, nq6, nq7, nq8, nq9, u8_eq] at hb12
    refine wp_skip ?_
    refine hK9 _ _ ?_; clear hK9
    refine seq_any fun _ hK11 => ?_
    refine wp_block ?_
    obtain ⟨p12, vs12, x12, ho12, hd12, hm_x12, ht12, hcv12, hl12, hv12⟩ := hs_r.nth (k := y) (by omega)
    cases ho12
    subst hv12
    refine region_any (tch := [(9, 1, (fun u => .blk _ (.cells (_ ++ [u] ++ _).toArray _)))]) (fun _ => mixed) hst5 hfr5 (by kernel_rfl) (by kernel_rfl) (by kernel_rfl) (.cons rfl (ob_fieldAddrO (off := 0) rfl Try.underlying26 rfl rfl Try.sizeOf24 rfl) <| .cons rfl (ob_loadL (j := 1) rfl rfl Try.isAgg24 rfl) <| .cons rfl (ob_fieldAddrO (off := 0) rfl Try.underlying26 rfl rfl Try.sizeOf24 rfl) <| .cons rfl (ob_load1 rfl hc1 Try.isAgg24 rfl) <| .cons rfl (ob_move rfl) <| .cons rfl (ob_indexAddr (k := y) rfl rfl Try.underlying24 Try.sizeOf9 rfl (by omega)) <| .cons rfl (ob_load1' rfl hcv12 Try.isAgg9 rfl) <| .cons rfl (ob_call (φ := MP.strs (putS acc x12)) rfl (.cons rfl <| .cons rfl <| .nil) Try.call49 (fun w m hK => by have hle_ := KC.le hK; have hA := KC.agree hK; have hac := hac.mono hle_; exact FnG.mono (putR_c (l := acc) (s := x12) hA hac (by omega)) fun _ _ _ _ h => h)) <| .cons rfl (ob_fieldAddrO (off := 0) rfl Try.underlying26 rfl rfl Try.sizeOf24 rfl) <| .consT rfl rfl (fun _ => rfl) rfl (ob_imgT 22 rfl rfl rfl fun y22 => ob_storeV rfl rfl rfl rfl rfl Try.sizeOf24 rfl rfl rfl) <| .nil) ?_
    intro a6 w6 m6 hst6 hle6 hk6
    have hfr6 := hk6.fr (T' := [(4, _), (1, _), (2, _), (3, _)]) (.old rfl rfl <| .old rfl rfl <| .old rfl rfl <| .old rfl rfl <| .nil)
    obtain ⟨⟨o2, c2⟩, e13, hp2⟩ := hk6.ex 22 rfl
    replace hst6 := hst6.fin (L' := [_, _]) (.cons e13 <| .nil)
    try simp only [List.take_succ_cons, List.take_zero, List.drop_succ_cons, List.drop_zero, List.cons_append, List.nil_append, List.append_nil, List.length_cons, List.length_nil, Nat.zero_add, Nat.reduceAdd] at hst6
    have hlh6 := hlh5.trans hle6
    clear hst5 hfr5 hk6
    refine hK11 _ _ ?_; clear hK11
    refine rp0 hst6 hfr6 (.cons rfl (ob_move rfl) <| .cons rfl (ob_add rfl rfl ⟨by omega, by omega⟩) <| .cons rfl (ob_assign rfl) <| .nil) ?_
    intro a7 w7 m7 hst7 hle7 hk7
    have hfr7 := hk7.fr (T' := [(1, _), (2, _), (3, _), (4, _)]) (.old rfl rfl <| .old rfl rfl <| .old rfl rfl <| .new rfl <| .nil)
    replace hp2 := hp2.mono hle7
    have hlh7 := hlh6.trans hle7
    clear hst6 hfr6 hk7
    exact ⟨(y + 1, (putS acc x12), o2, c2), m7, by show r.labels.length - (y + 1) < r.labels.length - y; omega, ⟨hst7, hlh7, hfr7.sub (.cons rfl <| .cons rfl <| .cons rfl <| .cons rfl <| .nil), ⟨by show y + 1 ≤ r.labels.length; omega, hp2, by rw [ht12, List.foldl_append, ← hacc]; rfl, by show (putS acc x12).length = y + 1; rw [putS_len, hacl]⟩⟩⟩
  · try simp only [nq1, nq2, nq3, nq4, nq5, nq6, nq7, nq8, nq9, u8_eq] at hb12
    have hge : y = r.labels.length := by omega
    rw [List.take_of_length_le (by omega), sort_puts] at hacc
    refine wp_exit ?_
    refine hK6 _ _ ?_; clear hK6
    refine seq_any fun _ hK14 => ?_
    refine ra0 (tch := [(1, 0, (fun _ => .blk _ _))]) hst5 hfr5 (.cons rfl (ob_loadLA (j := 1) rfl rfl Try.isAgg26 Try.sizeOf26 rfl) <| .consT rfl rfl (fun _ => rfl) rfl (ob_store' rfl rfl rfl Try.sizeOf26 rfl rfl rfl) <| .nil) ?_
    intro a6 w6 m6 hst6 hle6 hk6
    have hfr6 := hk6.fr (T' := [(4, _), (2, _)]) (.old rfl rfl <| .old rfl rfl <| .nil)
    replace hst6 := hst6.fin (L' := [_, _]) (.cons rfl <| .nil)
    try simp only [List.take_succ_cons, List.take_zero, List.drop_succ_cons, List.drop_zero, List.cons_append, List.nil_append, List.append_nil, List.length_cons, List.length_nil, Nat.zero_add, Nat.reduceAdd] at hst6
    replace hac := hac.mono hle6
    have hlh6 := hlh5.trans hle6
    clear hst5 hfr5 hk6
    refine hK14 _ _ ?_; clear hK14
    refine wp_ret ?_
    repeat (with_reducible first | refine then_ret ?_ | refine block_ret ?_)
    exact fn_ret hst6 hfr6 rfl (.cell rfl (load_blk (blk_heap (hst6.loc.at_ (k := 0) rfl)) Try.isAgg26 Try.sizeOf26) <| .nil) (⟨(ao, ac), by rw [← hacc]; rfl, by rw [← hacc]; exact ⟨_, _, rfl, hac, hr_r⟩⟩)

theorem sortedR_at {w : World} {m : Mem} {o : Option Addr} {n c : Nat} {ls : List Str} {v : Int} (hA : Agree w m) (hn : n = ls.length) (h : Strs m o n c ls) (hv : InI64 v) (hb : ls.length ≤ 8796093022200) :
    FnV Try.prog 45 #[.agg #[.slice o n c, .int .i64 v]] w m fun _ m v' => (MP.rw ⟨sortS ls, v⟩).p m v' := by subst hn; exact sortedR_c (r := ⟨ls, v⟩) hA ⟨_, _, rfl, h, hv⟩ hb

set_option maxHeartbeats 1600000 in
theorem rapplyR_c {w : World} {m : Mem} {s : Sub} {vs_s : List Value} {r : Rw} {vs_r : List Value} (hA : Agree w m) (h_s : RSubR m s vs_s) (h_r : RwR m r vs_r) (hw : SubW 17592186044416 40 s) (hb : r.labels.length ≤ 8796093022000) : FnV Try.prog 37 #[.agg vs_s.toArray, .agg vs_r.toArray] w m (fun _ m v => (MP.rw (applyR s r)).p m v) := by
  obtain ⟨⟨⟨⟨oA_s, cA_s⟩, oB_s, cB_s⟩, ⟨oC_s, cC_s⟩, oD_s, cD_s⟩, rfl, hqa_s, hqb_s, hqc_s, hqd_s⟩ := id h_s
  have hgb_s := hqa_s.big; have hgd_s := hqc_s.big; simp only [List.length_map] at hgb_s hgd_s
  obtain ⟨o_r, c_r, rfl, hs_r, hr_r⟩ := h_r.open_
  have hbs_r := hs_r.big; have hcs_r := hs_r.cap
  refine fn_enter (vs := [_, _]) Try.func37 rfl rfl rfl fun a0 hfr0 => ?_
  have hst0 := st_enter hA (loc_nil [] _ w m)
  have hM : MLe m m := MLe.refl m
  have hxw := hw.lookR r.var
  obtain ⟨x, hx⟩ : ∃ x, x = (alook r.var s.rs).getD zeroRw := ⟨_, rfl⟩
  obtain ⟨b, hbx⟩ : ∃ x, x = (alook r.var s.rs).isSome := ⟨_, rfl⟩
  rw [← hx] at hxw
  refine seq_any fun _ hK1 => ?_
  replace hst0 := hst0.more (r := .free) trivial List.nodup_nil (by simp [Res.blocks])
  refine ra0 (tch := [(2, 0, (fun v => .blk v _))]) hst0 hfr0 (.cons rfl (ob_box rfl rfl) <| .cons rfl (ob_box rfl rfl) <| .consT rfl rfl (fun _ => rfl) rfl (ob_allocL Try.zeroValue26 rfl) <| .nil) ?_
  intro a1 w1 m1 hst1 hle1 hk1
  have hfr1 := hk1.fr (T' := []) (.nil)
  obtain ⟨g2, e2, hc2⟩ := hk1.ex 2 rfl
  replace hfr1 := hfr1.cons e2
  obtain ⟨g3, e3, hc3⟩ := hk1.ex 3 rfl
  replace hfr1 := hfr1.cons e3
  obtain ⟨g4, e4, _⟩ := hk1.ex 4 rfl
  replace hfr1 := hfr1.cons e4
  replace hst1 := hst1.fin (L' := [_]) (.cons e4 <| .nil)
  replace h_s := h_s.mono hle1
  replace h_r := h_r.mono hle1
  replace hs_r := hs_r.mono hle1
  clear hst0 hfr0 hk1
  refine hK1 _ _ ?_; clear hK1
  refine seq_any fun _ hK5 => ?_
  replace hst1 := hst1.more (r := .free) trivial List.nodup_nil (by simp [Res.blocks])
  refine ra0 (tch := [(7, 1, (fun v => .blk v _)), (8, 1, (fun v => .blkx v _ _))]) hst1 hfr1 (.cons rfl (ob_loadS' rfl hc2 Try.isAgg40 Try.sizeOf40 rfl rfl) <| .cons rfl (ob_fieldAddrO (off := 1) rfl Try.underlying26 rfl rfl Try.sizeOf3 rfl) <| .cons rfl (ob_load1 rfl hc3 Try.isAgg3 rfl) <| .cons rfl (ob_call (φ := MP.rwb x b) rfl (.cons rfl <| .cons rfl <| .nil) Try.call24 (fun w m hK => by have hle_ := KC.le hK; have hA := KC.agree hK; have h_s := h_s.mono hle_; exact FnG.mono (rrow_x (s := s) (n := r.var) hA h_s hx hbx) fun _ _ _ _ h => h)) <| .cons rfl (ob_imgV 11 rfl rfl rfl fun y11 => ob_move rfl) <| .cons rfl (ob_imgV 7 rfl rfl rfl fun y7 => ob_extract rfl rfl) <| .cons rfl (ob_imgE 7 rfl rfl rfl fun y7 => ob_extract rfl rfl) <| .consT rfl rfl (fun _ => rfl) rfl (ob_allocL Try.zeroValue26 rfl) <| .consT rfl rfl (fun _ => rfl) rfl (ob_imgT 5 rfl rfl rfl fun y5 => ob_imgTX 12 rfl rfl rfl fun y12 => ob_storeF rfl rfl rfl rfl rfl Try.sizeOf26 rfl rfl rfl) <| .cons rfl (ob_assign rfl) <| .nil) ?_
  intro a2 w2 m2 hst2 hle2 hk2
  have hfr2 := hk2.fr (T' := [(3, _), (4, _), (6, _)]) (.old rfl rfl <| .old rfl rfl <| .new rfl <| .nil)
  obtain ⟨g6, e6, _⟩ := hk2.ex 5 rfl
  replace hfr2 := hfr2.cons e6
  replace hst2 := hst2.fin (L' := [_, _]) (.cons e6 <| .cons e6 <| .nil)
  try simp only [List.take_succ_cons, List.take_zero, List.drop_succ_cons, List.drop_zero, List.cons_append, List.nil_append, List.append_nil, List.length_cons, List.length_nil, Nat.zero_add, Nat.reduceAdd] at hst2
  obtain ⟨⟨ox, cx⟩, hQ, hst2⟩ := hst2.unx (k := 1) rfl (fun _ => rfl)
  replace h_r := h_r.mono hle2
  replace hs_r := hs_r.mono hle2
  replace hc3 := hc3.mono hle2
  clear hst1 hfr1 hk2
  have hxs := (rwV_open hQ).1
  have hxi := (rwV_open hQ).2
  refine hK5 _ _ ?_; clear hK5
  refine seq_any fun _ hK8 => ?_
  refine seq_any fun _ hK9 => ?_
  refine rp0 hst2 hfr2 (.cons rfl (ob_move rfl) <| .cons rfl (ob_not rfl) <| .cons rfl (ob_move rfl) <| .cons rfl (ob_fieldAddrO (off := 1) rfl Try.underlying26 rfl rfl Try.sizeOf3 rfl) <| .cons rfl (ob_load1 rfl hc3 Try.isAgg3 rfl) <| .cons rfl (ob_eql rfl rfl) <| .cons rfl (ob_or rfl rfl rfl) <| .nil) ?_
  intro a3 w3 m3 hst3 hle3 hk3
  have hfr3 := hk3.fr (T' := [(3, _), (4, _), (5, _), (20, _)]) (.old rfl rfl <| .old rfl rfl <| .old rfl rfl <| .new rfl <| .nil)
  replace h_r := h_r.mono hle3
  replace hs_r := hs_r.mono hle3
  replace hc3 := hc3.mono hle3
  replace hxs := hxs.mono hle3
  clear hst2 hfr2 hk3
  refine hK9 _ _ ?_; clear hK9
  refine cond_any hfr3 rfl rfl (fun hb20 => ?_) (fun hb20 => ?_)
  · try simp only [nq1, nq2, nq3, nq4, nq5, nq6, nq7, nq8, nq9, u8_eq] at hb20
    refine seq_any fun _ hK10 => ?_
    have heq : applyR s r = ⟨sortS r.labels, r.var⟩ := applyR_out (by rw [← hbx]; exact hb20)
    refine ra0 (tch := [(2, 0, (fun _ => .blkx _ _ _))]) hst3 hfr3 (.cons rfl (ob_loadS' rfl hc3 Try.isAgg26 Try.sizeOf26 rfl rfl) <| .cons rfl (ob_call (φ := MP.rw ⟨sortS r.labels, r.var⟩) rfl (.cons rfl <| .nil) Try.call45 (fun w m hK => by have hle_ := KC.le hK; have hA := KC.agree hK; have h_r := h_r.mono hle_; exact FnG.mono (sortedR_c (r := r) hA h_r (by omega)) fun _ _ _ _ h => h)) <| .consT rfl rfl (fun _ => rfl) rfl (ob_imgTX 22 rfl rfl rfl fun y22 => ob_store' rfl rfl rfl Try.sizeOf26 rfl rfl rfl) <| .nil) ?_
    intro a4 w4 m4 hst4 hle4 hk4
    have hfr4 := hk4.fr (T' := [(4, _)]) (.old rfl rfl <| .nil)
    replace hst4 := hst4.fin (L' := [_, _]) (.cons rfl <| .nil)
    try simp only [List.take_succ_cons, List.take_zero, List.drop_succ_cons, List.drop_zero, List.cons_append, List.nil_append, List.append_nil, List.length_cons, List.length_nil, Nat.zero_add, Nat.reduceAdd] at hst4
    obtain ⟨⟨oq, cq⟩, hout, hst4⟩ := hst4.unx (k := 0) rfl (fun _ => rfl)
    clear hst3 hfr3 hk4
    refine hK10 _ _ ?_; clear hK10
    refine wp_ret ?_
    repeat (with_reducible first | refine then_ret ?_ | refine block_ret ?_)
    exact fn_ret hst4 hfr4 rfl (.cell rfl (load_blk (blk_heap (hst4.loc.at_ (k := 0) rfl)) Try.isAgg26 Try.sizeOf26) <| .nil) (⟨(oq, cq), by rw [heq]; rfl, by rw [heq]; exact hout⟩)
  · try simp only [nq1, nq2, nq3, nq4, nq5, nq6, nq7, nq8, nq9, u8_eq] at hb20
    refine wp_skip ?_
    refine hK8 _ _ ?_; clear hK8
    refine seq_any fun _ hK13 => ?_
    have heq : applyR s r = ⟨sortS (r.labels ++ x.labels), x.var⟩ := by rw [hx]; exact applyR_in (by rw [← hbx]; exact hb20.1) hb20.2
    obtain ⟨cs_14, hrw_14, hrd_14, hcl_14⟩ := hs_r.reads
    obtain ⟨cs_15, hrw_15, hrd_15, hcl_15⟩ := hxs.reads
    replace hst3 := hst3.more (r := .free) trivial List.nodup_nil (by simp [Res.blocks])
    refine region_any (tch := [(3, 2, (fun v => .row (nz v) _ _ _ _)), (6, 2, (fun v => .row (nz v) _ _ _ _)), (11, 0, (fun _ => .blkx _ _ _))]) (fun _ => mixed) hst3 hfr3 (by kernel_rfl) (by kernel_rfl) (by kernel_rfl) (.cons rfl (ob_buildSlice0 Try.underlying24 Try.sizeOf9) <| .cons rfl (ob_fieldAddrO (off := 0) rfl Try.underlying26 rfl rfl Try.sizeOf24 rfl) <| .cons rfl (ob_load1 rfl hc3 Try.isAgg24 rfl) <| .consT rfl rfl (fun _ => rfl) rfl (ob_imgT 23 rfl rfl rfl fun y23 => ob_appendZ (size := 1) (bytes := 16) rfl rfl (fun _ => .inr ⟨rfl, rfl, rfl, rfl⟩) Try.underlying24 Try.type9 rfl rfl rfl rfl (fun w m hK => hrw_14.mono (KC.le hK)) hcl_14 (by decide) hrd_14.one (by simp only [maxLen]; omega) (by omega)) <| .cons rfl (ob_fieldAddrO (off := 0) rfl Try.underlying26 rfl rfl Try.sizeOf24 rfl) <| .cons rfl (ob_loadL (j := 1) rfl rfl Try.isAgg24 rfl) <| .consT rfl rfl (fun _ => rfl) rfl (ob_imgT 26 rfl rfl rfl fun y26 => ob_appendZ (size := 1) (bytes := 16) rfl rfl (fun _ => .inl rfl) Try.underlying24 Try.type9 rfl rfl rfl rfl (fun w m hK => hrw_15.mono (KC.le hK)) hcl_15 (by decide) hrd_15.one (by simp only [maxLen]; omega) (by omega)) <| .cons rfl (ob_fieldAddrO (off := 1) rfl Try.underlying26 rfl rfl Try.sizeOf3 rfl) <| .cons rfl (ob_loadL (j := 1) rfl rfl Try.isAgg3 rfl) <| .cons rfl (ob_imgV 29 rfl rfl rfl fun y29 => ob_buildS (.cons rfl <| .cons rfl <| .nil) Try.underlying26 Try.zeroValue26 (.cons Try.sizeOf24 <| .cons Try.sizeOf3 <| .nil) rfl) <| .cons rfl (ob_imgE 32 rfl rfl rfl fun y32 => ob_call (φ := MP.rw ⟨sortS (r.labels ++ x.labels), x.var⟩) rfl (.cons rfl <| .nil) Try.call45 (fun w m hK => by have hle_ := KC.le hK; have hA := KC.agree hK; have hr0_ := hK.2; have hrd_14 := hrd_14.mono hle_; have hrd_15 := hrd_15.mono hle_; exact FnG.mono (sortedR_at (ls := r.labels ++ x.labels) (v := x.var) hA (by simp) (Reads.sl ((Reads.nil.app hrd_14).app hrd_15) hr0_.1 (by decide) (by simp) hr0_.2 (by omega)) hxi (by rw [List.length_append]; omega)) fun _ _ _ _ h => h)) <| .consT rfl rfl (fun _ => rfl) rfl (ob_imgTX 33 rfl rfl rfl fun y33 => ob_store' rfl rfl rfl Try.sizeOf26 rfl rfl rfl) <| .nil) ?_
    intro a4 w4 m4 hst4 hle4 hk4
    have hfr4 := hk4.fr (T' := [(4, _)]) (.old rfl rfl <| .nil)
    obtain ⟨⟨oz14, cz14⟩, e16, hrz14, hcz14⟩ := hk4.ex 26 rfl
    replace e16 : envOf a4 26 = .slice oz14 (r.labels).length cz14 := by rw [e16]; refine congrArg (fun q => Value.slice _ q _) ?_; first | omega | (simp only [List.length_append, List.length_cons, List.length_nil, List.nil_append, List.length_take, List.length_drop]; try omega)
    obtain ⟨⟨oz15, cz15⟩, e17, hrz15, hcz15⟩ := hk4.ex 29 rfl
    replace e17 : envOf a4 29 = .slice oz15 ((r.labels ++ x.labels)).length cz15 := by rw [e17]; refine congrArg (fun q => Value.slice _ q _) ?_; first | omega | (simp only [List.length_append, List.length_cons, List.length_nil, List.nil_append, List.length_take, List.length_drop]; try omega)
    replace hst4 := hst4.fin (L' := [_, _, _]) (.cons e16 <| .cons e17 <| .cons rfl <| .nil)
    try simp only [List.take_succ_cons, List.take_zero, List.drop_succ_cons, List.drop_zero, List.cons_append, List.nil_append, List.append_nil, List.length_cons, List.length_nil, Nat.zero_add, Nat.reduceAdd] at hst4
    obtain ⟨⟨oq, cq⟩, hout, hst4⟩ := hst4.unx (k := 0) rfl (fun _ => rfl)
    replace hrd_14 := hrd_14.mono hle4
    replace hrd_15 := hrd_15.mono hle4
    clear hst3 hfr3 hk4
    have hsz15 : Strs m4 oz15 ((r.labels ++ x.labels)).length cz15 (r.labels ++ x.labels) := Reads.sl ((Reads.nil.app hrd_14).app hrd_15) hrz15 (by decide) rfl (by have h := hcz15; first | omega | (simp only [List.length_append, List.length_cons, List.length_nil, List.nil_append, List.length_take, List.length_drop] at h ⊢; omega)) (by first | omega | (simp only [List.length_append, List.length_cons, List.length_nil, List.nil_append, List.length_take, List.length_drop]; omega))
    refine hK13 _ _ ?_; clear hK13
    refine wp_ret ?_
    repeat (with_reducible first | refine then_ret ?_ | refine block_ret ?_)
    exact fn_ret hst4 hfr4 rfl (.cell rfl (load_blk (blk_heap (hst4.loc.at_ (k := 0) rfl)) Try.isAgg26 Try.sizeOf26) <| .nil) (⟨(oq, cq), by rw [heq]; rfl, by rw [heq]; exact hout⟩)

abbrev rapply_G (t : Ty) : Prop := ∀ {w : World} {m : Mem} {s : Sub} {vs_s : List Value} {vs_t : List Value} (hA : Agree w m) (h_s : RSubR m s vs_s) (h_t : TyR m t vs_t) (hw : SubW 17592186044416 40 s) (hb : wdT t ≤ 17592186044000), FnV Try.prog 36 #[.agg vs_s.toArray, .agg vs_t.toArray] w m (fun _ m v => (MP.ty (applyT s t)).p m v)
set_option maxHeartbeats 3200000 in
theorem rapply_s {t : Ty} (ih : ∀ u ∈ t.args, rapply_G u) {w : World} {m : Mem} {s : Sub} {vs_s : List Value} {vs_t : List Value} (hA : Agree w m) (h_s : RSubR m s vs_s) (h_t : TyR m t vs_t) (hw : SubW 17592186044416 40 s) (hb : wdT t ≤ 17592186044000) : FnV Try.prog 36 #[.agg vs_s.toArray, .agg vs_t.toArray] w m (fun _ m v => (MP.ty (applyT s t)).p m v) := by
  obtain ⟨⟨⟨⟨oA_s, cA_s⟩, oB_s, cB_s⟩, ⟨oC_s, cC_s⟩, oD_s, cD_s⟩, rfl, hqa_s, hqb_s, hqc_s, hqd_s⟩ := id h_s
  have hgb_s := hqa_s.big; have hgd_s := hqc_s.big; simp only [List.length_map] at hgb_s hgd_s
  obtain ⟨o_t, c_t, oL_t, cL_t, rfl, hk_t, hs_t, hi_t, hj_t, hr_t⟩ := h_t.open_
  have hbg_t := hk_t.big; have hcp_t := hk_t.cap; have hbs_t := hs_t.big; have hcs_t := hs_t.cap
  have hrw_t : RwR _ ⟨t.labels, t.rv⟩ _ := ⟨_, _, rfl, hs_t, hr_t⟩
  refine fn_enter (vs := [_, _]) Try.func36 rfl rfl rfl fun a0 hfr0 => ?_
  have hst0 := st_enter hA (loc_nil [] _ w m)
  have hM : MLe m m := MLe.refl m
  have hbk := fun u (hu : u ∈ t.args) => wdT_arg hu
  have hbe := wdT_eq t
  obtain ⟨x, hx⟩ : ∃ x, x = (alook t.var s.ts).getD zeroTy := ⟨_, rfl⟩
  obtain ⟨b, hbx⟩ : ∃ x, x = (alook t.var s.ts).isSome := ⟨_, rfl⟩
  refine seq_any fun _ hK1 => ?_
  replace hst0 := hst0.more (r := .free) trivial List.nodup_nil (by simp [Res.blocks])
  refine ra0 (tch := [(2, 0, (fun v => .blk v _))]) hst0 hfr0 (.cons rfl (ob_box rfl rfl) <| .cons rfl (ob_box rfl rfl) <| .consT rfl rfl (fun _ => rfl) rfl (ob_allocL Try.zeroValue28 rfl) <| .nil) ?_
  intro a1 w1 m1 hst1 hle1 hk1
  have hfr1 := hk1.fr (T' := []) (.nil)
  obtain ⟨g2, e2, hc2⟩ := hk1.ex 2 rfl
  replace hfr1 := hfr1.cons e2
  obtain ⟨g3, e3, hc3⟩ := hk1.ex 3 rfl
  replace hfr1 := hfr1.cons e3
  obtain ⟨g4, e4, _⟩ := hk1.ex 4 rfl
  replace hfr1 := hfr1.cons e4
  replace hst1 := hst1.fin (L' := [_]) (.cons e4 <| .nil)
  replace h_s := h_s.mono hle1
  replace h_t := h_t.mono hle1
  replace hk_t := hk_t.mono hle1
  replace hs_t := hs_t.mono hle1
  clear hst0 hfr0 hk1
  refine hK1 _ _ ?_; clear hK1
  refine seq_any fun _ hK5 => ?_
  refine seq_any fun _ hK6 => ?_
  refine rp0 hst1 hfr1 (.cons rfl (ob_fieldAddrO (off := 0) rfl Try.underlying28 rfl rfl Try.sizeOf3 rfl) <| .cons rfl (ob_load1 rfl hc3 Try.isAgg3 rfl) <| .cons rfl (ob_eql rfl rfl) <| .nil) ?_
  intro a2 w2 m2 hst2 hle2 hk2
  have hfr2 := hk2.fr (T' := [(2, _), (3, _), (4, _), (11, _)]) (.old rfl rfl <| .old rfl rfl <| .old rfl rfl <| .new rfl <| .nil)
  replace h_s := h_s.mono hle2
  replace h_t := h_t.mono hle2
  replace hk_t := hk_t.mono hle2
  replace hs_t := hs_t.mono hle2
  replace hc2 := hc2.mono hle2
  replace hc3 := hc3.mono hle2
  clear hst1 hfr1 hk2
  refine hK6 _ _ ?_; clear hK6
  refine cond_any hfr2 rfl rfl (fun hb11 => ?_) (fun hb11 => ?_)
  · try simp only [nq1, nq2, nq3, nq4, nq5, nq6, nq7, nq8, nq9, u8_eq] at hb11
    refine seq_any fun _ hK7 => ?_
    replace hst2 := hst2.more (r := .free) trivial List.nodup_nil (by simp [Res.blocks])
    refine ra0 (tch := [(7, 1, (fun v => .blk v _)), (8, 1, (fun v => .blkx v _ _))]) hst2 hfr2 (.cons rfl (ob_loadS' rfl hc2 Try.isAgg40 Try.sizeOf40 rfl rfl) <| .cons rfl (ob_fieldAddrO (off := 2) rfl Try.underlying28 rfl rfl Try.sizeOf3 rfl) <| .cons rfl (ob_load1 rfl hc3 Try.isAgg3 rfl) <| .cons rfl (ob_call (φ := MP.tyb x b) rfl (.cons rfl <| .cons rfl <| .nil) Try.call23 (fun w m hK => by have hle_ := KC.le hK; have hA := KC.agree hK; have h_s := h_s.mono hle_; exact FnG.mono (rtype_x (s := s) (n := t.var) hA h_s hx hbx) fun _ _ _ _ h => h)) <| .cons rfl (ob_imgV 16 rfl rfl rfl fun y16 => ob_move rfl) <| .cons rfl (ob_imgV 12 rfl rfl rfl fun y12 => ob_extract rfl rfl) <| .cons rfl (ob_imgE 12 rfl rfl rfl fun y12 => ob_extract rfl rfl) <| .consT rfl rfl (fun _ => rfl) rfl (ob_allocL Try.zeroValue28 rfl) <| .consT rfl rfl (fun _ => rfl) rfl (ob_imgT 5 rfl rfl rfl fun y5 => ob_imgTX 17 rfl rfl rfl fun y17 => ob_storeF rfl rfl rfl rfl rfl Try.sizeOf28 rfl rfl rfl) <| .cons rfl (ob_assign rfl) <| .nil) ?_
    intro a3 w3 m3 hst3 hle3 hk3
    have hfr3 := hk3.fr (T' := [(3, _), (4, _), (6, _)]) (.old rfl rfl <| .old rfl rfl <| .new rfl <| .nil)
    obtain ⟨g8, e8, _⟩ := hk3.ex 5 rfl
    replace hfr3 := hfr3.cons e8
    replace hst3 := hst3.fin (L' := [_, _]) (.cons e8 <| .cons e8 <| .nil)
    try simp only [List.take_succ_cons, List.take_zero, List.drop_succ_cons, List.drop_zero, List.cons_append, List.nil_append, List.append_nil, List.length_cons, List.length_nil, Nat.zero_add, Nat.reduceAdd] at hst3
    obtain ⟨⟨⟨oa, ca⟩, ol, cl⟩, hT, hst3⟩ := hst3.unx (k := 1) rfl (fun _ => rfl)
    replace h_t := h_t.mono hle3
    replace hc3 := hc3.mono hle3
    clear hst2 hfr2 hk3
    refine hK7 _ _ ?_; clear hK7
    refine seq_any fun _ hK10 => ?_
    refine seq_any fun _ hK11 => ?_
    refine rp0 hst3 hfr3 (.cons rfl (ob_move rfl) <| .nil) ?_
    intro a4 w4 m4 hst4 hle4 hk4
    have hfr4 := hk4.fr (T' := [(3, _), (4, _), (5, _), (19, _)]) (.old rfl rfl <| .old rfl rfl <| .old rfl rfl <| .new rfl <| .nil)
    replace h_t := h_t.mono hle4
    replace hc3 := hc3.mono hle4
    replace hT := hT.mono hle4
    clear hst3 hfr3 hk4
    refine hK11 _ _ ?_; clear hK11
    refine cond_any hfr4 rfl rfl (fun hb19 => ?_) (fun hb19 => ?_)
    · try simp only [nq1, nq2, nq3, nq4, nq5, nq6, nq7, nq8, nq9, u8_eq] at hb19
      refine seq_any fun _ hK12 => ?_
      have heq : applyT s t = x := by rw [applyT_var hb11, hx]; exact getD_isSome (by rw [← hbx]; exact hb19)
      refine ra0 (tch := [(1, 0, (fun _ => .blk _ _))]) hst4 hfr4 (.cons rfl (ob_loadLA (j := 1) rfl rfl Try.isAgg28 Try.sizeOf28 rfl) <| .consT rfl rfl (fun _ => rfl) rfl (ob_store' rfl rfl rfl Try.sizeOf28 rfl rfl hT.one) <| .nil) ?_
      intro a5 w5 m5 hst5 hle5 hk5
      have hfr5 := hk5.fr (T' := [(4, _)]) (.old rfl rfl <| .nil)
      replace hst5 := hst5.fin (L' := [_, _]) (.cons rfl <| .nil)
      try simp only [List.take_succ_cons, List.take_zero, List.drop_succ_cons, List.drop_zero, List.cons_append, List.nil_append, List.append_nil, List.length_cons, List.length_nil, Nat.zero_add, Nat.reduceAdd] at hst5
      replace hT := hT.mono hle5
      clear hst4 hfr4 hk5
      refine hK12 _ _ ?_; clear hK12
      refine wp_ret ?_
      repeat (with_reducible first | refine then_ret ?_ | refine block_ret ?_)
      exact fn_ret hst5 hfr5 rfl (.cell rfl (load_blk (blk_heap (hst5.loc.at_ (k := 0) rfl)) Try.isAgg28 Try.sizeOf28) <| .nil) (⟨((oa, ca), (ol, cl)), by rw [heq]; rfl, by rw [heq]; exact hT⟩)
    · try simp only [nq1, nq2, nq3, nq4, nq5, nq6, nq7, nq8, nq9, u8_eq] at hb19
      refine wp_skip ?_
      refine hK10 _ _ ?_; clear hK10
      refine seq_any fun _ hK14 => ?_
      have heq : applyT s t = t := by rw [applyT_var hb11]; cases hq : alook t.var s.ts with | none => rfl | some z => (rw [hq] at hbx; rw [hbx] at hb19; cases hb19)
      refine ra0 (tch := [(1, 0, (fun _ => .blk _ _))]) hst4 hfr4 (.cons rfl (ob_loadS' rfl hc3 Try.isAgg28 Try.sizeOf28 rfl rfl) <| .consT rfl rfl (fun _ => rfl) rfl (ob_store' rfl rfl rfl Try.sizeOf28 rfl rfl h_t.one) <| .nil) ?_
      intro a5 w5 m5 hst5 hle5 hk5
      have hfr5 := hk5.fr (T' := [(4, _)]) (.old rfl rfl <| .nil)
      replace hst5 := hst5.fin (L' := [_, _]) (.cons rfl <| .nil)
      try simp only [List.take_succ_cons, List.take_zero, List.drop_succ_cons, List.drop_zero, List.cons_append, List.nil_append, List.append_nil, List.length_cons, List.length_nil, Nat.zero_add, Nat.reduceAdd] at hst5
      replace h_t := h_t.mono hle5
      clear hst4 hfr4 hk5
      refine hK14 _ _ ?_; clear hK14
      refine wp_ret ?_
      repeat (with_reducible first | refine then_ret ?_ | refine block_ret ?_)
      exact fn_ret hst5 hfr5 rfl (.cell rfl (load_blk (blk_heap (hst5.loc.at_ (k := 0) rfl)) Try.isAgg28 Try.sizeOf28) <| .nil) (⟨((o_t, c_t), (oL_t, cL_t)), by rw [heq]; rfl, by rw [heq]; exact h_t⟩)
  · try simp only [nq1, nq2, nq3, nq4, nq5, nq6, nq7, nq8, nq9, u8_eq] at hb11
    refine wp_skip ?_
    refine hK5 _ _ ?_; clear hK5
    refine seq_any fun _ hK16 => ?_
    replace hst2 := hst2.more (r := .free) trivial List.nodup_nil (by simp [Res.blocks])
    refine ra0 (tch := [(1, 1, (fun v => .blk v _)), (2, 1, (fun v => .blk v _))]) hst2 hfr2 (.cons rfl (ob_loadS' rfl hc3 Try.isAgg28 Try.sizeOf28 rfl rfl) <| .consT rfl rfl (fun _ => rfl) rfl (ob_allocL Try.zeroValue28 rfl) <| .consT rfl rfl (fun _ => rfl) rfl (ob_imgT 7 rfl rfl rfl fun y7 => ob_storeF rfl rfl rfl rfl rfl Try.sizeOf28 rfl rfl h_t.one) <| .nil) ?_
    intro a3 w3 m3 hst3 hle3 hk3
    have hfr3 := hk3.fr (T' := [(2, _), (3, _), (4, _)]) (.old rfl rfl <| .old rfl rfl <| .old rfl rfl <| .nil)
    obtain ⟨gB, e17, _⟩ := hk3.ex 7 rfl
    replace hfr3 := hfr3.cons e17
    replace hst3 := hst3.fin (L' := [_, _]) (.cons e17 <| .cons e17 <| .nil)
    try simp only [List.take_succ_cons, List.take_zero, List.drop_succ_cons, List.drop_zero, List.cons_append, List.nil_append, List.append_nil, List.length_cons, List.length_nil, Nat.zero_add, Nat.reduceAdd] at hst3
    replace h_s := h_s.mono hle3
    replace hk_t := hk_t.mono hle3
    replace hs_t := hs_t.mono hle3
    replace hc2 := hc2.mono hle3
    replace hc3 := hc3.mono hle3
    clear hst2 hfr2 hk3
    refine hK16 _ _ ?_; clear hK16
    refine seq_any fun _ hK18 => ?_
    refine ra0 (tch := [(1, 1, (fun _ => .blk _ _))]) hst3 hfr3 (.cons rfl (ob_fieldAddrO (off := 3) rfl Try.underlying28 rfl rfl Try.sizeOf23 rfl) <| .consT rfl rfl (fun _ => rfl) rfl (ob_store rfl rfl rfl Try.sizeOf23 rfl rfl rfl) <| .nil) ?_
    intro a4 w4 m4 hst4 hle4 hk4
    have hfr4 := hk4.fr (T' := [(2, _), (3, _), (4, _), (7, _)]) (.old rfl rfl <| .old rfl rfl <| .old rfl rfl <| .old rfl rfl <| .nil)
    replace hst4 := hst4.fin (L' := [_, _]) (.cons rfl <| .nil)
    try simp only [List.take_succ_cons, List.take_zero, List.drop_succ_cons, List.drop_zero, List.cons_append, List.nil_append, List.append_nil, List.length_cons, List.length_nil, Nat.zero_add, Nat.reduceAdd] at hst4
    replace h_s := h_s.mono hle4
    replace hk_t := hk_t.mono hle4
    replace hs_t := hs_t.mono hle4
    replace hc2 := hc2.mono hle4
    replace hc3 := hc3.mono hle4
    clear hst3 hfr3 hk4
    have hst4 := hst4.more (r := .rowx (.slice none 0 0) 0 6 28 (MP.reads (fun m vs t => TyR m t vs) 6 [])) rowx_new List.nodup_nil (by simp [Res.blocks, rowBlock])
    have hsl_K : Tys m4 none ([] : List Ty).length 0 ([] : List Ty) := Sl.empty
    refine hK18 _ _ ?_; clear hK18
    refine seq_any fun _ hK19 => ?_
    refine seq_any fun _ hK20 => ?_
    refine rp0 hst4 hfr4 (.cons rfl (ob_assign rfl) <| .nil) ?_
    intro a5 w5 m5 hst5 hle5 hk5
    have hfr5 := hk5.fr (T' := [(2, _), (3, _), (4, _), (7, _), (8, _)]) (.old rfl rfl <| .old rfl rfl <| .old rfl rfl <| .old rfl rfl <| .new rfl <| .nil)
    replace h_s := h_s.mono hle5
    replace hk_t := hk_t.mono hle5
    replace hs_t := hs_t.mono hle5
    replace hc2 := hc2.mono hle5
    replace hc3 := hc3.mono hle5
    replace hsl_K := hsl_K.mono hle5
    clear hst4 hfr4 hk5
    refine hK20 _ _ ?_; clear hK20
    refine wp_block ?_
    refine loop_any (T := [(2, _), (3, _), (4, _), (7, _)]) (fun (y : Nat × Option Addr × Nat × List Ty) => ([(8, .int .i64 (y.1 : Int))] : List (Nat × Value))) (fun y => [_, .blk (.pointer (some ⟨gB, 0, none⟩)) (.cells (tyV ⟨t.kind, t.name, t.var, y.2.2.2, t.labels, t.rv⟩ ((y.2.1, y.2.2.1), (oL_t, cL_t))).toArray 28), .rowx (nz (.slice y.2.1 y.2.2.2.length y.2.2.1)) y.2.2.2.length 6 28 (MP.reads (fun m vs t => TyR m t vs) 6 y.2.2.2)]) (fun (y : Nat × Option Addr × Nat × List Ty) m => (fun (y : Nat) (klo : Option Addr) (klp : Nat) (kl : List Ty) => (y ≤ t.args.length) ∧ (Tys m klo kl.length klp kl) ∧ (applyTs s t.args = kl ++ applyTs s (t.args.drop y) ∧ kl.length ≤ y)) y.1 y.2.1 y.2.2.1 y.2.2.2) (fun y => t.args.length - y.1) ((0, none, 0, ([] : List Ty))) ⟨hst5, MLe.refl _, hfr5.sub (.cons rfl <| .cons rfl <| .cons rfl <| .cons rfl <| .cons rfl <| .nil), ⟨Nat.zero_le _, hsl_K, ⟨rfl, Nat.le_refl _⟩⟩⟩ fun y a6 w6 m6 hh6 => ?_
    have hst6 := hh6.st; have hle6 := hh6.le; have hfr6 := hh6.fr; have hrel := hh6.rel; clear hh6
    replace h_s := h_s.mono hle6
    replace hk_t := hk_t.mono hle6
    replace hs_t := hs_t.mono hle6
    replace hc2 := hc2.mono hle6
    replace hc3 := hc3.mono hle6
    clear hst5 hfr5
    obtain ⟨y, klo, klp, kl⟩ := y
    dsimp only at hrel hfr6 hst6
    obtain ⟨hyn, hsl_kl, hlen_kl⟩ := hrel
    have hlh6 := hle6
    refine seq_any fun _ hK22 => ?_
    refine seq_any fun _ hK23 => ?_
    refine rp0 hst6 hfr6 (.cons rfl (ob_move rfl) <| .cons rfl (ob_fieldAddrO (off := 3) rfl Try.underlying28 rfl rfl Try.sizeOf23 rfl) <| .cons rfl (ob_load1 rfl hc3 Try.isAgg23 rfl) <| .cons rfl (ob_len rfl Try.underlying23) <| .cons rfl (ob_lss rfl rfl) <| .nil) ?_
    intro a7 w7 m7 hst7 hle7 hk7
    have hfr7 := hk7.fr (T' := [(8, _), (2, _), (3, _), (4, _), (7, _), (28, _)]) (.old rfl rfl <| .old rfl rfl <| .old rfl rfl <| .old rfl rfl <| .old rfl rfl <| .new rfl <| .nil)
    replace h_s := h_s.mono hle7
    replace hk_t := hk_t.mono hle7
    replace hs_t := hs_t.mono hle7
    replace hc2 := hc2.mono hle7
    replace hc3 := hc3.mono hle7
    replace hsl_kl := hsl_kl.mono hle7
    have hlh7 := hlh6.trans hle7
    clear hst6 hfr6 hk7
    refine hK23 _ _ ?_; clear hK23
    refine cond_any hfr7 rfl rfl (fun hb28 => ?_) (fun hb28 => ?_)
    · try simp only [nq1, nq2, nq3, nq4, nq5, nq6, nq7, nq8, nq9, u8_eq] at hb28
      refine wp_skip ?_
      refine hK22 _ _ ?_; clear hK22
      refine seq_any fun _ hK24 => ?_
      refine wp_block ?_
      obtain ⟨p25, vs25, x25, ho25, hd25, hm_x25, ht25, hcv25, hl25, hv25⟩ := hk_t.nth (k := y) (by omega)
      cases ho25
      obtain ⟨o25, c25, oL25, cL25, rfl, hkd25, hs25, hi25, hj25, hr25⟩ := hv25.open_
      have hbg25 := hkd25.big; have hcp25 := hkd25.cap; have hbs25 := hs25.big; have hcs25 := hs25.cap
      have hrw25 : RwR _ ⟨x25.labels, x25.rv⟩ _ := ⟨_, _, rfl, hs25, hr25⟩
      have hbx9 := hbk x25 hm_x25
      rw [hd25, applyTs] at hlen_kl
      have hkll := hlen_kl.2
      refine region_any (tch := [(10, 2, (fun v => .rowx (nz v) _ _ _ _)), (12, 1, (fun u => .blk _ (.cells (_ ++ [u] ++ _).toArray _)))]) (fun _ => mixed) hst7 hfr7 (by kernel_rfl) (by kernel_rfl) (by kernel_rfl) (.cons rfl (ob_fieldAddrO (off := 3) rfl Try.underlying28 rfl rfl Try.sizeOf23 rfl) <| .cons rfl (ob_loadL (j := 1) rfl rfl Try.isAgg23 rfl) <| .cons rfl (ob_loadS' rfl hc2 Try.isAgg40 Try.sizeOf40 rfl rfl) <| .cons rfl (ob_fieldAddrO (off := 3) rfl Try.underlying28 rfl rfl Try.sizeOf23 rfl) <| .cons rfl (ob_load1 rfl hc3 Try.isAgg23 rfl) <| .cons rfl (ob_move rfl) <| .cons rfl (ob_indexAddr (k := y) rfl rfl Try.underlying23 Try.sizeOf28 rfl (by omega)) <| .cons rfl (ob_loadS' rfl hcv25 Try.isAgg28 Try.sizeOf28 rfl rfl) <| .cons rfl (ob_call (φ := MP.ty (applyT s x25)) rfl (.cons rfl <| .cons rfl <| .nil) Try.call36 (fun w m hK => by have hle_ := KC.le hK; have hA := KC.agree hK; have h_s := h_s.mono hle_; have hv25 := hv25.mono hle_; exact FnG.mono (ih _ hm_x25 hA h_s hv25 hw (by omega)) fun _ _ _ _ h => h)) <| .cons rfl (ob_imgI 39 rfl rfl rfl fun y39 => ob_buildSlice1 rfl Try.underlying23 Try.sizeOf28 Try.zeroValue28 rfl rfl rfl rfl) <| .consT rfl rfl (fun _ => rfl) rfl (ob_imgT 40 rfl rfl rfl fun y40 => ob_appendX (size := 6) (bytes := 88) (l := kl) (l' := [applyT s x25]) rfl rfl (fun _ => by first | exact .inl rfl | exact .inr (.inl rfl)) Try.underlying23 Try.type28 rfl rfl rfl rfl (fun w m hK => Sl.one (R := fun m vs t => TyR m t vs) hK.2.2 rfl hK.2.1) rfl (by decide) (by simp only [maxLen]; omega) (by omega)) <| .cons rfl (ob_fieldAddrO (off := 3) rfl Try.underlying28 rfl rfl Try.sizeOf23 rfl) <| .consT rfl rfl (fun _ => rfl) rfl (ob_imgT 41 rfl rfl rfl fun y41 => ob_storeV rfl rfl rfl rfl rfl Try.sizeOf23 rfl rfl rfl) <| .nil) ?_
      intro a8 w8 m8 hst8 hle8 hk8
      have hfr8 := hk8.fr (T' := [(8, _), (2, _), (3, _), (4, _), (7, _)]) (.old rfl rfl <| .old rfl rfl <| .old rfl rfl <| .old rfl rfl <| .old rfl rfl <| .nil)
      obtain ⟨⟨K_26o, K_26p⟩, e27, hsl_K_26⟩ := hk8.ex 41 rfl
      replace hst8 := hst8.fin (L' := [_, _, _]) (.cons e27 <| .cons e27 <| .nil)
      try simp only [List.take_succ_cons, List.take_zero, List.drop_succ_cons, List.drop_zero, List.cons_append, List.nil_append, List.append_nil, List.length_cons, List.length_nil, Nat.zero_add, Nat.reduceAdd] at hst8
      have hlh8 := hlh7.trans hle8
      clear hst7 hfr7 hk8
      replace hsl_K_26 : Tys m8 K_26o (kl ++ [applyT s x25]).length K_26p (kl ++ [applyT s x25]) := hsl_K_26
      refine hK24 _ _ ?_; clear hK24
      refine rp0 hst8 hfr8 (.cons rfl (ob_move rfl) <| .cons rfl (ob_add rfl rfl ⟨by omega, by omega⟩) <| .cons rfl (ob_assign rfl) <| .nil) ?_
      intro a9 w9 m9 hst9 hle9 hk9
      have hfr9 := hk9.fr (T' := [(2, _), (3, _), (4, _), (7, _), (8, _)]) (.old rfl rfl <| .old rfl rfl <| .old rfl rfl <| .old rfl rfl <| .new rfl <| .nil)
      replace hsl_K_26 := hsl_K_26.mono hle9
      have hlh9 := hlh8.trans hle9
      clear hst8 hfr8 hk9
      exact ⟨(y + 1, K_26o, K_26p, (kl ++ [applyT s x25])), m9, by show t.args.length - (y + 1) < t.args.length - y; omega, ⟨hst9, hlh9, hfr9.sub (.cons rfl <| .cons rfl <| .cons rfl <| .cons rfl <| .cons rfl <| .nil), ⟨by show y + 1 ≤ t.args.length; omega, hsl_K_26, ⟨by rw [hlen_kl.1]; show _ = (kl ++ [applyT s x25]) ++ applyTs s (t.args.drop (y + 1)); simp, by show (kl ++ [applyT s x25]).length ≤ y + 1; simp; omega⟩⟩⟩⟩
    · try simp only [nq1, nq2, nq3, nq4, nq5, nq6, nq7, nq8, nq9, u8_eq] at hb28
      have hge : y = t.args.length := by omega
      rw [List.drop_of_length_le (by omega), applyTs, List.append_nil] at hlen_kl
      refine wp_exit ?_
      refine hK19 _ _ ?_; clear hK19
      refine seq_any fun _ hK28 => ?_
      refine seq_any fun _ hK29 => ?_
      refine rp0 hst7 hfr7 (.cons rfl (ob_fieldAddrO (off := 0) rfl Try.underlying28 rfl rfl Try.sizeOf3 rfl) <| .cons rfl (ob_load1 rfl hc3 Try.isAgg3 rfl) <| .cons rfl (ob_eql rfl rfl) <| .nil) ?_
      intro a8 w8 m8 hst8 hle8 hk8
      have hfr8 := hk8.fr (T' := [(8, _), (2, _), (3, _), (4, _), (7, _), (45, _)]) (.old rfl rfl <| .old rfl rfl <| .old rfl rfl <| .old rfl rfl <| .old rfl rfl <| .new rfl <| .nil)
      replace h_s := h_s.mono hle8
      replace hs_t := hs_t.mono hle8
      replace hc2 := hc2.mono hle8
      replace hc3 := hc3.mono hle8
      replace hsl_kl := hsl_kl.mono hle8
      have hlh8 := hlh7.trans hle8
      clear hst7 hfr7 hk8
      refine hK29 _ _ ?_; clear hK29
      refine cond_any hfr8 rfl rfl (fun hb45 => ?_) (fun hb45 => ?_)
      · try simp only [nq1, nq2, nq3, nq4, nq5, nq6, nq7, nq8, nq9, u8_eq] at hb45
        refine ra0 (tch := [(5, 1, (fun _ => .blkx _ _ _))]) hst8 hfr8 (.cons rfl (ob_loadS' rfl hc2 Try.isAgg40 Try.sizeOf40 rfl rfl) <| .cons rfl (ob_fieldAddrO (off := 4) rfl Try.underlying28 rfl rfl Try.sizeOf26 rfl) <| .cons rfl (ob_loadS rfl hc3 Try.isAgg26 Try.sizeOf26 rfl rfl) <| .cons rfl (ob_call (φ := MP.rw (applyR s ⟨t.labels, t.rv⟩)) rfl (.cons rfl <| .cons rfl <| .nil) Try.call37 (fun w m hK => by have hle_ := KC.le hK; have hA := KC.agree hK; have h_s := h_s.mono hle_; have hs_t := hs_t.mono hle_; exact FnG.mono (rapplyR_c (r := ⟨t.labels, t.rv⟩) hA h_s ⟨_, _, rfl, hs_t, hr_t⟩ hw (by show t.labels.length ≤ _; omega)) fun _ _ _ _ h => h)) <| .cons rfl (ob_fieldAddrO (off := 4) rfl Try.underlying28 rfl rfl Try.sizeOf26 rfl) <| .consT rfl rfl (fun _ => rfl) rfl (ob_imgTX 49 rfl rfl rfl fun y49 => ob_store rfl rfl rfl Try.sizeOf26 rfl rfl rfl) <| .nil) ?_
        intro a9 w9 m9 hst9 hle9 hk9
        have hfr9 := hk9.fr (T' := [(8, _), (4, _), (7, _)]) (.old rfl rfl <| .old rfl rfl <| .old rfl rfl <| .nil)
        replace hst9 := hst9.fin (L' := [_, _, _]) (.cons rfl <| .nil)
        try simp only [List.take_succ_cons, List.take_zero, List.drop_succ_cons, List.drop_zero, List.cons_append, List.nil_append, List.append_nil, List.length_cons, List.length_nil, Nat.zero_add, Nat.reduceAdd] at hst9
        obtain ⟨⟨oR9, cR9⟩, hRR, hst9⟩ := hst9.unx (k := 1) rfl (fun _ => rfl)
        replace hsl_kl := hsl_kl.mono hle9
        have hlh9 := hlh8.trans hle9
        clear hst8 hfr8 hk9
        have hRS := (rwV_open hRR).1
        have hRI := (rwV_open hRR).2
        have h9 := TyR.build (k := t.kind) (s := t.name) (v := t.var) (ks := kl) (ls := (applyR s ⟨t.labels, t.rv⟩).labels) (r := (applyR s ⟨t.labels, t.rv⟩).var) hsl_kl hRS hi_t hj_t hRI
        have hfe : applyT s t = ⟨t.kind, t.name, t.var, kl, (applyR s ⟨t.labels, t.rv⟩).labels, (applyR s ⟨t.labels, t.rv⟩).var⟩ := by rw [applyT_not hb11, if_pos hb45, if_pos hb45, hlen_kl.1]
        rw [← hfe] at h9
        have htv : tyV (applyT s t) ((klo, klp), (oR9, cR9)) = [.int .i64 t.kind, S t.name, .int .i64 t.var, .slice klo (kl).length klp, .slice oR9 ((applyR s ⟨t.labels, t.rv⟩).labels).length cR9,   .int .i64 ((applyR s ⟨t.labels, t.rv⟩).var)] := by rw [hfe]; rfl
        refine hK28 _ _ ?_; clear hK28
        refine seq_any fun _ hK31 => ?_
        refine ra0 (tch := [(1, 0, (fun _ => .blk _ _))]) hst9 hfr9 (.cons rfl (ob_loadLA (j := 1) rfl rfl Try.isAgg28 Try.sizeOf28 rfl) <| .consT rfl rfl (fun _ => rfl) rfl (ob_store' rfl rfl rfl Try.sizeOf28 rfl rfl h9.one) <| .nil) ?_
        intro a10 w10 m10 hst10 hle10 hk10
        have hfr10 := hk10.fr (T' := [(8, _), (4, _)]) (.old rfl rfl <| .old rfl rfl <| .nil)
        replace hst10 := hst10.fin (L' := [_, _, _]) (.cons rfl <| .nil)
        try simp only [List.take_succ_cons, List.take_zero, List.drop_succ_cons, List.drop_zero, List.cons_append, List.nil_append, List.append_nil, List.length_cons, List.length_nil, Nat.zero_add, Nat.reduceAdd] at hst10
        replace h9 := h9.mono hle10
        have hlh10 := hlh9.trans hle10
        clear hst9 hfr9 hk10
        refine hK31 _ _ ?_; clear hK31
        refine wp_ret ?_
        repeat (with_reducible first | refine then_ret ?_ | refine block_ret ?_)
        exact fn_ret hst10 hfr10 rfl (.cell rfl (load_blk (blk_heap (hst10.loc.at_ (k := 0) rfl)) Try.isAgg28 Try.sizeOf28) <| .nil) (⟨((klo, klp), (oR9, cR9)), congrArg (fun l : List Value => Value.agg l.toArray) htv.symm, by show TyR _ _ (tyV (applyT s t) ((klo, klp), (oR9, cR9))); rw [htv]; exact h9⟩)
      · try simp only [nq1, nq2, nq3, nq4, nq5, nq6, nq7, nq8, nq9, u8_eq] at hb45
        have h9 := TyR.build (k := t.kind) (s := t.name) (v := t.var) (ks := kl) (ls := t.labels) (r := t.rv) hsl_kl hs_t hi_t hj_t hr_t
        have hfe : applyT s t = ⟨t.kind, t.name, t.var, kl, t.labels, t.rv⟩ := by rw [applyT_not hb11, if_neg hb45, if_neg hb45, hlen_kl.1]
        rw [← hfe] at h9
        have htv : tyV (applyT s t) ((klo, klp), (oL_t, cL_t)) = [.int .i64 t.kind, S t.name, .int .i64 t.var, .slice klo (kl).length klp, .slice oL_t (t.labels).length cL_t,   .int .i64 (t.rv)] := by rw [hfe]; rfl
        refine wp_skip ?_
        refine hK28 _ _ ?_; clear hK28
        refine seq_any fun _ hK33 => ?_
        refine ra0 (tch := [(1, 0, (fun _ => .blk _ _))]) hst8 hfr8 (.cons rfl (ob_loadLA (j := 1) rfl rfl Try.isAgg28 Try.sizeOf28 rfl) <| .consT rfl rfl (fun _ => rfl) rfl (ob_store' rfl rfl rfl Try.sizeOf28 rfl rfl h9.one) <| .nil) ?_
        intro a9 w9 m9 hst9 hle9 hk9
        have hfr9 := hk9.fr (T' := [(8, _), (4, _)]) (.old rfl rfl <| .old rfl rfl <| .nil)
        replace hst9 := hst9.fin (L' := [_, _, _]) (.cons rfl <| .nil)
        try simp only [List.take_succ_cons, List.take_zero, List.drop_succ_cons, List.drop_zero, List.cons_append, List.nil_append, List.append_nil, List.length_cons, List.length_nil, Nat.zero_add, Nat.reduceAdd] at hst9
        replace h9 := h9.mono hle9
        have hlh9 := hlh8.trans hle9
        clear hst8 hfr8 hk9
        refine hK33 _ _ ?_; clear hK33
        refine wp_ret ?_
        repeat (with_reducible first | refine then_ret ?_ | refine block_ret ?_)
        exact fn_ret hst9 hfr9 rfl (.cell rfl (load_blk (blk_heap (hst9.loc.at_ (k := 0) rfl)) Try.isAgg28 Try.sizeOf28) <| .nil) (⟨((klo, klp), (oL_t, cL_t)), congrArg (fun l : List Value => Value.agg l.toArray) htv.symm, by show TyR _ _ (tyV (applyT s t) ((klo, klp), (oL_t, cL_t))); rw [htv]; exact h9⟩)
theorem rapply_c (t : Ty) : rapply_G t := Ty.rec_ (p := rapply_G) (fun t ih => rapply_s ih) t

end Go.Proofs.Ytfphefkfbhjfdaa
