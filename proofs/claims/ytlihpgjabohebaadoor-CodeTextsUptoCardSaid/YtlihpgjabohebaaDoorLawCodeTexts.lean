/-
  A law of chapter 15, walked. Conditions: those of the theorem.
-/
import Derived.Test.YtlihpgjabohebaaDoorCtok
import Derived.Test.YtlihpgjabohebaaDoorCref
namespace Go.Proofs.YtlihpgjabohebaaDoor
set_option linter.all false
set_option maxRecDepth 4000
open Go.RowKit
theorem right_kind {t : Cd} (h : rightC t = true) : 1 ≤ t.kind ∧ t.kind ≤ 15 := by
  rcases kind_cases t with hk | hk
  · omega
  · rw [rightC_eq] at h
    have : headC t = false := by
      obtain ⟨h1, h2, h3, h4, h5, h6, h7, h8, h9, h10, h11, h12, h13, h14, h15⟩ := hk
      unfold headC; simp [*]
    rw [this] at h; cases h
theorem atom_right {t : Cd} (h : rightC t = true) : atomC t = decide (t.kind ≤ 5) := by
  have := (right_kind h).1
  unfold atomC; simp [this]
theorem right_node (k : Int) (s p : Str) (l : List Cd) (az : List Ca) : rightC (nodeC k s p l az) = (headC (nodeC k s p l az) && armsOk k 0 az && l.all rightC && az.all fun a => rightC a.body) := rightC_eq _
theorem right_unit : rightC unitC = true := by decide
theorem atom_unit : atomC unitC = true := by decide
theorem cds_cells {m : Mem} {g : Nat} (l : List (Cd × List Value)) (hc : CellsAt m ⟨g, 0, none⟩ (l.map Prod.snd).flatten) (h : ∀ x ∈ l, CdR m x.1 x.2) (hb : l.length ≤ 100) : Cds m (some ⟨g, 0, none⟩) l.length l.length (l.map Prod.fst) := by
  have h1 := Sl.of_row (R := fun m vs (x : Cd × List Value) => CdR m x.1 vs) (sz := 6) (f := Prod.snd) (.inr ⟨_, rfl, by rw [List.flatMap_def]; exact hc⟩) rfl (Nat.le_refl _) (by omega) (by omega) fun x hx => ⟨(h x hx).len, h x hx⟩
  refine ⟨by simp, h1.cap, h1.big, fun i x hx => ?_⟩
  rw [List.getElem?_map] at hx
  cases e : l[i]? with
  | none => rw [e] at hx; cases hx
  | some y =>
    rw [e] at hx; simp only [Option.map_some, Option.some.injEq] at hx; subst hx
    exact h1.at_ i y e
def AllR (m : Mem) : List (Cd × List Value) → Prop
  | [] => True
  | x :: l => CdR m x.1 x.2 ∧ AllR m l
theorem allR {m : Mem} : ∀ (l : List (Cd × List Value)), AllR m l → ∀ x ∈ l, CdR m x.1 x.2
  | [], _, x, hx => by cases hx
  | y :: l, h, x, hx => by
    rcases List.mem_cons.1 hx with rfl | hx
    · exact h.1
    · exact allR l h.2 x hx
theorem node3_R {m : Mem} {k : Int} {s p : Str} {t u v : Cd} {g : Nat} {vs us ws : List Value} (hk : InI64 k) (hc : CellsAt m ⟨g, 0, none⟩ [vs, us, ws].flatten) (h : CdR m t vs) (h2 : CdR m u us) (h3 : CdR m v ws) : CdR m (nodeC k s p [t, u, v] []) (cdV (nodeC k s p [t, u, v] []) ⟨some ⟨g, 0, none⟩, 3, none, 0⟩) :=
  CdR.build hk i0 (cds_cells [(t, vs), (u, us), (v, ws)] hc (fun x hx => by simp only [List.mem_cons, List.not_mem_nil, or_false] at hx; rcases hx with rfl | rfl | rfl <;> assumption) (Nat.le_of_ble_eq_true rfl)) Sl.empty
theorem wsum_mem : ∀ {l : List Str} {x : Str}, x ∈ l → x.length ≤ wsum l
  | y :: l, x, h => by
    rw [wsum_cons]
    rcases List.mem_cons.1 h with rfl | h
    · omega
    · have := wsum_mem h; omega
theorem cleanA_eq (a : Ca) : cleanA a = (wordB a.name && cleanC a.body && a.vars.all wordB) := rfl
open Classical in
noncomputable def sameB (t u : Cd) : Bool := decide (t = u)
open Classical in
theorem same_yes {t u : Cd} (h : t = u) : sameB t u = true := decide_eq_true h
open Classical in
theorem same_no {t u : Cd} (h : ¬ t = u) : sameB t u = false := decide_eq_false h
open Classical in
theorem same_iff {t u : Cd} : sameB t u = true ↔ t = u := decide_eq_true_iff
open Classical in
theorem same_niff {t u : Cd} : sameB t u = false ↔ ¬ t = u := decide_eq_false_iff_not
theorem take_all {α : Type} {l k : List α} {n : Nat} (hl : n = l.length) (hk : n = k.length) (h : l.take n = k.take n) : l = k := by rw [List.take_of_length_le (by omega), List.take_of_length_le (by omega)] at h; exact h
theorem drop_ne {α : Type} {l k : List α} {y : Nat} {a b : α} {r q : List α} (h1 : l.drop y = a :: r) (h2 : k.drop y = b :: q) (h : ¬ a = b) : ¬ l = k := fun e => by
  subst e; rw [h1] at h2; injection h2 with h3 _; exact h h3
theorem ca_ne {a b : Ca} (h : ¬ (a.name = b.name ∧ a.tail = b.tail ∧ a.vars = b.vars ∧ a.body = b.body)) : ¬ a = b := fun e => h (by subst e; exact ⟨rfl, rfl, rfl, rfl⟩)
theorem ca_eq {a b : Ca} (h1 : a.name = b.name) (h2 : a.tail = b.tail) (h3 : a.vars = b.vars) (h4 : a.body = b.body) : a = b := by
  obtain ⟨s, l, tl, t⟩ := a; obtain ⟨s', l', tl', t'⟩ := b
  simp only [Ca.name, Ca.tail, Ca.vars, Ca.body] at h1 h2 h3 h4
  rw [h1, h2, h3, h4]
theorem cd_eq {a b : Cd} (h1 : a.kind = b.kind) (h2 : a.name = b.name) (h3 : a.param = b.param) (h4 : a.n = b.n) (h5 : a.kids = b.kids) (h6 : a.arms = b.arms) : a = b := by
  obtain ⟨k, s, p, n, l, z⟩ := a; obtain ⟨k', s', p', n', l', z'⟩ := b
  simp only [Cd.kind, Cd.name, Cd.param, Cd.n, Cd.kids, Cd.arms] at h1 h2 h3 h4 h5 h6
  rw [h1, h2, h3, h4, h5, h6]
theorem texts_law {t u : Cd} (ht : OkC t) (hu : OkC u) : decide (textC t = textC u) = sameB t u := by
  by_cases h : t = u
  · rw [same_yes h, h]; simp
  · rw [same_no h]; exact decide_eq_false fun e => h (text_inj ht hu e)
set_option maxHeartbeats 800000 in
theorem word_c {w : World} {m : Mem} {s : Str} (hA : Agree w m) (hb : s.length ≤ 1000000000) : FnV Tryd.prog 39 #[S s] w m (fun _ _ v => v = .bool (wordB s)) := by
  refine fn_enter (vs := [_]) Tryd.func39 rfl rfl rfl fun a0 hfr0 => ?_
  have hst0 := st_enter hA (loc_nil [] _ w m)
  have hM : MLe m m := MLe.refl m
  refine seq_any fun _ hK1 => ?_
  refine rp0 hst0 hfr0 (.cons rfl (ob_assign rfl) <| .nil) ?_
  intro a1 w1 m1 hst1 hle1 hk1
  have hfr1 := hk1.fr (T' := [(0, _)]) (.old rfl rfl <| .nil)
  clear hst0 hfr0 hk1
  refine hK1 _ _ ?_; clear hK1
  refine seq_any fun _ hK2 => ?_
  refine seq_any fun _ hK3 => ?_
  refine rp0 hst1 hfr1 (.cons rfl (ob_assign rfl) <| .nil) ?_
  intro a2 w2 m2 hst2 hle2 hk2
  have hfr2 := hk2.fr (T' := [(0, _), (3, _)]) (.old rfl rfl <| .new rfl <| .nil)
  clear hst1 hfr1 hk2
  refine hK3 _ _ ?_; clear hK3
  refine wp_block ?_
  refine loop_any (T := [(0, _)]) (fun (y : Nat) => ([(3, .int .i64 (y : Int))] : List (Nat × Value))) (fun _ => _) (fun (y : Nat) m => (y ≤ s.length) ∧ (s.all letB = (s.drop y).all letB)) (fun y => s.length - y) (0) ⟨hst2, MLe.refl _, hfr2.sub (.cons rfl <| .cons rfl <| .nil), ⟨Nat.zero_le _, rfl⟩⟩ fun y a3 w3 m3 hh3 => ?_
  have hst3 := hh3.st; have hle3 := hh3.le; have hfr3 := hh3.fr; have hrel := hh3.rel; clear hh3
  clear hst2 hfr2
  obtain ⟨hyn, hrem⟩ := hrel
  have hlh3 := hle3
  refine seq_any fun _ hK5 => ?_
  refine seq_any fun _ hK6 => ?_
  refine rp0 hst3 hfr3 (.cons rfl (ob_move rfl) <| .cons rfl (ob_move rfl) <| .cons rfl (ob_slen rfl Tryd.underlying9) <| .cons rfl (ob_lss rfl rfl) <| .nil) ?_
  intro a4 w4 m4 hst4 hle4 hk4
  have hfr4 := hk4.fr (T' := [(3, _), (0, _), (8, _)]) (.old rfl rfl <| .old rfl rfl <| .new rfl <| .nil)
  have hlh4 := hlh3.trans hle4
  clear hst3 hfr3 hk4
  refine hK6 _ _ ?_; clear hK6
  refine cond_any hfr4 rfl rfl (fun hb8 => ?_) (fun hb8 => ?_)
  · try simp only [nq1, nq2, nq3, nq4, nq5, nq6, nq7, nq8, nq9, u8_eq] at hb8
    refine wp_skip ?_
    refine hK5 _ _ ?_; clear hK5
    refine seq_any fun _ hK7 => ?_
    refine wp_block ?_
    refine seq_any fun _ hK8 => ?_
    obtain ⟨c9, hd9, hi9⟩ : ∃ c, s.drop y = c :: s.drop (y + 1) ∧ s[y]? = some c := ⟨s[y]'(by omega), List.drop_eq_getElem_cons (by omega), List.getElem?_eq_getElem (by omega)⟩
    rw [hd9, List.all_cons] at hrem
    refine rp0 hst4 hfr4 (.cons rfl (ob_move rfl) <| .cons rfl (ob_move rfl) <| .cons rfl (ob_sindex (k := y) (b := _) rfl rfl Tryd.underlying9 rfl hi9) <| .cons rfl (ob_assign rfl) <| .nil) ?_
    intro a5 w5 m5 hst5 hle5 hk5
    have hfr5 := hk5.fr (T' := [(3, _), (0, _), (4, _)]) (.old rfl rfl <| .old rfl rfl <| .new rfl <| .nil)
    have hlh5 := hlh4.trans hle5
    clear hst4 hfr4 hk5
    refine hK8 _ _ ?_; clear hK8
    refine seq_any fun _ hK9 => ?_
    refine rp0 hst5 hfr5 (.cons rfl (ob_move rfl) <| .cons rfl (ob_neq rfl rfl) <| .cons rfl (ob_move rfl) <| .cons rfl (ob_move rfl) <| .cons rfl (ob_lss rfl rfl) <| .cons rfl (ob_move rfl) <| .cons rfl (ob_move rfl) <| .cons rfl (ob_gtr rfl rfl) <| .cons rfl (ob_or rfl rfl rfl) <| .cons rfl (ob_and rfl rfl rfl) <| .cons rfl (ob_move rfl) <| .cons rfl (ob_move rfl) <| .cons rfl (ob_lss rfl rfl) <| .cons rfl (ob_move rfl) <| .cons rfl (ob_move rfl) <| .cons rfl (ob_gtr rfl rfl) <| .cons rfl (ob_or rfl rfl rfl) <| .cons rfl (ob_and rfl rfl rfl) <| .nil) ?_
    intro a6 w6 m6 hst6 hle6 hk6
    have hfr6 := hk6.fr (T' := [(3, _), (0, _), (31, _)]) (.old rfl rfl <| .old rfl rfl <| .new rfl <| .nil)
    have hlh6 := hlh5.trans hle6
    clear hst5 hfr5 hk6
    refine hK9 _ _ ?_; clear hK9
    refine cond_any hfr6 rfl rfl (fun hb31 => ?_) (fun hb31 => ?_)
    · try simp only [nq1, nq2, nq3, nq4, nq5, nq6, nq7, nq8, nq9, u8_eq] at hb31
      have hl9 : letB c9 = false := by unfold letB; simp; omega
      refine seq_any fun _ hK10 => ?_
      refine rp0 hst6 hfr6 (.cons rfl (ob_assign rfl) <| .nil) ?_
      intro a7 w7 m7 hst7 hle7 hk7
      have hfr7 := hk7.fr (T' := [(3, _), (2, _)]) (.old rfl rfl <| .new rfl <| .nil)
      have hlh7 := hlh6.trans hle7
      clear hst6 hfr6 hk7
      refine hK10 _ _ ?_; clear hK10
      refine wp_ret ?_
      repeat (with_reducible first | refine then_ret ?_ | refine block_ret ?_)
      exact fn_ret hst7 hfr7 rfl (.tmp rfl <| .nil) (by refine congrArg Value.bool ?_; unfold wordB; rw [hrem, hl9]; rfl)
    · try simp only [nq1, nq2, nq3, nq4, nq5, nq6, nq7, nq8, nq9, u8_eq] at hb31
      have hl9 : letB c9 = true := by unfold letB; simp; omega
      refine wp_skip ?_
      refine hK7 _ _ ?_; clear hK7
      refine rp0 hst6 hfr6 (.cons rfl (ob_move rfl) <| .cons rfl (ob_add rfl rfl ⟨by omega, by omega⟩) <| .cons rfl (ob_assign rfl) <| .nil) ?_
      intro a7 w7 m7 hst7 hle7 hk7
      have hfr7 := hk7.fr (T' := [(0, _), (3, _)]) (.old rfl rfl <| .new rfl <| .nil)
      have hlh7 := hlh6.trans hle7
      clear hst6 hfr6 hk7
      exact ⟨y + 1, m7, by show s.length - (y + 1) < s.length - y; omega, ⟨hst7, hlh7, hfr7.sub (.cons rfl <| .cons rfl <| .nil), ⟨by show y + 1 ≤ s.length; omega, by rw [hrem, hl9]; rfl⟩⟩⟩
  · try simp only [nq1, nq2, nq3, nq4, nq5, nq6, nq7, nq8, nq9, u8_eq] at hb8
    have hge : y = s.length := by omega
    rw [List.drop_of_length_le (by omega)] at hrem
    simp only [List.all_cons, List.all_nil] at hrem
    refine wp_exit ?_
    refine hK2 _ _ ?_; clear hK2
    refine seq_any fun _ hK12 => ?_
    refine seq_any fun _ hK13 => ?_
    refine rp0 hst4 hfr4 (.cons rfl (ob_move rfl) <| .nil) ?_
    intro a5 w5 m5 hst5 hle5 hk5
    have hfr5 := hk5.fr (T' := [(3, _), (32, _)]) (.old rfl rfl <| .new rfl <| .nil)
    have hlh5 := hlh4.trans hle5
    clear hst4 hfr4 hk5
    refine hK13 _ _ ?_; clear hK13
    refine wp_block ?_
    refine seq_any fun _ hK14 => ?_
    refine seq_any fun _ hK15 => ?_
    refine rp0 hst5 hfr5 (.cons rfl (ob_seql rfl rfl) <| .cons rfl (ob_assign rfl) <| .nil) ?_
    intro a6 w6 m6 hst6 hle6 hk6
    have hfr6 := hk6.fr (T' := [(3, _), (32, _), (33, _)]) (.old rfl rfl <| .old rfl rfl <| .new rfl <| .nil)
    have hlh6 := hlh5.trans hle6
    clear hst5 hfr5 hk6
    refine hK15 _ _ ?_; clear hK15
    refine cond_any hfr6 rfl rfl (fun hb33 => ?_) (fun hb33 => ?_)
    · try simp only [nq1, nq2, nq3, nq4, nq5, nq6, nq7, nq8, nq9, u8_eq] at hb33
      refine wp_skip ?_
      refine hK14 _ _ ?_; clear hK14
      refine cond_any hfr6 rfl rfl (fun hb33x => ?_) (fun hb33x => ?_)
      · try simp only [nq1, nq2, nq3, nq4, nq5, nq6, nq7, nq8, nq9, u8_eq] at hb33x
        refine seq_any fun _ hK16 => ?_
        refine rp0 hst6 hfr6 (.cons rfl (ob_assign rfl) <| .nil) ?_
        intro a7 w7 m7 hst7 hle7 hk7
        have hfr7 := hk7.fr (T' := [(3, _), (2, _)]) (.old rfl rfl <| .new rfl <| .nil)
        have hlh7 := hlh6.trans hle7
        clear hst6 hfr6 hk7
        refine hK16 _ _ ?_; clear hK16
        refine wp_ret ?_
        repeat (with_reducible first | refine then_ret ?_ | refine block_ret ?_)
        exact fn_ret hst7 hfr7 rfl (.tmp rfl <| .nil) (by refine congrArg Value.bool ?_; unfold wordB resv; simp_all)
      · exfalso; try simp only [nq1, nq2, nq3, nq4, nq5, nq6, nq7, nq8, nq9, u8_eq] at hb33x
        first | exact absurd hb33x hb33 | exact absurd hb33 hb33x | simp_all
    · try simp only [nq1, nq2, nq3, nq4, nq5, nq6, nq7, nq8, nq9, u8_eq] at hb33
      refine seq_any fun _ hK18 => ?_
      refine rp0 hst6 hfr6 (.cons rfl (ob_seql rfl rfl) <| .cons rfl (ob_assign rfl) <| .nil) ?_
      intro a7 w7 m7 hst7 hle7 hk7
      have hfr7 := hk7.fr (T' := [(3, _), (32, _), (33, _)]) (.old rfl rfl <| .old rfl rfl <| .new rfl <| .nil)
      have hlh7 := hlh6.trans hle7
      clear hst6 hfr6 hk7
      refine hK18 _ _ ?_; clear hK18
      refine cond_any hfr7 rfl rfl (fun hb33 => ?_) (fun hb33 => ?_)
      · try simp only [nq1, nq2, nq3, nq4, nq5, nq6, nq7, nq8, nq9, u8_eq] at hb33
        refine wp_skip ?_
        refine hK14 _ _ ?_; clear hK14
        refine cond_any hfr7 rfl rfl (fun hb33x => ?_) (fun hb33x => ?_)
        · try simp only [nq1, nq2, nq3, nq4, nq5, nq6, nq7, nq8, nq9, u8_eq] at hb33x
          refine seq_any fun _ hK19 => ?_
          refine rp0 hst7 hfr7 (.cons rfl (ob_assign rfl) <| .nil) ?_
          intro a8 w8 m8 hst8 hle8 hk8
          have hfr8 := hk8.fr (T' := [(3, _), (2, _)]) (.old rfl rfl <| .new rfl <| .nil)
          have hlh8 := hlh7.trans hle8
          clear hst7 hfr7 hk8
          refine hK19 _ _ ?_; clear hK19
          refine wp_ret ?_
          repeat (with_reducible first | refine then_ret ?_ | refine block_ret ?_)
          exact fn_ret hst8 hfr8 rfl (.tmp rfl <| .nil) (by refine congrArg Value.bool ?_; unfold wordB resv; simp_all)
        · exfalso; try simp only [nq1, nq2, nq3, nq4, nq5, nq6, nq7, nq8, nq9, u8_eq] at hb33x
          first | exact absurd hb33x hb33 | exact absurd hb33 hb33x | simp_all
      · try simp only [nq1, nq2, nq3, nq4, nq5, nq6, nq7, nq8, nq9, u8_eq] at hb33
        refine seq_any fun _ hK21 => ?_
        refine rp0 hst7 hfr7 (.cons rfl (ob_seql rfl rfl) <| .cons rfl (ob_assign rfl) <| .nil) ?_
        intro a8 w8 m8 hst8 hle8 hk8
        have hfr8 := hk8.fr (T' := [(3, _), (32, _), (33, _)]) (.old rfl rfl <| .old rfl rfl <| .new rfl <| .nil)
        have hlh8 := hlh7.trans hle8
        clear hst7 hfr7 hk8
        refine hK21 _ _ ?_; clear hK21
        refine cond_any hfr8 rfl rfl (fun hb33 => ?_) (fun hb33 => ?_)
        · try simp only [nq1, nq2, nq3, nq4, nq5, nq6, nq7, nq8, nq9, u8_eq] at hb33
          refine wp_skip ?_
          refine hK14 _ _ ?_; clear hK14
          refine cond_any hfr8 rfl rfl (fun hb33x => ?_) (fun hb33x => ?_)
          · try simp only [nq1, nq2, nq3, nq4, nq5, nq6, nq7, nq8, nq9, u8_eq] at hb33x
            refine seq_any fun _ hK22 => ?_
            refine rp0 hst8 hfr8 (.cons rfl (ob_assign rfl) <| .nil) ?_
            intro a9 w9 m9 hst9 hle9 hk9
            have hfr9 := hk9.fr (T' := [(3, _), (2, _)]) (.old rfl rfl <| .new rfl <| .nil)
            have hlh9 := hlh8.trans hle9
            clear hst8 hfr8 hk9
            refine hK22 _ _ ?_; clear hK22
            refine wp_ret ?_
            repeat (with_reducible first | refine then_ret ?_ | refine block_ret ?_)
            exact fn_ret hst9 hfr9 rfl (.tmp rfl <| .nil) (by refine congrArg Value.bool ?_; unfold wordB resv; simp_all)
          · exfalso; try simp only [nq1, nq2, nq3, nq4, nq5, nq6, nq7, nq8, nq9, u8_eq] at hb33x
            first | exact absurd hb33x hb33 | exact absurd hb33 hb33x | simp_all
        · try simp only [nq1, nq2, nq3, nq4, nq5, nq6, nq7, nq8, nq9, u8_eq] at hb33
          refine seq_any fun _ hK24 => ?_
          refine rp0 hst8 hfr8 (.cons rfl (ob_seql rfl rfl) <| .cons rfl (ob_assign rfl) <| .nil) ?_
          intro a9 w9 m9 hst9 hle9 hk9
          have hfr9 := hk9.fr (T' := [(3, _), (32, _), (33, _)]) (.old rfl rfl <| .old rfl rfl <| .new rfl <| .nil)
          have hlh9 := hlh8.trans hle9
          clear hst8 hfr8 hk9
          refine hK24 _ _ ?_; clear hK24
          refine cond_any hfr9 rfl rfl (fun hb33 => ?_) (fun hb33 => ?_)
          · try simp only [nq1, nq2, nq3, nq4, nq5, nq6, nq7, nq8, nq9, u8_eq] at hb33
            refine wp_skip ?_
            refine hK14 _ _ ?_; clear hK14
            refine cond_any hfr9 rfl rfl (fun hb33x => ?_) (fun hb33x => ?_)
            · try simp only [nq1, nq2, nq3, nq4, nq5, nq6, nq7, nq8, nq9, u8_eq] at hb33x
              refine seq_any fun _ hK25 => ?_
              refine rp0 hst9 hfr9 (.cons rfl (ob_assign rfl) <| .nil) ?_
              intro a10 w10 m10 hst10 hle10 hk10
              have hfr10 := hk10.fr (T' := [(3, _), (2, _)]) (.old rfl rfl <| .new rfl <| .nil)
              have hlh10 := hlh9.trans hle10
              clear hst9 hfr9 hk10
              refine hK25 _ _ ?_; clear hK25
              refine wp_ret ?_
              repeat (with_reducible first | refine then_ret ?_ | refine block_ret ?_)
              exact fn_ret hst10 hfr10 rfl (.tmp rfl <| .nil) (by refine congrArg Value.bool ?_; unfold wordB resv; simp_all)
            · exfalso; try simp only [nq1, nq2, nq3, nq4, nq5, nq6, nq7, nq8, nq9, u8_eq] at hb33x
              first | exact absurd hb33x hb33 | exact absurd hb33 hb33x | simp_all
          · try simp only [nq1, nq2, nq3, nq4, nq5, nq6, nq7, nq8, nq9, u8_eq] at hb33
            refine seq_any fun _ hK27 => ?_
            refine rp0 hst9 hfr9 (.cons rfl (ob_seql rfl rfl) <| .cons rfl (ob_assign rfl) <| .nil) ?_
            intro a10 w10 m10 hst10 hle10 hk10
            have hfr10 := hk10.fr (T' := [(3, _), (32, _), (33, _)]) (.old rfl rfl <| .old rfl rfl <| .new rfl <| .nil)
            have hlh10 := hlh9.trans hle10
            clear hst9 hfr9 hk10
            refine hK27 _ _ ?_; clear hK27
            refine cond_any hfr10 rfl rfl (fun hb33 => ?_) (fun hb33 => ?_)
            · try simp only [nq1, nq2, nq3, nq4, nq5, nq6, nq7, nq8, nq9, u8_eq] at hb33
              refine wp_skip ?_
              refine hK14 _ _ ?_; clear hK14
              refine cond_any hfr10 rfl rfl (fun hb33x => ?_) (fun hb33x => ?_)
              · try simp only [nq1, nq2, nq3, nq4, nq5, nq6, nq7, nq8, nq9, u8_eq] at hb33x
                refine seq_any fun _ hK28 => ?_
                refine rp0 hst10 hfr10 (.cons rfl (ob_assign rfl) <| .nil) ?_
                intro a11 w11 m11 hst11 hle11 hk11
                have hfr11 := hk11.fr (T' := [(3, _), (2, _)]) (.old rfl rfl <| .new rfl <| .nil)
                have hlh11 := hlh10.trans hle11
                clear hst10 hfr10 hk11
                refine hK28 _ _ ?_; clear hK28
                refine wp_ret ?_
                repeat (with_reducible first | refine then_ret ?_ | refine block_ret ?_)
                exact fn_ret hst11 hfr11 rfl (.tmp rfl <| .nil) (by refine congrArg Value.bool ?_; unfold wordB resv; simp_all)
              · exfalso; try simp only [nq1, nq2, nq3, nq4, nq5, nq6, nq7, nq8, nq9, u8_eq] at hb33x
                first | exact absurd hb33x hb33 | exact absurd hb33 hb33x | simp_all
            · try simp only [nq1, nq2, nq3, nq4, nq5, nq6, nq7, nq8, nq9, u8_eq] at hb33
              refine seq_any fun _ hK30 => ?_
              refine rp0 hst10 hfr10 (.cons rfl (ob_seql rfl rfl) <| .cons rfl (ob_assign rfl) <| .nil) ?_
              intro a11 w11 m11 hst11 hle11 hk11
              have hfr11 := hk11.fr (T' := [(3, _), (32, _), (33, _)]) (.old rfl rfl <| .old rfl rfl <| .new rfl <| .nil)
              have hlh11 := hlh10.trans hle11
              clear hst10 hfr10 hk11
              refine hK30 _ _ ?_; clear hK30
              refine cond_any hfr11 rfl rfl (fun hb33 => ?_) (fun hb33 => ?_)
              · try simp only [nq1, nq2, nq3, nq4, nq5, nq6, nq7, nq8, nq9, u8_eq] at hb33
                refine wp_skip ?_
                refine hK14 _ _ ?_; clear hK14
                refine cond_any hfr11 rfl rfl (fun hb33x => ?_) (fun hb33x => ?_)
                · try simp only [nq1, nq2, nq3, nq4, nq5, nq6, nq7, nq8, nq9, u8_eq] at hb33x
                  refine seq_any fun _ hK31 => ?_
                  refine rp0 hst11 hfr11 (.cons rfl (ob_assign rfl) <| .nil) ?_
                  intro a12 w12 m12 hst12 hle12 hk12
                  have hfr12 := hk12.fr (T' := [(3, _), (2, _)]) (.old rfl rfl <| .new rfl <| .nil)
                  have hlh12 := hlh11.trans hle12
                  clear hst11 hfr11 hk12
                  refine hK31 _ _ ?_; clear hK31
                  refine wp_ret ?_
                  repeat (with_reducible first | refine then_ret ?_ | refine block_ret ?_)
                  exact fn_ret hst12 hfr12 rfl (.tmp rfl <| .nil) (by refine congrArg Value.bool ?_; unfold wordB resv; simp_all)
                · exfalso; try simp only [nq1, nq2, nq3, nq4, nq5, nq6, nq7, nq8, nq9, u8_eq] at hb33x
                  first | exact absurd hb33x hb33 | exact absurd hb33 hb33x | simp_all
              · try simp only [nq1, nq2, nq3, nq4, nq5, nq6, nq7, nq8, nq9, u8_eq] at hb33
                refine seq_any fun _ hK33 => ?_
                refine rp0 hst11 hfr11 (.cons rfl (ob_seql rfl rfl) <| .cons rfl (ob_assign rfl) <| .nil) ?_
                intro a12 w12 m12 hst12 hle12 hk12
                have hfr12 := hk12.fr (T' := [(3, _), (32, _), (33, _)]) (.old rfl rfl <| .old rfl rfl <| .new rfl <| .nil)
                have hlh12 := hlh11.trans hle12
                clear hst11 hfr11 hk12
                refine hK33 _ _ ?_; clear hK33
                refine cond_any hfr12 rfl rfl (fun hb33 => ?_) (fun hb33 => ?_)
                · try simp only [nq1, nq2, nq3, nq4, nq5, nq6, nq7, nq8, nq9, u8_eq] at hb33
                  refine wp_skip ?_
                  refine hK14 _ _ ?_; clear hK14
                  refine cond_any hfr12 rfl rfl (fun hb33x => ?_) (fun hb33x => ?_)
                  · try simp only [nq1, nq2, nq3, nq4, nq5, nq6, nq7, nq8, nq9, u8_eq] at hb33x
                    refine seq_any fun _ hK34 => ?_
                    refine rp0 hst12 hfr12 (.cons rfl (ob_assign rfl) <| .nil) ?_
                    intro a13 w13 m13 hst13 hle13 hk13
                    have hfr13 := hk13.fr (T' := [(3, _), (2, _)]) (.old rfl rfl <| .new rfl <| .nil)
                    have hlh13 := hlh12.trans hle13
                    clear hst12 hfr12 hk13
                    refine hK34 _ _ ?_; clear hK34
                    refine wp_ret ?_
                    repeat (with_reducible first | refine then_ret ?_ | refine block_ret ?_)
                    exact fn_ret hst13 hfr13 rfl (.tmp rfl <| .nil) (by refine congrArg Value.bool ?_; unfold wordB resv; simp_all)
                  · exfalso; try simp only [nq1, nq2, nq3, nq4, nq5, nq6, nq7, nq8, nq9, u8_eq] at hb33x
                    first | exact absurd hb33x hb33 | exact absurd hb33 hb33x | simp_all
                · try simp only [nq1, nq2, nq3, nq4, nq5, nq6, nq7, nq8, nq9, u8_eq] at hb33
                  refine seq_any fun _ hK36 => ?_
                  refine rp0 hst12 hfr12 (.cons rfl (ob_seql rfl rfl) <| .cons rfl (ob_assign rfl) <| .nil) ?_
                  intro a13 w13 m13 hst13 hle13 hk13
                  have hfr13 := hk13.fr (T' := [(3, _), (32, _), (33, _)]) (.old rfl rfl <| .old rfl rfl <| .new rfl <| .nil)
                  have hlh13 := hlh12.trans hle13
                  clear hst12 hfr12 hk13
                  refine hK36 _ _ ?_; clear hK36
                  refine cond_any hfr13 rfl rfl (fun hb33 => ?_) (fun hb33 => ?_)
                  · try simp only [nq1, nq2, nq3, nq4, nq5, nq6, nq7, nq8, nq9, u8_eq] at hb33
                    refine wp_skip ?_
                    refine hK14 _ _ ?_; clear hK14
                    refine cond_any hfr13 rfl rfl (fun hb33x => ?_) (fun hb33x => ?_)
                    · try simp only [nq1, nq2, nq3, nq4, nq5, nq6, nq7, nq8, nq9, u8_eq] at hb33x
                      refine seq_any fun _ hK37 => ?_
                      refine rp0 hst13 hfr13 (.cons rfl (ob_assign rfl) <| .nil) ?_
                      intro a14 w14 m14 hst14 hle14 hk14
                      have hfr14 := hk14.fr (T' := [(3, _), (2, _)]) (.old rfl rfl <| .new rfl <| .nil)
                      have hlh14 := hlh13.trans hle14
                      clear hst13 hfr13 hk14
                      refine hK37 _ _ ?_; clear hK37
                      refine wp_ret ?_
                      repeat (with_reducible first | refine then_ret ?_ | refine block_ret ?_)
                      exact fn_ret hst14 hfr14 rfl (.tmp rfl <| .nil) (by refine congrArg Value.bool ?_; unfold wordB resv; simp_all)
                    · exfalso; try simp only [nq1, nq2, nq3, nq4, nq5, nq6, nq7, nq8, nq9, u8_eq] at hb33x
                      first | exact absurd hb33x hb33 | exact absurd hb33 hb33x | simp_all
                  · try simp only [nq1, nq2, nq3, nq4, nq5, nq6, nq7, nq8, nq9, u8_eq] at hb33
                    refine seq_any fun _ hK39 => ?_
                    refine rp0 hst13 hfr13 (.cons rfl (ob_seql rfl rfl) <| .cons rfl (ob_assign rfl) <| .nil) ?_
                    intro a14 w14 m14 hst14 hle14 hk14
                    have hfr14 := hk14.fr (T' := [(3, _), (32, _), (33, _)]) (.old rfl rfl <| .old rfl rfl <| .new rfl <| .nil)
                    have hlh14 := hlh13.trans hle14
                    clear hst13 hfr13 hk14
                    refine hK39 _ _ ?_; clear hK39
                    refine cond_any hfr14 rfl rfl (fun hb33 => ?_) (fun hb33 => ?_)
                    · try simp only [nq1, nq2, nq3, nq4, nq5, nq6, nq7, nq8, nq9, u8_eq] at hb33
                      refine wp_skip ?_
                      refine hK14 _ _ ?_; clear hK14
                      refine cond_any hfr14 rfl rfl (fun hb33x => ?_) (fun hb33x => ?_)
                      · try simp only [nq1, nq2, nq3, nq4, nq5, nq6, nq7, nq8, nq9, u8_eq] at hb33x
                        refine seq_any fun _ hK40 => ?_
                        refine rp0 hst14 hfr14 (.cons rfl (ob_assign rfl) <| .nil) ?_
                        intro a15 w15 m15 hst15 hle15 hk15
                        have hfr15 := hk15.fr (T' := [(3, _), (2, _)]) (.old rfl rfl <| .new rfl <| .nil)
                        have hlh15 := hlh14.trans hle15
                        clear hst14 hfr14 hk15
                        refine hK40 _ _ ?_; clear hK40
                        refine wp_ret ?_
                        repeat (with_reducible first | refine then_ret ?_ | refine block_ret ?_)
                        exact fn_ret hst15 hfr15 rfl (.tmp rfl <| .nil) (by refine congrArg Value.bool ?_; unfold wordB resv; simp_all)
                      · exfalso; try simp only [nq1, nq2, nq3, nq4, nq5, nq6, nq7, nq8, nq9, u8_eq] at hb33x
                        first | exact absurd hb33x hb33 | exact absurd hb33 hb33x | simp_all
                    · try simp only [nq1, nq2, nq3, nq4, nq5, nq6, nq7, nq8, nq9, u8_eq] at hb33
                      refine seq_any fun _ hK42 => ?_
                      refine rp0 hst14 hfr14 (.cons rfl (ob_seql rfl rfl) <| .cons rfl (ob_assign rfl) <| .nil) ?_
                      intro a15 w15 m15 hst15 hle15 hk15
                      have hfr15 := hk15.fr (T' := [(3, _), (32, _), (33, _)]) (.old rfl rfl <| .old rfl rfl <| .new rfl <| .nil)
                      have hlh15 := hlh14.trans hle15
                      clear hst14 hfr14 hk15
                      refine hK42 _ _ ?_; clear hK42
                      refine cond_any hfr15 rfl rfl (fun hb33 => ?_) (fun hb33 => ?_)
                      · try simp only [nq1, nq2, nq3, nq4, nq5, nq6, nq7, nq8, nq9, u8_eq] at hb33
                        refine wp_skip ?_
                        refine hK14 _ _ ?_; clear hK14
                        refine cond_any hfr15 rfl rfl (fun hb33x => ?_) (fun hb33x => ?_)
                        · try simp only [nq1, nq2, nq3, nq4, nq5, nq6, nq7, nq8, nq9, u8_eq] at hb33x
                          refine seq_any fun _ hK43 => ?_
                          refine rp0 hst15 hfr15 (.cons rfl (ob_assign rfl) <| .nil) ?_
                          intro a16 w16 m16 hst16 hle16 hk16
                          have hfr16 := hk16.fr (T' := [(3, _), (2, _)]) (.old rfl rfl <| .new rfl <| .nil)
                          have hlh16 := hlh15.trans hle16
                          clear hst15 hfr15 hk16
                          refine hK43 _ _ ?_; clear hK43
                          refine wp_ret ?_
                          repeat (with_reducible first | refine then_ret ?_ | refine block_ret ?_)
                          exact fn_ret hst16 hfr16 rfl (.tmp rfl <| .nil) (by refine congrArg Value.bool ?_; unfold wordB resv; simp_all)
                        · exfalso; try simp only [nq1, nq2, nq3, nq4, nq5, nq6, nq7, nq8, nq9, u8_eq] at hb33x
                          first | exact absurd hb33x hb33 | exact absurd hb33 hb33x | simp_all
                      · try simp only [nq1, nq2, nq3, nq4, nq5, nq6, nq7, nq8, nq9, u8_eq] at hb33
                        refine seq_any fun _ hK45 => ?_
                        refine rp0 hst15 hfr15 (.cons rfl (ob_seql rfl rfl) <| .cons rfl (ob_assign rfl) <| .nil) ?_
                        intro a16 w16 m16 hst16 hle16 hk16
                        have hfr16 := hk16.fr (T' := [(3, _), (32, _), (33, _)]) (.old rfl rfl <| .old rfl rfl <| .new rfl <| .nil)
                        have hlh16 := hlh15.trans hle16
                        clear hst15 hfr15 hk16
                        refine hK45 _ _ ?_; clear hK45
                        refine cond_any hfr16 rfl rfl (fun hb33 => ?_) (fun hb33 => ?_)
                        · try simp only [nq1, nq2, nq3, nq4, nq5, nq6, nq7, nq8, nq9, u8_eq] at hb33
                          refine wp_skip ?_
                          refine hK14 _ _ ?_; clear hK14
                          refine cond_any hfr16 rfl rfl (fun hb33x => ?_) (fun hb33x => ?_)
                          · try simp only [nq1, nq2, nq3, nq4, nq5, nq6, nq7, nq8, nq9, u8_eq] at hb33x
                            refine seq_any fun _ hK46 => ?_
                            refine rp0 hst16 hfr16 (.cons rfl (ob_assign rfl) <| .nil) ?_
                            intro a17 w17 m17 hst17 hle17 hk17
                            have hfr17 := hk17.fr (T' := [(3, _), (2, _)]) (.old rfl rfl <| .new rfl <| .nil)
                            have hlh17 := hlh16.trans hle17
                            clear hst16 hfr16 hk17
                            refine hK46 _ _ ?_; clear hK46
                            refine wp_ret ?_
                            repeat (with_reducible first | refine then_ret ?_ | refine block_ret ?_)
                            exact fn_ret hst17 hfr17 rfl (.tmp rfl <| .nil) (by refine congrArg Value.bool ?_; unfold wordB resv; simp_all)
                          · exfalso; try simp only [nq1, nq2, nq3, nq4, nq5, nq6, nq7, nq8, nq9, u8_eq] at hb33x
                            first | exact absurd hb33x hb33 | exact absurd hb33 hb33x | simp_all
                        · try simp only [nq1, nq2, nq3, nq4, nq5, nq6, nq7, nq8, nq9, u8_eq] at hb33
                          refine seq_any fun _ hK48 => ?_
                          refine rp0 hst16 hfr16 (.cons rfl (ob_seql rfl rfl) <| .cons rfl (ob_assign rfl) <| .nil) ?_
                          intro a17 w17 m17 hst17 hle17 hk17
                          have hfr17 := hk17.fr (T' := [(3, _), (32, _), (33, _)]) (.old rfl rfl <| .old rfl rfl <| .new rfl <| .nil)
                          have hlh17 := hlh16.trans hle17
                          clear hst16 hfr16 hk17
                          refine hK48 _ _ ?_; clear hK48
                          refine cond_any hfr17 rfl rfl (fun hb33 => ?_) (fun hb33 => ?_)
                          · try simp only [nq1, nq2, nq3, nq4, nq5, nq6, nq7, nq8, nq9, u8_eq] at hb33
                            refine wp_skip ?_
                            refine hK14 _ _ ?_; clear hK14
                            refine cond_any hfr17 rfl rfl (fun hb33x => ?_) (fun hb33x => ?_)
                            · try simp only [nq1, nq2, nq3, nq4, nq5, nq6, nq7, nq8, nq9, u8_eq] at hb33x
                              refine seq_any fun _ hK49 => ?_
                              refine rp0 hst17 hfr17 (.cons rfl (ob_assign rfl) <| .nil) ?_
                              intro a18 w18 m18 hst18 hle18 hk18
                              have hfr18 := hk18.fr (T' := [(3, _), (2, _)]) (.old rfl rfl <| .new rfl <| .nil)
                              have hlh18 := hlh17.trans hle18
                              clear hst17 hfr17 hk18
                              refine hK49 _ _ ?_; clear hK49
                              refine wp_ret ?_
                              repeat (with_reducible first | refine then_ret ?_ | refine block_ret ?_)
                              exact fn_ret hst18 hfr18 rfl (.tmp rfl <| .nil) (by refine congrArg Value.bool ?_; unfold wordB resv; simp_all)
                            · exfalso; try simp only [nq1, nq2, nq3, nq4, nq5, nq6, nq7, nq8, nq9, u8_eq] at hb33x
                              first | exact absurd hb33x hb33 | exact absurd hb33 hb33x | simp_all
                          · try simp only [nq1, nq2, nq3, nq4, nq5, nq6, nq7, nq8, nq9, u8_eq] at hb33
                            refine seq_any fun _ hK51 => ?_
                            refine rp0 hst17 hfr17 (.cons rfl (ob_seql rfl rfl) <| .cons rfl (ob_assign rfl) <| .nil) ?_
                            intro a18 w18 m18 hst18 hle18 hk18
                            have hfr18 := hk18.fr (T' := [(3, _), (32, _), (33, _)]) (.old rfl rfl <| .old rfl rfl <| .new rfl <| .nil)
                            have hlh18 := hlh17.trans hle18
                            clear hst17 hfr17 hk18
                            refine hK51 _ _ ?_; clear hK51
                            refine cond_any hfr18 rfl rfl (fun hb33 => ?_) (fun hb33 => ?_)
                            · try simp only [nq1, nq2, nq3, nq4, nq5, nq6, nq7, nq8, nq9, u8_eq] at hb33
                              refine wp_skip ?_
                              refine hK14 _ _ ?_; clear hK14
                              refine cond_any hfr18 rfl rfl (fun hb33x => ?_) (fun hb33x => ?_)
                              · try simp only [nq1, nq2, nq3, nq4, nq5, nq6, nq7, nq8, nq9, u8_eq] at hb33x
                                refine seq_any fun _ hK52 => ?_
                                refine rp0 hst18 hfr18 (.cons rfl (ob_assign rfl) <| .nil) ?_
                                intro a19 w19 m19 hst19 hle19 hk19
                                have hfr19 := hk19.fr (T' := [(3, _), (2, _)]) (.old rfl rfl <| .new rfl <| .nil)
                                have hlh19 := hlh18.trans hle19
                                clear hst18 hfr18 hk19
                                refine hK52 _ _ ?_; clear hK52
                                refine wp_ret ?_
                                repeat (with_reducible first | refine then_ret ?_ | refine block_ret ?_)
                                exact fn_ret hst19 hfr19 rfl (.tmp rfl <| .nil) (by refine congrArg Value.bool ?_; unfold wordB resv; simp_all)
                              · exfalso; try simp only [nq1, nq2, nq3, nq4, nq5, nq6, nq7, nq8, nq9, u8_eq] at hb33x
                                first | exact absurd hb33x hb33 | exact absurd hb33 hb33x | simp_all
                            · try simp only [nq1, nq2, nq3, nq4, nq5, nq6, nq7, nq8, nq9, u8_eq] at hb33
                              refine seq_any fun _ hK54 => ?_
                              refine rp0 hst18 hfr18 (.cons rfl (ob_seql rfl rfl) <| .cons rfl (ob_assign rfl) <| .nil) ?_
                              intro a19 w19 m19 hst19 hle19 hk19
                              have hfr19 := hk19.fr (T' := [(3, _), (32, _), (33, _)]) (.old rfl rfl <| .old rfl rfl <| .new rfl <| .nil)
                              have hlh19 := hlh18.trans hle19
                              clear hst18 hfr18 hk19
                              refine hK54 _ _ ?_; clear hK54
                              refine cond_any hfr19 rfl rfl (fun hb33 => ?_) (fun hb33 => ?_)
                              · try simp only [nq1, nq2, nq3, nq4, nq5, nq6, nq7, nq8, nq9, u8_eq] at hb33
                                refine wp_skip ?_
                                refine hK14 _ _ ?_; clear hK14
                                refine cond_any hfr19 rfl rfl (fun hb33x => ?_) (fun hb33x => ?_)
                                · try simp only [nq1, nq2, nq3, nq4, nq5, nq6, nq7, nq8, nq9, u8_eq] at hb33x
                                  refine seq_any fun _ hK55 => ?_
                                  refine rp0 hst19 hfr19 (.cons rfl (ob_assign rfl) <| .nil) ?_
                                  intro a20 w20 m20 hst20 hle20 hk20
                                  have hfr20 := hk20.fr (T' := [(3, _), (2, _)]) (.old rfl rfl <| .new rfl <| .nil)
                                  have hlh20 := hlh19.trans hle20
                                  clear hst19 hfr19 hk20
                                  refine hK55 _ _ ?_; clear hK55
                                  refine wp_ret ?_
                                  repeat (with_reducible first | refine then_ret ?_ | refine block_ret ?_)
                                  exact fn_ret hst20 hfr20 rfl (.tmp rfl <| .nil) (by refine congrArg Value.bool ?_; unfold wordB resv; simp_all)
                                · exfalso; try simp only [nq1, nq2, nq3, nq4, nq5, nq6, nq7, nq8, nq9, u8_eq] at hb33x
                                  first | exact absurd hb33x hb33 | exact absurd hb33 hb33x | simp_all
                              · try simp only [nq1, nq2, nq3, nq4, nq5, nq6, nq7, nq8, nq9, u8_eq] at hb33
                                refine rp0 hst19 hfr19 (.cons rfl (ob_seql rfl rfl) <| .cons rfl (ob_assign rfl) <| .nil) ?_
                                intro a20 w20 m20 hst20 hle20 hk20
                                have hfr20 := hk20.fr (T' := [(3, _), (33, _)]) (.old rfl rfl <| .new rfl <| .nil)
                                have hlh20 := hlh19.trans hle20
                                clear hst19 hfr19 hk20
                                refine hK14 _ _ ?_; clear hK14
                                refine cond_any hfr20 rfl rfl (fun hb33 => ?_) (fun hb33 => ?_)
                                · try simp only [nq1, nq2, nq3, nq4, nq5, nq6, nq7, nq8, nq9, u8_eq] at hb33
                                  refine seq_any fun _ hK57 => ?_
                                  refine rp0 hst20 hfr20 (.cons rfl (ob_assign rfl) <| .nil) ?_
                                  intro a21 w21 m21 hst21 hle21 hk21
                                  have hfr21 := hk21.fr (T' := [(3, _), (2, _)]) (.old rfl rfl <| .new rfl <| .nil)
                                  have hlh21 := hlh20.trans hle21
                                  clear hst20 hfr20 hk21
                                  refine hK57 _ _ ?_; clear hK57
                                  refine wp_ret ?_
                                  repeat (with_reducible first | refine then_ret ?_ | refine block_ret ?_)
                                  exact fn_ret hst21 hfr21 rfl (.tmp rfl <| .nil) (by refine congrArg Value.bool ?_; unfold wordB resv; simp_all)
                                · try simp only [nq1, nq2, nq3, nq4, nq5, nq6, nq7, nq8, nq9, u8_eq] at hb33
                                  refine wp_skip ?_
                                  refine hK12 _ _ ?_; clear hK12
                                  refine seq_any fun _ hK59 => ?_
                                  refine rp0 hst20 hfr20 (.cons rfl (ob_assign rfl) <| .nil) ?_
                                  intro a21 w21 m21 hst21 hle21 hk21
                                  have hfr21 := hk21.fr (T' := [(3, _), (2, _)]) (.old rfl rfl <| .new rfl <| .nil)
                                  have hlh21 := hlh20.trans hle21
                                  clear hst20 hfr20 hk21
                                  refine hK59 _ _ ?_; clear hK59
                                  refine wp_ret ?_
                                  repeat (with_reducible first | refine then_ret ?_ | refine block_ret ?_)
                                  exact fn_ret hst21 hfr21 rfl (.tmp rfl <| .nil) (by refine congrArg Value.bool ?_; unfold wordB resv; simp_all)

abbrev clean_G (t : Cd) : Prop := ∀ {w : World} {m : Mem} {vs_t : List Value} (hA : Agree w m) (h_t : CdR m t vs_t) (hb : bulkC t ≤ 100000000), FnV Tryd.prog 24 #[.agg vs_t.toArray] w m (fun _ _ v => v = .bool (cleanC t))
set_option maxHeartbeats 1600000 in
theorem clean_s {t : Cd} (ihk : ∀ u ∈ t.kids, clean_G u) (iha : ∀ a ∈ t.arms, clean_G a.body) {w : World} {m : Mem} {vs_t : List Value} (hA : Agree w m) (h_t : CdR m t vs_t) (hb : bulkC t ≤ 100000000) : FnV Tryd.prog 24 #[.agg vs_t.toArray] w m (fun _ _ v => v = .bool (cleanC t)) := by
  obtain ⟨⟨oK_t, cK_t, oA_t, cA_t⟩, rfl, ⟨hik_t, hin_t⟩, hkk_t, haa_t⟩ := h_t.open_
  dsimp only at hkk_t haa_t
  have hbg_t := hkk_t.big; have hcp_t := hkk_t.cap; have hbh_t := haa_t.big; have hcq_t := haa_t.cap
  refine fn_enter (vs := [_]) Tryd.func24 rfl rfl rfl fun a0 hfr0 => ?_
  have hst0 := st_enter hA (loc_nil [] _ w m)
  have hM : MLe m m := MLe.refl m
  have hce := cleanC_eq t
  have hbe := bulkC_eq t
  refine seq_any fun _ hK1 => ?_
  refine rp0 hst0 hfr0 (.cons rfl (ob_box rfl rfl) <| .cons rfl (ob_assign rfl) <| .nil) ?_
  intro a1 w1 m1 hst1 hle1 hk1
  have hfr1 := hk1.fr (T' := []) (.nil)
  obtain ⟨g2, e2, hc1⟩ := hk1.ex 1 rfl
  replace hfr1 := hfr1.cons e2
  replace hkk_t := hkk_t.mono hle1
  replace haa_t := haa_t.mono hle1
  clear hst0 hfr0 hk1
  refine hK1 _ _ ?_; clear hK1
  refine seq_any fun _ hK3 => ?_
  refine seq_any fun _ hK4 => ?_
  refine rp0 hst1 hfr1 (.cons rfl (ob_fieldAddrO (off := 0) rfl Tryd.underlying25 rfl rfl Tryd.sizeOf3 rfl) <| .cons rfl (ob_load1 rfl hc1 Tryd.isAgg3 rfl) <| .cons rfl (ob_neq rfl rfl) <| .cons rfl (ob_move rfl) <| .cons rfl (ob_fieldAddrO (off := 1) rfl Tryd.underlying25 rfl rfl Tryd.sizeOf9 rfl) <| .cons rfl (ob_load1 rfl hc1 Tryd.isAgg9 rfl) <| .cons rfl (ob_callE rfl (.cons rfl <| .nil) Tryd.call39 (fun w m hK => by have hle_ := KC.le hK; have hA := KC.agree hK; exact word_c (s := t.name) hA (by omega))) <| .cons rfl (ob_not rfl) <| .cons rfl (ob_and rfl rfl rfl) <| .cons rfl (ob_move rfl) <| .cons rfl (ob_fieldAddrO (off := 2) rfl Tryd.underlying25 rfl rfl Tryd.sizeOf9 rfl) <| .cons rfl (ob_load1 rfl hc1 Tryd.isAgg9 rfl) <| .cons rfl (ob_callE rfl (.cons rfl <| .nil) Tryd.call39 (fun w m hK => by have hle_ := KC.le hK; have hA := KC.agree hK; exact word_c (s := t.param) hA (by omega))) <| .cons rfl (ob_not rfl) <| .cons rfl (ob_or rfl rfl rfl) <| .nil) ?_
  intro a2 w2 m2 hst2 hle2 hk2
  have hfr2 := hk2.fr (T' := [(1, _), (20, _)]) (.old rfl rfl <| .new rfl <| .nil)
  replace hkk_t := hkk_t.mono hle2
  replace haa_t := haa_t.mono hle2
  replace hc1 := hc1.mono hle2
  clear hst1 hfr1 hk2
  refine hK4 _ _ ?_; clear hK4
  refine cond_any hfr2 rfl rfl (fun hb20 => ?_) (fun hb20 => ?_)
  · try simp only [nq1, nq2, nq3, nq4, nq5, nq6, nq7, nq8, nq9, u8_eq] at hb20
    refine seq_any fun _ hK5 => ?_
    refine rp0 hst2 hfr2 (.cons rfl (ob_assign rfl) <| .nil) ?_
    intro a3 w3 m3 hst3 hle3 hk3
    have hfr3 := hk3.fr (T' := [(2, _)]) (.new rfl <| .nil)
    clear hst2 hfr2 hk3
    refine hK5 _ _ ?_; clear hK5
    refine wp_ret ?_
    repeat (with_reducible first | refine then_ret ?_ | refine block_ret ?_)
    exact fn_ret hst3 hfr3 rfl (.tmp rfl <| .nil) (by refine congrArg Value.bool ?_; rw [hce]; rcases hb20 with h | h; (simp [h.1, h.2]); simp [h])
  · try simp only [nq1, nq2, nq3, nq4, nq5, nq6, nq7, nq8, nq9, u8_eq] at hb20
    refine wp_skip ?_
    refine hK3 _ _ ?_; clear hK3
    refine seq_any fun _ hK7 => ?_
    refine seq_any fun _ hK8 => ?_
    refine rp0 hst2 hfr2 (.cons rfl (ob_assign rfl) <| .nil) ?_
    intro a3 w3 m3 hst3 hle3 hk3
    have hfr3 := hk3.fr (T' := [(1, _), (3, _)]) (.old rfl rfl <| .new rfl <| .nil)
    replace hkk_t := hkk_t.mono hle3
    replace haa_t := haa_t.mono hle3
    replace hc1 := hc1.mono hle3
    clear hst2 hfr2 hk3
    refine hK8 _ _ ?_; clear hK8
    refine wp_block ?_
    refine loop_any (T := [(1, _)]) (fun (y : Nat) => ([(3, .int .i64 (y : Int))] : List (Nat × Value))) (fun _ => _) (fun (y : Nat) m => (y ≤ t.kids.length) ∧ (t.kids.all cleanC = (t.kids.drop y).all cleanC)) (fun y => t.kids.length - y) (0) ⟨hst3, MLe.refl _, hfr3.sub (.cons rfl <| .cons rfl <| .nil), ⟨Nat.zero_le _, rfl⟩⟩ fun y a4 w4 m4 hh4 => ?_
    have hst4 := hh4.st; have hle4 := hh4.le; have hfr4 := hh4.fr; have hrel := hh4.rel; clear hh4
    replace hkk_t := hkk_t.mono hle4
    replace haa_t := haa_t.mono hle4
    replace hc1 := hc1.mono hle4
    clear hst3 hfr3
    obtain ⟨hyn, hrem⟩ := hrel
    have hlh4 := hle4
    refine seq_any fun _ hK10 => ?_
    refine seq_any fun _ hK11 => ?_
    refine rp0 hst4 hfr4 (.cons rfl (ob_move rfl) <| .cons rfl (ob_fieldAddrO (off := 4) rfl Tryd.underlying25 rfl rfl Tryd.sizeOf22 rfl) <| .cons rfl (ob_load1 rfl hc1 Tryd.isAgg22 rfl) <| .cons rfl (ob_len rfl Tryd.underlying22) <| .cons rfl (ob_lss rfl rfl) <| .nil) ?_
    intro a5 w5 m5 hst5 hle5 hk5
    have hfr5 := hk5.fr (T' := [(3, _), (1, _), (25, _)]) (.old rfl rfl <| .old rfl rfl <| .new rfl <| .nil)
    replace hkk_t := hkk_t.mono hle5
    replace haa_t := haa_t.mono hle5
    replace hc1 := hc1.mono hle5
    have hlh5 := hlh4.trans hle5
    clear hst4 hfr4 hk5
    refine hK11 _ _ ?_; clear hK11
    refine cond_any hfr5 rfl rfl (fun hb25 => ?_) (fun hb25 => ?_)
    · try simp only [nq1, nq2, nq3, nq4, nq5, nq6, nq7, nq8, nq9, u8_eq] at hb25
      refine wp_skip ?_
      refine hK10 _ _ ?_; clear hK10
      refine seq_any fun _ hK12 => ?_
      refine wp_block ?_
      refine seq_any fun _ hK13 => ?_
      obtain ⟨p14, vs14, x14, ho14, hd14, hm_x14, ht14, hcv14, hl14, hv14⟩ := hkk_t.nth (k := y) (by omega)
      cases ho14
      obtain ⟨⟨oK14, cK14, oA14, cA14⟩, rfl, ⟨hik14, hin14⟩, hkk14, haa14⟩ := hv14.open_
      dsimp only at hkk14 haa14
      have hbg14 := hkk14.big; have hcp14 := hkk14.cap; have hbh14 := haa14.big; have hcq14 := haa14.cap
      try rw [hd14] at hrem
      try simp only [List.all_cons, List.all_nil] at hrem
      have hbk9 := bulk_kid hm_x14
      refine rp0 hst5 hfr5 (.cons rfl (ob_fieldAddrO (off := 4) rfl Tryd.underlying25 rfl rfl Tryd.sizeOf22 rfl) <| .cons rfl (ob_load1 rfl hc1 Tryd.isAgg22 rfl) <| .cons rfl (ob_move rfl) <| .cons rfl (ob_indexAddr (k := y) rfl rfl Tryd.underlying22 Tryd.sizeOf25 rfl (by omega)) <| .cons rfl (ob_loadS' rfl hcv14 Tryd.isAgg25 Tryd.sizeOf25 rfl rfl) <| .cons rfl (ob_callE rfl (.cons rfl <| .nil) Tryd.call24 (fun w m hK => by have hle_ := KC.le hK; have hA := KC.agree hK; have hv14 := hv14.mono hle_; exact ihk x14 hm_x14 hA hv14 (by omega))) <| .cons rfl (ob_not rfl) <| .nil) ?_
      intro a6 w6 m6 hst6 hle6 hk6
      have hfr6 := hk6.fr (T' := [(3, _), (1, _), (34, _)]) (.old rfl rfl <| .old rfl rfl <| .new rfl <| .nil)
      have hlh6 := hlh5.trans hle6
      clear hst5 hfr5 hk6
      refine hK13 _ _ ?_; clear hK13
      refine cond_any hfr6 rfl rfl (fun hb34 => ?_) (fun hb34 => ?_)
      · try simp only [nq1, nq2, nq3, nq4, nq5, nq6, nq7, nq8, nq9, u8_eq] at hb34
        refine seq_any fun _ hK15 => ?_
        refine rp0 hst6 hfr6 (.cons rfl (ob_assign rfl) <| .nil) ?_
        intro a7 w7 m7 hst7 hle7 hk7
        have hfr7 := hk7.fr (T' := [(3, _), (2, _)]) (.old rfl rfl <| .new rfl <| .nil)
        have hlh7 := hlh6.trans hle7
        clear hst6 hfr6 hk7
        refine hK15 _ _ ?_; clear hK15
        refine wp_ret ?_
        repeat (with_reducible first | refine then_ret ?_ | refine block_ret ?_)
        exact fn_ret hst7 hfr7 rfl (.tmp rfl <| .nil) (by refine congrArg Value.bool ?_; rw [hce, hrem, hb34]; simp)
      · try simp only [nq1, nq2, nq3, nq4, nq5, nq6, nq7, nq8, nq9, u8_eq] at hb34
        refine wp_skip ?_
        refine hK12 _ _ ?_; clear hK12
        refine rp0 hst6 hfr6 (.cons rfl (ob_move rfl) <| .cons rfl (ob_add rfl rfl ⟨by omega, by omega⟩) <| .cons rfl (ob_assign rfl) <| .nil) ?_
        intro a7 w7 m7 hst7 hle7 hk7
        have hfr7 := hk7.fr (T' := [(1, _), (3, _)]) (.old rfl rfl <| .new rfl <| .nil)
        have hlh7 := hlh6.trans hle7
        clear hst6 hfr6 hk7
        exact ⟨y + 1, m7, by show t.kids.length - (y + 1) < t.kids.length - y; omega, ⟨hst7, hlh7, hfr7.sub (.cons rfl <| .cons rfl <| .nil), ⟨by show y + 1 ≤ t.kids.length; omega, by rw [hrem, hb34]; rfl⟩⟩⟩
    · try simp only [nq1, nq2, nq3, nq4, nq5, nq6, nq7, nq8, nq9, u8_eq] at hb25
      have hge : y = t.kids.length := by omega
      rw [List.drop_of_length_le (by omega), List.all_nil] at hrem
      have hkk9 := hrem
      clear hrem
      refine wp_exit ?_
      refine hK7 _ _ ?_; clear hK7
      refine seq_any fun _ hK17 => ?_
      refine seq_any fun _ hK18 => ?_
      refine rp0 hst5 hfr5 (.cons rfl (ob_assign rfl) <| .nil) ?_
      intro a6 w6 m6 hst6 hle6 hk6
      have hfr6 := hk6.fr (T' := [(3, _), (1, _), (4, _)]) (.old rfl rfl <| .old rfl rfl <| .new rfl <| .nil)
      replace haa_t := haa_t.mono hle6
      replace hc1 := hc1.mono hle6
      have hlh6 := hlh5.trans hle6
      clear hst5 hfr5 hk6
      refine hK18 _ _ ?_; clear hK18
      refine wp_block ?_
      have hlq19 := hlh6
      refine loop_any (T := [(3, _), (1, _)]) (fun (y : Nat) => ([(4, .int .i64 (y : Int))] : List (Nat × Value))) (fun _ => _) (fun (y : Nat) m => (y ≤ t.arms.length) ∧ (t.arms.all cleanA = (t.arms.drop y).all cleanA)) (fun y => t.arms.length - y) (0) ⟨hst6, MLe.refl _, hfr6.sub (.cons rfl <| .cons rfl <| .cons rfl <| .nil), ⟨Nat.zero_le _, rfl⟩⟩ fun y a7 w7 m7 hh7 => ?_
      have hst7 := hh7.st; have hle7 := hh7.le; have hfr7 := hh7.fr; have hrel := hh7.rel; clear hh7
      replace haa_t := haa_t.mono hle7
      replace hc1 := hc1.mono hle7
      clear hst6 hfr6
      obtain ⟨hyn, hrem⟩ := hrel
      have hlh7 := hle7
      refine seq_any fun _ hK20 => ?_
      refine seq_any fun _ hK21 => ?_
      refine rp0 hst7 hfr7 (.cons rfl (ob_move rfl) <| .cons rfl (ob_fieldAddrO (off := 5) rfl Tryd.underlying25 rfl rfl Tryd.sizeOf23 rfl) <| .cons rfl (ob_load1 rfl hc1 Tryd.isAgg23 rfl) <| .cons rfl (ob_len rfl Tryd.underlying23) <| .cons rfl (ob_lss rfl rfl) <| .nil) ?_
      intro a8 w8 m8 hst8 hle8 hk8
      have hfr8 := hk8.fr (T' := [(4, _), (3, _), (1, _), (39, _)]) (.old rfl rfl <| .old rfl rfl <| .old rfl rfl <| .new rfl <| .nil)
      replace haa_t := haa_t.mono hle8
      replace hc1 := hc1.mono hle8
      have hlh8 := hlh7.trans hle8
      clear hst7 hfr7 hk8
      refine hK21 _ _ ?_; clear hK21
      refine cond_any hfr8 rfl rfl (fun hb39 => ?_) (fun hb39 => ?_)
      · try simp only [nq1, nq2, nq3, nq4, nq5, nq6, nq7, nq8, nq9, u8_eq] at hb39
        refine wp_skip ?_
        refine hK20 _ _ ?_; clear hK20
        refine seq_any fun _ hK22 => ?_
        refine wp_block ?_
        refine seq_any fun _ hK23 => ?_
        refine seq_any fun _ hK24 => ?_
        obtain ⟨p25, vs25, x25, ho25, hd25, hm_x25, ht25, hcv25, hl25, hv25⟩ := haa_t.nth (k := y) (by omega)
        cases ho25
        obtain ⟨oV25, cV25, bs25, rfl, hva25, hbd25⟩ := hv25.open_
        have hbv25 := hva25.big; have hcv25_ := hva25.cap
        obtain ⟨⟨oK25b, cK25b, oA25b, cA25b⟩, rfl, ⟨hik25b, hin25b⟩, hkk25b, haa25b⟩ := hbd25.open_
        dsimp only at hkk25b haa25b
        have hbg25b := hkk25b.big; have hcp25b := hkk25b.cap; have hbh25b := haa25b.big; have hcq25b := haa25b.cap
        try rw [hd25] at hrem
        try simp only [List.all_cons, List.all_nil] at hrem
        have hba9 := bulk_arm hm_x25
        have hvt9 := wsum_two x25.vars
        refine rp0 hst8 hfr8 (.cons rfl (ob_fieldAddrO (off := 5) rfl Tryd.underlying25 rfl rfl Tryd.sizeOf23 rfl) <| .cons rfl (ob_load1 rfl hc1 Tryd.isAgg23 rfl) <| .cons rfl (ob_move rfl) <| .cons rfl (ob_indexAddr (k := y) rfl rfl Tryd.underlying23 Tryd.sizeOf35 rfl (by omega)) <| .cons rfl (ob_fieldAddrO (off := 0) rfl Tryd.underlying35 rfl rfl Tryd.sizeOf9 rfl) <| .cons rfl (ob_load1 rfl hcv25 Tryd.isAgg9 rfl) <| .cons rfl (ob_callE rfl (.cons rfl <| .nil) Tryd.call39 (fun w m hK => by have hle_ := KC.le hK; have hA := KC.agree hK; exact word_c (s := x25.name) hA (by omega))) <| .cons rfl (ob_not rfl) <| .cons rfl (ob_move rfl) <| .cons rfl (ob_fieldAddrO (off := 5) rfl Tryd.underlying25 rfl rfl Tryd.sizeOf23 rfl) <| .cons rfl (ob_load1 rfl hc1 Tryd.isAgg23 rfl) <| .cons rfl (ob_move rfl) <| .cons rfl (ob_indexAddr (k := y) rfl rfl Tryd.underlying23 Tryd.sizeOf35 rfl (by omega)) <| .cons rfl (ob_fieldAddrO (off := 3) rfl Tryd.underlying35 rfl rfl Tryd.sizeOf25 rfl) <| .cons rfl (ob_loadS rfl hcv25 Tryd.isAgg25 Tryd.sizeOf25 rfl rfl) <| .cons rfl (ob_callE rfl (.cons rfl <| .nil) Tryd.call24 (fun w m hK => by have hle_ := KC.le hK; have hA := KC.agree hK; have hbd25 := hbd25.mono hle_; exact iha x25 hm_x25 hA hbd25 (by omega))) <| .cons rfl (ob_not rfl) <| .cons rfl (ob_or rfl rfl rfl) <| .nil) ?_
        intro a9 w9 m9 hst9 hle9 hk9
        have hfr9 := hk9.fr (T' := [(4, _), (3, _), (1, _), (59, _)]) (.old rfl rfl <| .old rfl rfl <| .old rfl rfl <| .new rfl <| .nil)
        replace hc1 := hc1.mono hle9
        replace hcv25 := hcv25.mono hle9
        replace hva25 := hva25.mono hle9
        have hlh9 := hlh8.trans hle9
        clear hst8 hfr8 hk9
        refine hK24 _ _ ?_; clear hK24
        refine cond_any hfr9 rfl rfl (fun hb59 => ?_) (fun hb59 => ?_)
        · try simp only [nq1, nq2, nq3, nq4, nq5, nq6, nq7, nq8, nq9, u8_eq] at hb59
          have hca9 : cleanA x25 = false := by rw [cleanA_eq]; rcases hb59 with h | h <;> simp [h]
          refine seq_any fun _ hK26 => ?_
          refine rp0 hst9 hfr9 (.cons rfl (ob_assign rfl) <| .nil) ?_
          intro a10 w10 m10 hst10 hle10 hk10
          have hfr10 := hk10.fr (T' := [(4, _), (3, _), (2, _)]) (.old rfl rfl <| .old rfl rfl <| .new rfl <| .nil)
          have hlh10 := hlh9.trans hle10
          clear hst9 hfr9 hk10
          refine hK26 _ _ ?_; clear hK26
          refine wp_ret ?_
          repeat (with_reducible first | refine then_ret ?_ | refine block_ret ?_)
          exact fn_ret hst10 hfr10 rfl (.tmp rfl <| .nil) (by refine congrArg Value.bool ?_; rw [hce, hrem, hca9]; simp)
        · try simp only [nq1, nq2, nq3, nq4, nq5, nq6, nq7, nq8, nq9, u8_eq] at hb59
          refine wp_skip ?_
          refine hK23 _ _ ?_; clear hK23
          refine seq_any fun _ hK28 => ?_
          refine rp0 hst9 hfr9 (.cons rfl (ob_assign rfl) <| .nil) ?_
          intro a10 w10 m10 hst10 hle10 hk10
          have hfr10 := hk10.fr (T' := [(4, _), (3, _), (1, _), (5, _)]) (.old rfl rfl <| .old rfl rfl <| .old rfl rfl <| .new rfl <| .nil)
          replace hc1 := hc1.mono hle10
          replace hcv25 := hcv25.mono hle10
          replace hva25 := hva25.mono hle10
          have hlh10 := hlh9.trans hle10
          clear hst9 hfr9 hk10
          refine hK28 _ _ ?_; clear hK28
          refine wp_block ?_
          have hlq29 := hlh10
          refine loop_any (T := [(4, _), (3, _), (1, _)]) (fun (k : Nat) => ([(5, .int .i64 (k : Int))] : List (Nat × Value))) (fun _ => _) (fun (k : Nat) m => (k ≤ x25.vars.length) ∧ (x25.vars.all wordB = (x25.vars.drop k).all wordB)) (fun k => x25.vars.length - k) (0) ⟨hst10, MLe.refl _, hfr10.sub (.cons rfl <| .cons rfl <| .cons rfl <| .cons rfl <| .nil), ⟨Nat.zero_le _, rfl⟩⟩ fun k a11 w11 m11 hh11 => ?_
          have hst11 := hh11.st; have hle11 := hh11.le; have hfr11 := hh11.fr; have hrel := hh11.rel; clear hh11
          replace hc1 := hc1.mono hle11
          replace hcv25 := hcv25.mono hle11
          replace hva25 := hva25.mono hle11
          clear hst10 hfr10
          obtain ⟨hkn, hremk⟩ := hrel
          replace hlq29 := hlq29.trans hle11
          have hlh11 := hle11
          refine seq_any fun _ hK30 => ?_
          refine seq_any fun _ hK31 => ?_
          refine rp0 hst11 hfr11 (.cons rfl (ob_move rfl) <| .cons rfl (ob_fieldAddrO (off := 5) rfl Tryd.underlying25 rfl rfl Tryd.sizeOf23 rfl) <| .cons rfl (ob_load1 rfl hc1 Tryd.isAgg23 rfl) <| .cons rfl (ob_move rfl) <| .cons rfl (ob_indexAddr (k := y) rfl rfl Tryd.underlying23 Tryd.sizeOf35 rfl (by omega)) <| .cons rfl (ob_fieldAddrO (off := 1) rfl Tryd.underlying35 rfl rfl Tryd.sizeOf29 rfl) <| .cons rfl (ob_load1 rfl hcv25 Tryd.isAgg29 rfl) <| .cons rfl (ob_len rfl Tryd.underlying29) <| .cons rfl (ob_lss rfl rfl) <| .nil) ?_
          intro a12 w12 m12 hst12 hle12 hk12
          have hfr12 := hk12.fr (T' := [(5, _), (4, _), (3, _), (1, _), (68, _)]) (.old rfl rfl <| .old rfl rfl <| .old rfl rfl <| .old rfl rfl <| .new rfl <| .nil)
          replace hc1 := hc1.mono hle12
          replace hcv25 := hcv25.mono hle12
          replace hva25 := hva25.mono hle12
          have hlh12 := hlh11.trans hle12
          replace hlq29 := hlq29.trans hle12
          clear hst11 hfr11 hk12
          refine hK31 _ _ ?_; clear hK31
          refine cond_any hfr12 rfl rfl (fun hb68 => ?_) (fun hb68 => ?_)
          · try simp only [nq1, nq2, nq3, nq4, nq5, nq6, nq7, nq8, nq9, u8_eq] at hb68
            refine wp_skip ?_
            refine hK30 _ _ ?_; clear hK30
            refine seq_any fun _ hK32 => ?_
            refine wp_block ?_
            refine seq_any fun _ hK33 => ?_
            obtain ⟨p34, vs34, x34, ho34, hd34, hm_x34, ht34, hcv34, hl34, hv34⟩ := hva25.nth (k := k) (by omega)
            cases ho34
            subst hv34
            try rw [hd34] at hremk
            try simp only [List.all_cons, List.all_nil] at hremk
            have hwv9 : x34.length ≤ wsum x25.vars := wsum_mem hm_x34
            refine rp0 hst12 hfr12 (.cons rfl (ob_fieldAddrO (off := 5) rfl Tryd.underlying25 rfl rfl Tryd.sizeOf23 rfl) <| .cons rfl (ob_load1 rfl hc1 Tryd.isAgg23 rfl) <| .cons rfl (ob_move rfl) <| .cons rfl (ob_indexAddr (k := y) rfl rfl Tryd.underlying23 Tryd.sizeOf35 rfl (by omega)) <| .cons rfl (ob_fieldAddrO (off := 1) rfl Tryd.underlying35 rfl rfl Tryd.sizeOf29 rfl) <| .cons rfl (ob_load1 rfl hcv25 Tryd.isAgg29 rfl) <| .cons rfl (ob_move rfl) <| .cons rfl (ob_indexAddr (k := k) rfl rfl Tryd.underlying29 Tryd.sizeOf9 rfl (by omega)) <| .cons rfl (ob_load1' rfl hcv34 Tryd.isAgg9 rfl) <| .cons rfl (ob_callE rfl (.cons rfl <| .nil) Tryd.call39 (fun w m hK => by have hle_ := KC.le hK; have hA := KC.agree hK; exact word_c (s := x34) hA (by omega))) <| .cons rfl (ob_not rfl) <| .nil) ?_
            intro a13 w13 m13 hst13 hle13 hk13
            have hfr13 := hk13.fr (T' := [(5, _), (4, _), (3, _), (1, _), (81, _)]) (.old rfl rfl <| .old rfl rfl <| .old rfl rfl <| .old rfl rfl <| .new rfl <| .nil)
            have hlh13 := hlh12.trans hle13
            clear hst12 hfr12 hk13
            refine hK33 _ _ ?_; clear hK33
            refine cond_any hfr13 rfl rfl (fun hb81 => ?_) (fun hb81 => ?_)
            · try simp only [nq1, nq2, nq3, nq4, nq5, nq6, nq7, nq8, nq9, u8_eq] at hb81
              have hca9 : cleanA x25 = false := by rw [cleanA_eq, hremk, hb81]; simp
              refine seq_any fun _ hK35 => ?_
              refine rp0 hst13 hfr13 (.cons rfl (ob_assign rfl) <| .nil) ?_
              intro a14 w14 m14 hst14 hle14 hk14
              have hfr14 := hk14.fr (T' := [(5, _), (4, _), (3, _), (2, _)]) (.old rfl rfl <| .old rfl rfl <| .old rfl rfl <| .new rfl <| .nil)
              have hlh14 := hlh13.trans hle14
              clear hst13 hfr13 hk14
              refine hK35 _ _ ?_; clear hK35
              refine wp_ret ?_
              repeat (with_reducible first | refine then_ret ?_ | refine block_ret ?_)
              exact fn_ret hst14 hfr14 rfl (.tmp rfl <| .nil) (by refine congrArg Value.bool ?_; rw [hce, hrem, hca9]; simp)
            · try simp only [nq1, nq2, nq3, nq4, nq5, nq6, nq7, nq8, nq9, u8_eq] at hb81
              refine wp_skip ?_
              refine hK32 _ _ ?_; clear hK32
              refine rp0 hst13 hfr13 (.cons rfl (ob_move rfl) <| .cons rfl (ob_add rfl rfl ⟨by omega, by omega⟩) <| .cons rfl (ob_assign rfl) <| .nil) ?_
              intro a14 w14 m14 hst14 hle14 hk14
              have hfr14 := hk14.fr (T' := [(4, _), (3, _), (1, _), (5, _)]) (.old rfl rfl <| .old rfl rfl <| .old rfl rfl <| .new rfl <| .nil)
              have hlh14 := hlh13.trans hle14
              clear hst13 hfr13 hk14
              exact ⟨k + 1, m14, by show x25.vars.length - (k + 1) < x25.vars.length - k; omega, ⟨hst14, hlh14, hfr14.sub (.cons rfl <| .cons rfl <| .cons rfl <| .cons rfl <| .nil), ⟨by show k + 1 ≤ x25.vars.length; omega, by rw [hremk, hb81]; rfl⟩⟩⟩
          · try simp only [nq1, nq2, nq3, nq4, nq5, nq6, nq7, nq8, nq9, u8_eq] at hb68
            have hgek : k = x25.vars.length := by omega
            rw [List.drop_of_length_le (by omega), List.all_nil] at hremk
            have hca8 : cleanA x25 = true := by rw [cleanA_eq, hremk, hb59.1, hb59.2]; rfl
            refine wp_exit ?_
            refine hK22 _ _ ?_; clear hK22
            refine rp0 hst12 hfr12 (.cons rfl (ob_move rfl) <| .cons rfl (ob_add rfl rfl ⟨by omega, by omega⟩) <| .cons rfl (ob_assign rfl) <| .nil) ?_
            intro a13 w13 m13 hst13 hle13 hk13
            have hfr13 := hk13.fr (T' := [(5, _), (3, _), (1, _), (4, _)]) (.old rfl rfl <| .old rfl rfl <| .old rfl rfl <| .new rfl <| .nil)
            have hlh13 := hlh12.trans hle13
            replace hlq29 := hlq29.trans hle13
            clear hst12 hfr12 hk13
            exact ⟨y + 1, m13, by show t.arms.length - (y + 1) < t.arms.length - y; omega, ⟨hst13, hlq29, hfr13.sub (.cons rfl <| .cons rfl <| .cons rfl <| .nil), ⟨by show y + 1 ≤ t.arms.length; omega, by rw [hrem, hca8]; rfl⟩⟩⟩
      · try simp only [nq1, nq2, nq3, nq4, nq5, nq6, nq7, nq8, nq9, u8_eq] at hb39
        have hge : y = t.arms.length := by omega
        rw [List.drop_of_length_le (by omega)] at hrem
        simp only [List.all_cons, List.all_nil] at hrem
        refine wp_exit ?_
        refine hK17 _ _ ?_; clear hK17
        refine seq_any fun _ hK37 => ?_
        refine rp0 hst8 hfr8 (.cons rfl (ob_assign rfl) <| .nil) ?_
        intro a9 w9 m9 hst9 hle9 hk9
        have hfr9 := hk9.fr (T' := [(4, _), (3, _), (2, _)]) (.old rfl rfl <| .old rfl rfl <| .new rfl <| .nil)
        have hlh9 := hlh8.trans hle9
        clear hst8 hfr8 hk9
        refine hK37 _ _ ?_; clear hK37
        refine wp_ret ?_
        repeat (with_reducible first | refine then_ret ?_ | refine block_ret ?_)
        exact fn_ret hst9 hfr9 rfl (.tmp rfl <| .nil) (by refine congrArg Value.bool ?_; rw [hce, hkk9, hrem]; rcases hb20.1 with h | h <;> simp [h, hb20.2])
theorem clean_c (t : Cd) : clean_G t := Cd.rec_ (p := clean_G) (fun t ihk iha => clean_s ihk iha) t

abbrev same_G (t : Cd) : Prop := ∀ {w : World} {m : Mem} {vs_t : List Value} {u : Cd} {vs_u : List Value} (hA : Agree w m) (h_t : CdR m t vs_t) (h_u : CdR m u vs_u), FnV Tryd.prog 25 #[.agg vs_t.toArray, .agg vs_u.toArray] w m (fun _ _ v => v = .bool (sameB t u))
set_option maxHeartbeats 1600000 in
theorem same_s {t : Cd} (ihk : ∀ u ∈ t.kids, same_G u) (iha : ∀ a ∈ t.arms, same_G a.body) {w : World} {m : Mem} {vs_t : List Value} {u : Cd} {vs_u : List Value} (hA : Agree w m) (h_t : CdR m t vs_t) (h_u : CdR m u vs_u) : FnV Tryd.prog 25 #[.agg vs_t.toArray, .agg vs_u.toArray] w m (fun _ _ v => v = .bool (sameB t u)) := by
  obtain ⟨⟨oK_t, cK_t, oA_t, cA_t⟩, rfl, ⟨hik_t, hin_t⟩, hkk_t, haa_t⟩ := h_t.open_
  dsimp only at hkk_t haa_t
  have hbg_t := hkk_t.big; have hcp_t := hkk_t.cap; have hbh_t := haa_t.big; have hcq_t := haa_t.cap
  obtain ⟨⟨oK_u, cK_u, oA_u, cA_u⟩, rfl, ⟨hik_u, hin_u⟩, hkk_u, haa_u⟩ := h_u.open_
  dsimp only at hkk_u haa_u
  have hbg_u := hkk_u.big; have hcp_u := hkk_u.cap; have hbh_u := haa_u.big; have hcq_u := haa_u.cap
  refine fn_enter (vs := [_, _]) Tryd.func25 rfl rfl rfl fun a0 hfr0 => ?_
  have hst0 := st_enter hA (loc_nil [] _ w m)
  have hM : MLe m m := MLe.refl m
  refine seq_any fun _ hK1 => ?_
  refine rp0 hst0 hfr0 (.cons rfl (ob_box rfl rfl) <| .cons rfl (ob_box rfl rfl) <| .cons rfl (ob_assign rfl) <| .nil) ?_
  intro a1 w1 m1 hst1 hle1 hk1
  have hfr1 := hk1.fr (T' := []) (.nil)
  obtain ⟨g2, e2, hc2⟩ := hk1.ex 2 rfl
  replace hfr1 := hfr1.cons e2
  obtain ⟨g3, e3, hc3⟩ := hk1.ex 3 rfl
  replace hfr1 := hfr1.cons e3
  replace hkk_t := hkk_t.mono hle1
  replace haa_t := haa_t.mono hle1
  replace hkk_u := hkk_u.mono hle1
  replace haa_u := haa_u.mono hle1
  clear hst0 hfr0 hk1
  refine hK1 _ _ ?_; clear hK1
  refine seq_any fun _ hK4 => ?_
  refine seq_any fun _ hK5 => ?_
  refine rp0 hst1 hfr1 (.cons rfl (ob_fieldAddrO (off := 0) rfl Tryd.underlying25 rfl rfl Tryd.sizeOf3 rfl) <| .cons rfl (ob_load1 rfl hc2 Tryd.isAgg3 rfl) <| .cons rfl (ob_fieldAddrO (off := 0) rfl Tryd.underlying25 rfl rfl Tryd.sizeOf3 rfl) <| .cons rfl (ob_load1 rfl hc3 Tryd.isAgg3 rfl) <| .cons rfl (ob_neq rfl rfl) <| .cons rfl (ob_move rfl) <| .cons rfl (ob_fieldAddrO (off := 1) rfl Tryd.underlying25 rfl rfl Tryd.sizeOf9 rfl) <| .cons rfl (ob_load1 rfl hc2 Tryd.isAgg9 rfl) <| .cons rfl (ob_fieldAddrO (off := 1) rfl Tryd.underlying25 rfl rfl Tryd.sizeOf9 rfl) <| .cons rfl (ob_load1 rfl hc3 Tryd.isAgg9 rfl) <| .cons rfl (ob_sneq rfl rfl) <| .cons rfl (ob_or rfl rfl rfl) <| .cons rfl (ob_move rfl) <| .cons rfl (ob_fieldAddrO (off := 2) rfl Tryd.underlying25 rfl rfl Tryd.sizeOf9 rfl) <| .cons rfl (ob_load1 rfl hc2 Tryd.isAgg9 rfl) <| .cons rfl (ob_fieldAddrO (off := 2) rfl Tryd.underlying25 rfl rfl Tryd.sizeOf9 rfl) <| .cons rfl (ob_load1 rfl hc3 Tryd.isAgg9 rfl) <| .cons rfl (ob_sneq rfl rfl) <| .cons rfl (ob_or rfl rfl rfl) <| .cons rfl (ob_move rfl) <| .cons rfl (ob_fieldAddrO (off := 3) rfl Tryd.underlying25 rfl rfl Tryd.sizeOf3 rfl) <| .cons rfl (ob_load1 rfl hc2 Tryd.isAgg3 rfl) <| .cons rfl (ob_fieldAddrO (off := 3) rfl Tryd.underlying25 rfl rfl Tryd.sizeOf3 rfl) <| .cons rfl (ob_load1 rfl hc3 Tryd.isAgg3 rfl) <| .cons rfl (ob_neq rfl rfl) <| .cons rfl (ob_or rfl rfl rfl) <| .cons rfl (ob_move rfl) <| .cons rfl (ob_fieldAddrO (off := 4) rfl Tryd.underlying25 rfl rfl Tryd.sizeOf22 rfl) <| .cons rfl (ob_load1 rfl hc2 Tryd.isAgg22 rfl) <| .cons rfl (ob_len rfl Tryd.underlying22) <| .cons rfl (ob_fieldAddrO (off := 4) rfl Tryd.underlying25 rfl rfl Tryd.sizeOf22 rfl) <| .cons rfl (ob_load1 rfl hc3 Tryd.isAgg22 rfl) <| .cons rfl (ob_len rfl Tryd.underlying22) <| .cons rfl (ob_neq rfl rfl) <| .cons rfl (ob_or rfl rfl rfl) <| .cons rfl (ob_move rfl) <| .cons rfl (ob_fieldAddrO (off := 5) rfl Tryd.underlying25 rfl rfl Tryd.sizeOf23 rfl) <| .cons rfl (ob_load1 rfl hc2 Tryd.isAgg23 rfl) <| .cons rfl (ob_len rfl Tryd.underlying23) <| .cons rfl (ob_fieldAddrO (off := 5) rfl Tryd.underlying25 rfl rfl Tryd.sizeOf23 rfl) <| .cons rfl (ob_load1 rfl hc3 Tryd.isAgg23 rfl) <| .cons rfl (ob_len rfl Tryd.underlying23) <| .cons rfl (ob_neq rfl rfl) <| .cons rfl (ob_or rfl rfl rfl) <| .nil) ?_
  intro a2 w2 m2 hst2 hle2 hk2
  have hfr2 := hk2.fr (T' := [(2, _), (3, _), (52, _)]) (.old rfl rfl <| .old rfl rfl <| .new rfl <| .nil)
  replace hkk_t := hkk_t.mono hle2
  replace haa_t := haa_t.mono hle2
  replace hkk_u := hkk_u.mono hle2
  replace haa_u := haa_u.mono hle2
  replace hc2 := hc2.mono hle2
  replace hc3 := hc3.mono hle2
  clear hst1 hfr1 hk2
  refine hK5 _ _ ?_; clear hK5
  refine cond_any hfr2 rfl rfl (fun hb52 => ?_) (fun hb52 => ?_)
  · try simp only [nq1, nq2, nq3, nq4, nq5, nq6, nq7, nq8, nq9, u8_eq] at hb52
    have hne : ¬ t = u := fun e => by subst e; simp at hb52
    refine seq_any fun _ hK6 => ?_
    refine rp0 hst2 hfr2 (.cons rfl (ob_assign rfl) <| .nil) ?_
    intro a3 w3 m3 hst3 hle3 hk3
    have hfr3 := hk3.fr (T' := [(4, _)]) (.new rfl <| .nil)
    clear hst2 hfr2 hk3
    refine hK6 _ _ ?_; clear hK6
    refine wp_ret ?_
    repeat (with_reducible first | refine then_ret ?_ | refine block_ret ?_)
    exact fn_ret hst3 hfr3 rfl (.tmp rfl <| .nil) (by refine congrArg Value.bool ?_; rw [same_no hne])
  · try simp only [nq1, nq2, nq3, nq4, nq5, nq6, nq7, nq8, nq9, u8_eq] at hb52
    have hlk9 : t.kids.length = u.kids.length := by omega
    have hla9 : t.arms.length = u.arms.length := by omega
    refine wp_skip ?_
    refine hK4 _ _ ?_; clear hK4
    refine seq_any fun _ hK8 => ?_
    refine seq_any fun _ hK9 => ?_
    refine rp0 hst2 hfr2 (.cons rfl (ob_assign rfl) <| .nil) ?_
    intro a3 w3 m3 hst3 hle3 hk3
    have hfr3 := hk3.fr (T' := [(2, _), (3, _), (5, _)]) (.old rfl rfl <| .old rfl rfl <| .new rfl <| .nil)
    replace hkk_t := hkk_t.mono hle3
    replace haa_t := haa_t.mono hle3
    replace hkk_u := hkk_u.mono hle3
    replace haa_u := haa_u.mono hle3
    replace hc2 := hc2.mono hle3
    replace hc3 := hc3.mono hle3
    clear hst2 hfr2 hk3
    refine hK9 _ _ ?_; clear hK9
    refine wp_block ?_
    refine loop_any (T := [(2, _), (3, _)]) (fun (y : Nat) => ([(5, .int .i64 (y : Int))] : List (Nat × Value))) (fun _ => _) (fun (y : Nat) m => (y ≤ t.kids.length) ∧ (t.kids.take y = u.kids.take y)) (fun y => t.kids.length - y) (0) ⟨hst3, MLe.refl _, hfr3.sub (.cons rfl <| .cons rfl <| .cons rfl <| .nil), ⟨Nat.zero_le _, rfl⟩⟩ fun y a4 w4 m4 hh4 => ?_
    have hst4 := hh4.st; have hle4 := hh4.le; have hfr4 := hh4.fr; have hrel := hh4.rel; clear hh4
    replace hkk_t := hkk_t.mono hle4
    replace haa_t := haa_t.mono hle4
    replace hkk_u := hkk_u.mono hle4
    replace haa_u := haa_u.mono hle4
    replace hc2 := hc2.mono hle4
    replace hc3 := hc3.mono hle4
    clear hst3 hfr3
    obtain ⟨hyn, hall⟩ := hrel
    have hlh4 := hle4
    refine seq_any fun _ hK11 => ?_
    refine seq_any fun _ hK12 => ?_
    refine rp0 hst4 hfr4 (.cons rfl (ob_move rfl) <| .cons rfl (ob_fieldAddrO (off := 4) rfl Tryd.underlying25 rfl rfl Tryd.sizeOf22 rfl) <| .cons rfl (ob_load1 rfl hc2 Tryd.isAgg22 rfl) <| .cons rfl (ob_len rfl Tryd.underlying22) <| .cons rfl (ob_lss rfl rfl) <| .nil) ?_
    intro a5 w5 m5 hst5 hle5 hk5
    have hfr5 := hk5.fr (T' := [(5, _), (2, _), (3, _), (57, _)]) (.old rfl rfl <| .old rfl rfl <| .old rfl rfl <| .new rfl <| .nil)
    replace hkk_t := hkk_t.mono hle5
    replace haa_t := haa_t.mono hle5
    replace hkk_u := hkk_u.mono hle5
    replace haa_u := haa_u.mono hle5
    replace hc2 := hc2.mono hle5
    replace hc3 := hc3.mono hle5
    have hlh5 := hlh4.trans hle5
    clear hst4 hfr4 hk5
    refine hK12 _ _ ?_; clear hK12
    refine cond_any hfr5 rfl rfl (fun hb57 => ?_) (fun hb57 => ?_)
    · try simp only [nq1, nq2, nq3, nq4, nq5, nq6, nq7, nq8, nq9, u8_eq] at hb57
      refine wp_skip ?_
      refine hK11 _ _ ?_; clear hK11
      refine seq_any fun _ hK13 => ?_
      refine wp_block ?_
      refine seq_any fun _ hK14 => ?_
      obtain ⟨p15, vs15, x15, ho15, hd15, hm_x15, ht15, hcv15, hl15, hv15⟩ := hkk_t.nth (k := y) (by omega)
      cases ho15
      obtain ⟨⟨oK15, cK15, oA15, cA15⟩, rfl, ⟨hik15, hin15⟩, hkk15, haa15⟩ := hv15.open_
      dsimp only at hkk15 haa15
      have hbg15 := hkk15.big; have hcp15 := hkk15.cap; have hbh15 := haa15.big; have hcq15 := haa15.cap
      obtain ⟨p16, vs16, x16, ho16, hd16, hm_x16, ht16, hcv16, hl16, hv16⟩ := hkk_u.nth (k := y) (by omega)
      cases ho16
      obtain ⟨⟨oK16, cK16, oA16, cA16⟩, rfl, ⟨hik16, hin16⟩, hkk16, haa16⟩ := hv16.open_
      dsimp only at hkk16 haa16
      have hbg16 := hkk16.big; have hcp16 := hkk16.cap; have hbh16 := haa16.big; have hcq16 := haa16.cap
      refine region_plain (fun _ => mixed) hst5 hfr5 (by kernel_rfl) (by kernel_rfl) (.cons rfl (ob_fieldAddrO (off := 4) rfl Tryd.underlying25 rfl rfl Tryd.sizeOf22 rfl) <| .cons rfl (ob_load1 rfl hc2 Tryd.isAgg22 rfl) <| .cons rfl (ob_move rfl) <| .cons rfl (ob_indexAddr (k := y) rfl rfl Tryd.underlying22 Tryd.sizeOf25 rfl (by omega)) <| .cons rfl (ob_loadS' rfl hcv15 Tryd.isAgg25 Tryd.sizeOf25 rfl rfl) <| .cons rfl (ob_fieldAddrO (off := 4) rfl Tryd.underlying25 rfl rfl Tryd.sizeOf22 rfl) <| .cons rfl (ob_load1 rfl hc3 Tryd.isAgg22 rfl) <| .cons rfl (ob_move rfl) <| .cons rfl (ob_indexAddr (k := y) rfl rfl Tryd.underlying22 Tryd.sizeOf25 rfl (by omega)) <| .cons rfl (ob_loadS' rfl hcv16 Tryd.isAgg25 Tryd.sizeOf25 rfl rfl) <| .cons rfl (ob_callE rfl (.cons rfl <| .cons rfl <| .nil) Tryd.call25 (fun w m hK => by have hle_ := KC.le hK; have hA := KC.agree hK; have hv15 := hv15.mono hle_; have hv16 := hv16.mono hle_; exact ihk x15 hm_x15 hA hv15 hv16)) <| .cons rfl (ob_not rfl) <| .nil) ?_
      intro a6 w6 m6 hst6 hle6 hk6
      have hfr6 := hk6.fr (T' := [(5, _), (2, _), (3, _), (71, _)]) (.old rfl rfl <| .old rfl rfl <| .old rfl rfl <| .new rfl <| .nil)
      have hlh6 := hlh5.trans hle6
      clear hst5 hfr5 hk6
      refine hK14 _ _ ?_; clear hK14
      refine cond_any hfr6 rfl rfl (fun hb71 => ?_) (fun hb71 => ?_)
      · try simp only [nq1, nq2, nq3, nq4, nq5, nq6, nq7, nq8, nq9, u8_eq] at hb71
        have hne : ¬ t = u := fun e => drop_ne hd15 hd16 (same_niff.1 hb71) (congrArg Cd.kids e)
        refine seq_any fun _ hK17 => ?_
        refine rp0 hst6 hfr6 (.cons rfl (ob_assign rfl) <| .nil) ?_
        intro a7 w7 m7 hst7 hle7 hk7
        have hfr7 := hk7.fr (T' := [(5, _), (4, _)]) (.old rfl rfl <| .new rfl <| .nil)
        have hlh7 := hlh6.trans hle7
        clear hst6 hfr6 hk7
        refine hK17 _ _ ?_; clear hK17
        refine wp_ret ?_
        repeat (with_reducible first | refine then_ret ?_ | refine block_ret ?_)
        exact fn_ret hst7 hfr7 rfl (.tmp rfl <| .nil) (by refine congrArg Value.bool ?_; rw [same_no hne])
      · try simp only [nq1, nq2, nq3, nq4, nq5, nq6, nq7, nq8, nq9, u8_eq] at hb71
        refine wp_skip ?_
        refine hK13 _ _ ?_; clear hK13
        refine rp0 hst6 hfr6 (.cons rfl (ob_move rfl) <| .cons rfl (ob_add rfl rfl ⟨by omega, by omega⟩) <| .cons rfl (ob_assign rfl) <| .nil) ?_
        intro a7 w7 m7 hst7 hle7 hk7
        have hfr7 := hk7.fr (T' := [(2, _), (3, _), (5, _)]) (.old rfl rfl <| .old rfl rfl <| .new rfl <| .nil)
        have hlh7 := hlh6.trans hle7
        clear hst6 hfr6 hk7
        exact ⟨y + 1, m7, by show t.kids.length - (y + 1) < t.kids.length - y; omega, ⟨hst7, hlh7, hfr7.sub (.cons rfl <| .cons rfl <| .cons rfl <| .nil), ⟨by show y + 1 ≤ t.kids.length; omega, by rw [ht15, ht16, hall, same_iff.1 hb71]⟩⟩⟩
    · try simp only [nq1, nq2, nq3, nq4, nq5, nq6, nq7, nq8, nq9, u8_eq] at hb57
      have hge : y = t.kids.length := by omega
      have hkk9 : t.kids = u.kids := take_all hge (by omega) hall
      refine wp_exit ?_
      refine hK8 _ _ ?_; clear hK8
      refine seq_any fun _ hK19 => ?_
      refine seq_any fun _ hK20 => ?_
      refine rp0 hst5 hfr5 (.cons rfl (ob_assign rfl) <| .nil) ?_
      intro a6 w6 m6 hst6 hle6 hk6
      have hfr6 := hk6.fr (T' := [(5, _), (2, _), (3, _), (6, _)]) (.old rfl rfl <| .old rfl rfl <| .old rfl rfl <| .new rfl <| .nil)
      replace haa_t := haa_t.mono hle6
      replace haa_u := haa_u.mono hle6
      replace hc2 := hc2.mono hle6
      replace hc3 := hc3.mono hle6
      have hlh6 := hlh5.trans hle6
      clear hst5 hfr5 hk6
      refine hK20 _ _ ?_; clear hK20
      refine wp_block ?_
      have hlq21 := hlh6
      refine loop_any (T := [(5, _), (2, _), (3, _)]) (fun (y : Nat) => ([(6, .int .i64 (y : Int))] : List (Nat × Value))) (fun _ => _) (fun (y : Nat) m => (y ≤ t.arms.length) ∧ (t.arms.take y = u.arms.take y)) (fun y => t.arms.length - y) (0) ⟨hst6, MLe.refl _, hfr6.sub (.cons rfl <| .cons rfl <| .cons rfl <| .cons rfl <| .nil), ⟨Nat.zero_le _, rfl⟩⟩ fun y a7 w7 m7 hh7 => ?_
      have hst7 := hh7.st; have hle7 := hh7.le; have hfr7 := hh7.fr; have hrel := hh7.rel; clear hh7
      replace haa_t := haa_t.mono hle7
      replace haa_u := haa_u.mono hle7
      replace hc2 := hc2.mono hle7
      replace hc3 := hc3.mono hle7
      clear hst6 hfr6
      obtain ⟨hyn, hall⟩ := hrel
      have hlh7 := hle7
      refine seq_any fun _ hK22 => ?_
      refine seq_any fun _ hK23 => ?_
      refine rp0 hst7 hfr7 (.cons rfl (ob_move rfl) <| .cons rfl (ob_fieldAddrO (off := 5) rfl Tryd.underlying25 rfl rfl Tryd.sizeOf23 rfl) <| .cons rfl (ob_load1 rfl hc2 Tryd.isAgg23 rfl) <| .cons rfl (ob_len rfl Tryd.underlying23) <| .cons rfl (ob_lss rfl rfl) <| .nil) ?_
      intro a8 w8 m8 hst8 hle8 hk8
      have hfr8 := hk8.fr (T' := [(6, _), (5, _), (2, _), (3, _), (76, _)]) (.old rfl rfl <| .old rfl rfl <| .old rfl rfl <| .old rfl rfl <| .new rfl <| .nil)
      replace haa_t := haa_t.mono hle8
      replace haa_u := haa_u.mono hle8
      replace hc2 := hc2.mono hle8
      replace hc3 := hc3.mono hle8
      have hlh8 := hlh7.trans hle8
      clear hst7 hfr7 hk8
      refine hK23 _ _ ?_; clear hK23
      refine cond_any hfr8 rfl rfl (fun hb76 => ?_) (fun hb76 => ?_)
      · try simp only [nq1, nq2, nq3, nq4, nq5, nq6, nq7, nq8, nq9, u8_eq] at hb76
        refine wp_skip ?_
        refine hK22 _ _ ?_; clear hK22
        refine seq_any fun _ hK24 => ?_
        refine wp_block ?_
        refine seq_any fun _ hK25 => ?_
        obtain ⟨p26, vs26, x26, ho26, hd26, hm_x26, ht26, hcv26, hl26, hv26⟩ := haa_t.nth (k := y) (by omega)
        cases ho26
        obtain ⟨oV26, cV26, bs26, rfl, hva26, hbd26⟩ := hv26.open_
        have hbv26 := hva26.big; have hcv26_ := hva26.cap
        obtain ⟨⟨oK26b, cK26b, oA26b, cA26b⟩, rfl, ⟨hik26b, hin26b⟩, hkk26b, haa26b⟩ := hbd26.open_
        dsimp only at hkk26b haa26b
        have hbg26b := hkk26b.big; have hcp26b := hkk26b.cap; have hbh26b := haa26b.big; have hcq26b := haa26b.cap
        replace hst8 := hst8.more (r := .free) trivial List.nodup_nil (by simp [Res.blocks])
        refine ra0 (tch := [(5, 0, (fun v => .blk v _)), (6, 0, (fun v => .blk v _))]) hst8 hfr8 (.cons rfl (ob_fieldAddrO (off := 5) rfl Tryd.underlying25 rfl rfl Tryd.sizeOf23 rfl) <| .cons rfl (ob_load1 rfl hc2 Tryd.isAgg23 rfl) <| .cons rfl (ob_move rfl) <| .cons rfl (ob_indexAddr (k := y) rfl rfl Tryd.underlying23 Tryd.sizeOf35 rfl (by omega)) <| .cons rfl (ob_loadS' rfl hcv26 Tryd.isAgg35 Tryd.sizeOf35 rfl rfl) <| .consT rfl rfl (fun _ => rfl) rfl (ob_allocL Tryd.zeroValue35 rfl) <| .consT rfl rfl (fun _ => rfl) rfl (ob_imgT 7 rfl rfl rfl fun y7 => ob_storeF rfl rfl rfl rfl rfl Tryd.sizeOf35 rfl rfl rfl) <| .nil) ?_
        intro a9 w9 m9 hst9 hle9 hk9
        have hfr9 := hk9.fr (T' := [(6, _), (5, _), (2, _), (3, _)]) (.old rfl rfl <| .old rfl rfl <| .old rfl rfl <| .old rfl rfl <| .nil)
        obtain ⟨g27, e27, _⟩ := hk9.ex 7 rfl
        replace hfr9 := hfr9.cons e27
        replace hst9 := hst9.fin (L' := [_]) (.cons e27 <| .cons e27 <| .nil)
        try simp only [List.take_succ_cons, List.take_zero, List.drop_succ_cons, List.drop_zero, List.cons_append, List.nil_append, List.append_nil, List.length_cons, List.length_nil, Nat.zero_add, Nat.reduceAdd] at hst9
        replace haa_u := haa_u.mono hle9
        replace hc3 := hc3.mono hle9
        replace hva26 := hva26.mono hle9
        replace hbd26 := hbd26.mono hle9
        have hlh9 := hlh8.trans hle9
        clear hst8 hfr8 hk9
        refine hK25 _ _ ?_; clear hK25
        refine seq_any fun _ hK28 => ?_
        obtain ⟨p29, vs29, x29, ho29, hd29, hm_x29, ht29, hcv29, hl29, hv29⟩ := haa_u.nth (k := y) (by omega)
        cases ho29
        obtain ⟨oV29, cV29, bs29, rfl, hva29, hbd29⟩ := hv29.open_
        have hbv29 := hva29.big; have hcv29_ := hva29.cap
        obtain ⟨⟨oK29b, cK29b, oA29b, cA29b⟩, rfl, ⟨hik29b, hin29b⟩, hkk29b, haa29b⟩ := hbd29.open_
        dsimp only at hkk29b haa29b
        have hbg29b := hkk29b.big; have hcp29b := hkk29b.cap; have hbh29b := haa29b.big; have hcq29b := haa29b.cap
        replace hst9 := hst9.more (r := .free) trivial List.nodup_nil (by simp [Res.blocks])
        refine ra0 (tch := [(5, 1, (fun v => .blk v _)), (6, 1, (fun v => .blk v _))]) hst9 hfr9 (.cons rfl (ob_fieldAddrO (off := 5) rfl Tryd.underlying25 rfl rfl Tryd.sizeOf23 rfl) <| .cons rfl (ob_load1 rfl hc3 Tryd.isAgg23 rfl) <| .cons rfl (ob_move rfl) <| .cons rfl (ob_indexAddr (k := y) rfl rfl Tryd.underlying23 Tryd.sizeOf35 rfl (by omega)) <| .cons rfl (ob_loadS' rfl hcv29 Tryd.isAgg35 Tryd.sizeOf35 rfl rfl) <| .consT rfl rfl (fun _ => rfl) rfl (ob_allocL Tryd.zeroValue35 rfl) <| .consT rfl rfl (fun _ => rfl) rfl (ob_imgT 8 rfl rfl rfl fun y8 => ob_storeF rfl rfl rfl rfl rfl Tryd.sizeOf35 rfl rfl rfl) <| .nil) ?_
        intro a10 w10 m10 hst10 hle10 hk10
        have hfr10 := hk10.fr (T' := [(6, _), (5, _), (2, _), (3, _), (7, _)]) (.old rfl rfl <| .old rfl rfl <| .old rfl rfl <| .old rfl rfl <| .old rfl rfl <| .nil)
        obtain ⟨g30, e30, _⟩ := hk10.ex 8 rfl
        replace hfr10 := hfr10.cons e30
        replace hst10 := hst10.fin (L' := [_, _]) (.cons e30 <| .cons e30 <| .nil)
        try simp only [List.take_succ_cons, List.take_zero, List.drop_succ_cons, List.drop_zero, List.cons_append, List.nil_append, List.append_nil, List.length_cons, List.length_nil, Nat.zero_add, Nat.reduceAdd] at hst10
        replace hva26 := hva26.mono hle10
        replace hbd26 := hbd26.mono hle10
        replace hva29 := hva29.mono hle10
        replace hbd29 := hbd29.mono hle10
        have hlh10 := hlh9.trans hle10
        clear hst9 hfr9 hk10
        refine hK28 _ _ ?_; clear hK28
        refine seq_any fun _ hK31 => ?_
        refine rp0 hst10 hfr10 (.cons rfl (ob_fieldAddrO (off := 0) rfl Tryd.underlying35 rfl rfl Tryd.sizeOf9 rfl) <| .cons rfl (ob_loadL (j := 0) rfl rfl Tryd.isAgg9 rfl) <| .cons rfl (ob_fieldAddrO (off := 0) rfl Tryd.underlying35 rfl rfl Tryd.sizeOf9 rfl) <| .cons rfl (ob_loadL (j := 1) rfl rfl Tryd.isAgg9 rfl) <| .cons rfl (ob_sneq rfl rfl) <| .cons rfl (ob_move rfl) <| .cons rfl (ob_fieldAddrO (off := 2) rfl Tryd.underlying35 rfl rfl Tryd.sizeOf4 rfl) <| .cons rfl (ob_loadL (j := 0) rfl rfl Tryd.isAgg4 rfl) <| .cons rfl (ob_fieldAddrO (off := 2) rfl Tryd.underlying35 rfl rfl Tryd.sizeOf4 rfl) <| .cons rfl (ob_loadL (j := 1) rfl rfl Tryd.isAgg4 rfl) <| .cons rfl (ob_bneq rfl rfl Tryd.underlying4) <| .cons rfl (ob_or rfl rfl rfl) <| .cons rfl (ob_move rfl) <| .cons rfl (ob_fieldAddrO (off := 1) rfl Tryd.underlying35 rfl rfl Tryd.sizeOf29 rfl) <| .cons rfl (ob_loadL (j := 0) rfl rfl Tryd.isAgg29 rfl) <| .cons rfl (ob_fieldAddrO (off := 1) rfl Tryd.underlying35 rfl rfl Tryd.sizeOf29 rfl) <| .cons rfl (ob_loadL (j := 1) rfl rfl Tryd.isAgg29 rfl) <| .cons rfl (ob_callE rfl (.cons rfl <| .cons rfl <| .nil) Tryd.call21 (fun w m hK => by have hle_ := KC.le hK; have hA := KC.agree hK; have hva26 := hva26.mono hle_; have hva29 := hva29.mono hle_; exact texts_c (pl := x26.vars) (ql := x29.vars) hA hva26 hva29)) <| .cons rfl (ob_not rfl) <| .cons rfl (ob_or rfl rfl rfl) <| .cons rfl (ob_move rfl) <| .cons rfl (ob_fieldAddrO (off := 3) rfl Tryd.underlying35 rfl rfl Tryd.sizeOf25 rfl) <| .cons rfl (ob_loadLS (j := 0) rfl rfl Tryd.isAgg25 Tryd.sizeOf25 rfl rfl) <| .cons rfl (ob_fieldAddrO (off := 3) rfl Tryd.underlying35 rfl rfl Tryd.sizeOf25 rfl) <| .cons rfl (ob_loadLS (j := 1) rfl rfl Tryd.isAgg25 Tryd.sizeOf25 rfl rfl) <| .cons rfl (ob_callE rfl (.cons rfl <| .cons rfl <| .nil) Tryd.call25 (fun w m hK => by have hle_ := KC.le hK; have hA := KC.agree hK; have hbd26 := hbd26.mono hle_; have hbd29 := hbd29.mono hle_; exact iha x26 hm_x26 hA hbd26 hbd29)) <| .cons rfl (ob_not rfl) <| .cons rfl (ob_or rfl rfl rfl) <| .nil) ?_
        intro a11 w11 m11 hst11 hle11 hk11
        have hfr11 := hk11.fr (T' := [(6, _), (5, _), (2, _), (3, _), (116, _)]) (.old rfl rfl <| .old rfl rfl <| .old rfl rfl <| .old rfl rfl <| .new rfl <| .nil)
        have hlh11 := hlh10.trans hle11
        clear hst10 hfr10 hk11
        refine hK31 _ _ ?_; clear hK31
        refine cond_any hfr11 rfl rfl (fun hb116 => ?_) (fun hb116 => ?_)
        · try simp only [nq1, nq2, nq3, nq4, nq5, nq6, nq7, nq8, nq9, u8_eq] at hb116
          have hab : ¬ x26 = x29 := fun e => by have h9 := same_yes (congrArg Ca.body e); rw [e] at hb116 h9; simp [h9] at hb116
          have hne : ¬ t = u := fun e => drop_ne hd26 hd29 hab (congrArg Cd.arms e)
          refine seq_any fun _ hK32 => ?_
          refine rp0 hst11 hfr11 (.cons rfl (ob_assign rfl) <| .nil) ?_
          intro a12 w12 m12 hst12 hle12 hk12
          have hfr12 := hk12.fr (T' := [(6, _), (5, _), (4, _)]) (.old rfl rfl <| .old rfl rfl <| .new rfl <| .nil)
          have hlh12 := hlh11.trans hle12
          clear hst11 hfr11 hk12
          refine hK32 _ _ ?_; clear hK32
          refine wp_ret ?_
          repeat (with_reducible first | refine then_ret ?_ | refine block_ret ?_)
          exact fn_ret hst12 hfr12 rfl (.tmp rfl <| .nil) (by refine congrArg Value.bool ?_; rw [same_no hne])
        · try simp only [nq1, nq2, nq3, nq4, nq5, nq6, nq7, nq8, nq9, u8_eq] at hb116
          have hab : x26 = x29 := ca_eq hb116.1.1.1 (by simpa using hb116.1.1.2) hb116.1.2 (same_iff.1 hb116.2)
          refine wp_skip ?_
          refine hK24 _ _ ?_; clear hK24
          refine rp0 hst11 hfr11 (.cons rfl (ob_move rfl) <| .cons rfl (ob_add rfl rfl ⟨by omega, by omega⟩) <| .cons rfl (ob_assign rfl) <| .nil) ?_
          intro a12 w12 m12 hst12 hle12 hk12
          have hfr12 := hk12.fr (T' := [(5, _), (2, _), (3, _), (6, _)]) (.old rfl rfl <| .old rfl rfl <| .old rfl rfl <| .new rfl <| .nil)
          have hlh12 := hlh11.trans hle12
          clear hst11 hfr11 hk12
          have hst12 := hst12.take 0
          exact ⟨y + 1, m12, by show t.arms.length - (y + 1) < t.arms.length - y; omega, ⟨hst12, hlh12, hfr12.sub (.cons rfl <| .cons rfl <| .cons rfl <| .cons rfl <| .nil), ⟨by show y + 1 ≤ t.arms.length; omega, by rw [ht26, ht29, hall, hab]⟩⟩⟩
      · try simp only [nq1, nq2, nq3, nq4, nq5, nq6, nq7, nq8, nq9, u8_eq] at hb76
        have hge : y = t.arms.length := by omega
        have haa9 : t.arms = u.arms := take_all hge (by omega) hall
        refine wp_exit ?_
        refine hK19 _ _ ?_; clear hK19
        refine seq_any fun _ hK34 => ?_
        refine rp0 hst8 hfr8 (.cons rfl (ob_assign rfl) <| .nil) ?_
        intro a9 w9 m9 hst9 hle9 hk9
        have hfr9 := hk9.fr (T' := [(6, _), (5, _), (4, _)]) (.old rfl rfl <| .old rfl rfl <| .new rfl <| .nil)
        have hlh9 := hlh8.trans hle9
        clear hst8 hfr8 hk9
        refine hK34 _ _ ?_; clear hK34
        refine wp_ret ?_
        repeat (with_reducible first | refine then_ret ?_ | refine block_ret ?_)
        exact fn_ret hst9 hfr9 rfl (.tmp rfl <| .nil) (by refine congrArg Value.bool ?_; rw [same_yes (cd_eq hb52.1.1.1.1.1 hb52.1.1.1.1.2 hb52.1.1.1.2 hb52.1.1.2 hkk9 haa9)])
theorem same_c (t : Cd) : same_G t := Cd.rec_ (p := same_G) (fun t ihk iha => same_s ihk iha) t

set_option maxHeartbeats 1600000 in
theorem codeTexts_c {w : World} {m : Mem} {t : Cd} {vs_t : List Value} {u : Cd} {vs_u : List Value} (hA : Agree w m) (h_t : CdR m t vs_t) (h_u : CdR m u vs_u) (hT : Tab w) (hb1 : bulkC t ≤ 100000000) (hb2 : bulkC u ≤ 100000000) : FnV Tryd.prog 8 #[.agg vs_t.toArray, .agg vs_u.toArray] w m (fun _ _ v => v = .bool true) := by
  obtain ⟨⟨oK_t, cK_t, oA_t, cA_t⟩, rfl, ⟨hik_t, hin_t⟩, hkk_t, haa_t⟩ := h_t.open_
  dsimp only at hkk_t haa_t
  have hbg_t := hkk_t.big; have hcp_t := hkk_t.cap; have hbh_t := haa_t.big; have hcq_t := haa_t.cap
  obtain ⟨⟨oK_u, cK_u, oA_u, cA_u⟩, rfl, ⟨hik_u, hin_u⟩, hkk_u, haa_u⟩ := h_u.open_
  dsimp only at hkk_u haa_u
  have hbg_u := hkk_u.big; have hcp_u := hkk_u.cap; have hbh_u := haa_u.big; have hcq_u := haa_u.cap
  refine fn_enter (vs := [_, _]) Tryd.func8 rfl rfl rfl fun a0 hfr0 => ?_
  have hst0 := st_enter hA (loc_nil [] _ w m)
  have hM : MLe m m := MLe.refl m
  refine seq_any fun _ hK1 => ?_
  refine rp0 hst0 hfr0 (.cons rfl (ob_box rfl rfl) <| .cons rfl (ob_box rfl rfl) <| .cons rfl (ob_assign rfl) <| .nil) ?_
  intro a1 w1 m1 hst1 hle1 hk1
  have hfr1 := hk1.fr (T' := []) (.nil)
  obtain ⟨g2, e2, hc2⟩ := hk1.ex 2 rfl
  replace hfr1 := hfr1.cons e2
  obtain ⟨g3, e3, hc3⟩ := hk1.ex 3 rfl
  replace hfr1 := hfr1.cons e3
  replace h_t := h_t.mono hle1
  replace h_u := h_u.mono hle1
  clear hst0 hfr0 hk1
  refine hK1 _ _ ?_; clear hK1
  refine seq_any fun _ hK4 => ?_
  refine rp0 hst1 hfr1 (.cons rfl (ob_callE rfl (.nil) Tryd.call10 (fun w m hK => by have hle_ := KC.le hK; have hA := KC.agree hK; have hT := tab_keep hT hK.st.ext; exact shown_c hA hT)) <| .cons rfl (ob_assign rfl) <| .nil) ?_
  intro a2 w2 m2 hst2 hle2 hk2
  have hfr2 := hk2.fr (T' := [(2, _), (3, _), (5, _)]) (.old rfl rfl <| .old rfl rfl <| .new rfl <| .nil)
  replace h_t := h_t.mono hle2
  replace h_u := h_u.mono hle2
  replace hc2 := hc2.mono hle2
  replace hc3 := hc3.mono hle2
  clear hst1 hfr1 hk2
  refine hK4 _ _ ?_; clear hK4
  refine seq_any fun _ hK5 => ?_
  refine seq_any fun _ hK6 => ?_
  refine rp0 hst2 hfr2 (.cons rfl (ob_loadS' rfl hc2 Tryd.isAgg25 Tryd.sizeOf25 rfl rfl) <| .cons rfl (ob_callE rfl (.cons rfl <| .nil) Tryd.call11 (fun w m hK => by have hle_ := KC.le hK; have hA := KC.agree hK; have h_t := h_t.mono hle_; exact count_c t hA h_t)) <| .cons rfl (ob_gtr rfl rfl) <| .cons rfl (ob_move rfl) <| .cons rfl (ob_loadS' rfl hc3 Tryd.isAgg25 Tryd.sizeOf25 rfl rfl) <| .cons rfl (ob_callE rfl (.cons rfl <| .nil) Tryd.call11 (fun w m hK => by have hle_ := KC.le hK; have hA := KC.agree hK; have h_u := h_u.mono hle_; exact count_c u hA h_u)) <| .cons rfl (ob_gtr rfl rfl) <| .cons rfl (ob_or rfl rfl rfl) <| .cons rfl (ob_move rfl) <| .cons rfl (ob_loadS' rfl hc2 Tryd.isAgg25 Tryd.sizeOf25 rfl rfl) <| .cons rfl (ob_callE rfl (.cons rfl <| .nil) Tryd.call12 (fun w m hK => by have hle_ := KC.le hK; have hA := KC.agree hK; have h_t := h_t.mono hle_; exact right_c t hA h_t)) <| .cons rfl (ob_not rfl) <| .cons rfl (ob_or rfl rfl rfl) <| .cons rfl (ob_move rfl) <| .cons rfl (ob_loadS' rfl hc3 Tryd.isAgg25 Tryd.sizeOf25 rfl rfl) <| .cons rfl (ob_callE rfl (.cons rfl <| .nil) Tryd.call12 (fun w m hK => by have hle_ := KC.le hK; have hA := KC.agree hK; have h_u := h_u.mono hle_; exact right_c u hA h_u)) <| .cons rfl (ob_not rfl) <| .cons rfl (ob_or rfl rfl rfl) <| .cons rfl (ob_move rfl) <| .cons rfl (ob_loadS' rfl hc2 Tryd.isAgg25 Tryd.sizeOf25 rfl rfl) <| .cons rfl (ob_callE rfl (.cons rfl <| .nil) Tryd.call24 (fun w m hK => by have hle_ := KC.le hK; have hA := KC.agree hK; have h_t := h_t.mono hle_; exact clean_c t hA h_t hb1)) <| .cons rfl (ob_not rfl) <| .cons rfl (ob_or rfl rfl rfl) <| .cons rfl (ob_move rfl) <| .cons rfl (ob_loadS' rfl hc3 Tryd.isAgg25 Tryd.sizeOf25 rfl rfl) <| .cons rfl (ob_callE rfl (.cons rfl <| .nil) Tryd.call24 (fun w m hK => by have hle_ := KC.le hK; have hA := KC.agree hK; have h_u := h_u.mono hle_; exact clean_c u hA h_u hb2)) <| .cons rfl (ob_not rfl) <| .cons rfl (ob_or rfl rfl rfl) <| .nil) ?_
  intro a3 w3 m3 hst3 hle3 hk3
  have hfr3 := hk3.fr (T' := [(2, _), (3, _), (5, _), (38, _)]) (.old rfl rfl <| .old rfl rfl <| .old rfl rfl <| .new rfl <| .nil)
  replace h_t := h_t.mono hle3
  replace h_u := h_u.mono hle3
  replace hc2 := hc2.mono hle3
  replace hc3 := hc3.mono hle3
  clear hst2 hfr2 hk3
  refine hK6 _ _ ?_; clear hK6
  refine cond_any hfr3 rfl rfl (fun hb38 => ?_) (fun hb38 => ?_)
  · try simp only [nq1, nq2, nq3, nq4, nq5, nq6, nq7, nq8, nq9, u8_eq] at hb38
    refine seq_any fun _ hK7 => ?_
    refine rp0 hst3 hfr3 (.cons rfl (ob_move rfl) <| .cons rfl (ob_assign rfl) <| .nil) ?_
    intro a4 w4 m4 hst4 hle4 hk4
    have hfr4 := hk4.fr (T' := [(4, _)]) (.new rfl <| .nil)
    clear hst3 hfr3 hk4
    refine hK7 _ _ ?_; clear hK7
    refine wp_ret ?_
    repeat (with_reducible first | refine then_ret ?_ | refine block_ret ?_)
    exact fn_ret hst4 hfr4 rfl (.tmp rfl <| .nil) (rfl)
  · try simp only [nq1, nq2, nq3, nq4, nq5, nq6, nq7, nq8, nq9, u8_eq] at hb38
    have hrt : rightC t = true := hb38.1.1.1.2
    have hru : rightC u = true := hb38.1.1.2
    have hlw9 := texts_law ⟨hrt, hb38.1.2⟩ ⟨hru, hb38.2⟩
    refine wp_skip ?_
    refine hK5 _ _ ?_; clear hK5
    refine seq_any fun _ hK9 => ?_
    refine rp0 hst3 hfr3 (.cons rfl (ob_loadS' rfl hc2 Tryd.isAgg25 Tryd.sizeOf25 rfl rfl) <| .cons rfl (ob_callE rfl (.cons rfl <| .nil) Tryd.call17 (fun w m hK => by have hle_ := KC.le hK; have hA := KC.agree hK; have hT := tab_keep hT hK.st.ext; have h_t := h_t.mono hle_; exact textF_c hA h_t hT hb1)) <| .cons rfl (ob_move rfl) <| .cons rfl (ob_extract rfl rfl) <| .cons rfl (ob_extract rfl rfl) <| .cons rfl (ob_assign rfl) <| .cons rfl (ob_assign rfl) <| .nil) ?_
    intro a4 w4 m4 hst4 hle4 hk4
    have hfr4 := hk4.fr (T' := [(2, _), (3, _), (5, _), (6, _), (7, _)]) (.old rfl rfl <| .old rfl rfl <| .old rfl rfl <| .new rfl <| .new rfl <| .nil)
    replace h_t := h_t.mono hle4
    replace h_u := h_u.mono hle4
    replace hc2 := hc2.mono hle4
    replace hc3 := hc3.mono hle4
    clear hst3 hfr3 hk4
    simp only [hrt, if_true] at hfr4
    refine hK9 _ _ ?_; clear hK9
    refine seq_any fun _ hK10 => ?_
    refine rp0 hst4 hfr4 (.cons rfl (ob_loadS' rfl hc3 Tryd.isAgg25 Tryd.sizeOf25 rfl rfl) <| .cons rfl (ob_callE rfl (.cons rfl <| .nil) Tryd.call17 (fun w m hK => by have hle_ := KC.le hK; have hA := KC.agree hK; have hT := tab_keep hT hK.st.ext; have h_u := h_u.mono hle_; exact textF_c hA h_u hT hb2)) <| .cons rfl (ob_move rfl) <| .cons rfl (ob_extract rfl rfl) <| .cons rfl (ob_extract rfl rfl) <| .cons rfl (ob_assign rfl) <| .cons rfl (ob_assign rfl) <| .nil) ?_
    intro a5 w5 m5 hst5 hle5 hk5
    have hfr5 := hk5.fr (T' := [(2, _), (3, _), (5, _), (6, _), (7, _), (8, _), (9, _)]) (.old rfl rfl <| .old rfl rfl <| .old rfl rfl <| .old rfl rfl <| .old rfl rfl <| .new rfl <| .new rfl <| .nil)
    replace h_t := h_t.mono hle5
    replace h_u := h_u.mono hle5
    replace hc2 := hc2.mono hle5
    replace hc3 := hc3.mono hle5
    clear hst4 hfr4 hk5
    simp only [hru, if_true] at hfr5
    refine hK10 _ _ ?_; clear hK10
    refine seq_any fun _ hK11 => ?_
    refine rp0 hst5 hfr5 (.cons rfl (ob_move rfl) <| .cons rfl (ob_move rfl) <| .cons rfl (ob_move rfl) <| .cons rfl (ob_eql rfl rfl) <| .cons rfl (ob_and rfl rfl rfl) <| .cons rfl (ob_move rfl) <| .cons rfl (ob_move rfl) <| .cons rfl (ob_eql rfl rfl) <| .cons rfl (ob_and rfl rfl rfl) <| .cons rfl (ob_move rfl) <| .cons rfl (ob_move rfl) <| .cons rfl (ob_move rfl) <| .cons rfl (ob_seql rfl rfl) <| .cons rfl (ob_loadS' rfl hc2 Tryd.isAgg25 Tryd.sizeOf25 rfl rfl) <| .cons rfl (ob_loadS' rfl hc3 Tryd.isAgg25 Tryd.sizeOf25 rfl rfl) <| .cons rfl (ob_callE rfl (.cons rfl <| .cons rfl <| .nil) Tryd.call25 (fun w m hK => by have hle_ := KC.le hK; have hA := KC.agree hK; have h_t := h_t.mono hle_; have h_u := h_u.mono hle_; exact same_c t hA h_t h_u)) <| .cons rfl (ob_beql rfl rfl Tryd.underlying4) <| .cons rfl (ob_and rfl rfl rfl) <| .cons rfl (ob_assign rfl) <| .nil) ?_
    intro a6 w6 m6 hst6 hle6 hk6
    have hfr6 := hk6.fr (T' := [(4, _)]) (.new rfl <| .nil)
    clear hst5 hfr5 hk6
    refine hK11 _ _ ?_; clear hK11
    refine wp_ret ?_
    repeat (with_reducible first | refine then_ret ?_ | refine block_ret ?_)
    exact fn_ret hst6 hfr6 rfl (.tmp rfl <| .nil) (by refine congrArg Value.bool ?_; rw [hlw9]; simp)

end Go.Proofs.YtlihpgjabohebaaDoor
