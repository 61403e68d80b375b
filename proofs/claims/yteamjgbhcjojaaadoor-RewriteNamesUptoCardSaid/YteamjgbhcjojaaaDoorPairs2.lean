/-
  Lists of names one behind the other; terms that are alike. Conditions: those of each theorem.
-/
import Derived.Test.YteamjgbhcjojaaaDoorPairs1
import Derived.Test.YteamjgbhcjojaaaDoorMapx
import Derived.Test.YteamjgbhcjojaaaDoorShelf
namespace Go.Proofs.YteamjgbhcjojaaaDoor
set_option linter.all false
set_option maxRecDepth 4000
open Go.RowKit
def SlsR (m : Mem) (l : List Str) (vs : List Value) : Prop := ∃ o c, vs = [.slice o l.length c] ∧ Strs m o l.length c l
theorem SlsR.mono {m m' : Mem} {l : List Str} {vs : List Value} (h : SlsR m l vs) (hm : MLe m m') : SlsR m' l vs := by obtain ⟨o, c, e, h1⟩ := h; exact ⟨o, c, e, h1.mono hm⟩
abbrev Slss (m : Mem) (o : Option Addr) (n c : Nat) (l : List (List Str)) : Prop := Sl (fun m vs l => SlsR m l vs) 1 m o n c l
theorem Slss.mono {m m' : Mem} {o : Option Addr} {n c : Nat} {l : List (List Str)} (h : Slss m o n c l) (hm : MLe m m') : Slss m' o n c l := Sl.mono h (fun _ _ e => e.mono hm) hm
def lenS (ls : List (List Str)) : Nat := (ls.map List.length).sum
theorem lenS_cons (l : List Str) (ls : List (List Str)) : lenS (l :: ls) = l.length + lenS ls := by simp [lenS]
theorem lenS_flat : ∀ ls : List (List Str), ls.flatten.length = lenS ls
  | [] => rfl
  | l :: ls => by rw [List.flatten_cons, List.length_append, lenS_flat ls, lenS_cons]
def MP.sl0 : MP := MP.mem (fun y : Option Addr × Nat => .slice y.1 0 y.2) (fun _ _ => True) fun _ h => h
abbrev RS : Mem → List Value → Str → Prop := fun _ vs x => vs = [S x]
theorem growS_t {w : World} {m : Mem} {n : Nat} (hA : Agree w m) (hn : n ≤ 1000000000) :
    Calls Tryd.prog 57 #[.slice none 0 0, .int .i64 (n : Int)] w fun e w' => ∃ v m', e = .returned v ∧ Touch .free (.rowx (nz v) 0 1 9 (MP.reads RS 1 [])) w m w' m' ∧ (Kn.ex MP.sl0).holds m' v := by
  by_cases h0 : n = 0
  · subst h0
    refine Calls.mono (Any8.slices_Grow_room Tryd.growS none 0 0 0 w (by omega) (by omega) (by omega) (by omega)) fun e w' ⟨e1, e2⟩ => ⟨_, m, e1, ?_, (none, 0), rfl, trivial⟩
    subst e2
    exact ⟨ExtG.refl _ hA, rowx_new, List.nodup_nil, fun g hg => by cases hg⟩
  · obtain ⟨i, hi⟩ : ∃ i, Tryd.prog.info? 9 = some i := ⟨_, Tryd.type9⟩
    refine Calls.mono (Any8.slices_Grow_grow Tryd.growS i (S []) hi (by injection hi.symm.trans Tryd.type9 with e; rw [e]; rfl) (by injection hi.symm.trans Tryd.type9 with e; rw [e]; decide) none 0 0 n [] w (by omega) (by omega) (by injection hi.symm.trans Tryd.type9 with e; rw [e]; show (0 + n) * 16 ≤ _; omega) (by omega) (by simp) (fun _ => rfl) (fun a h => by cases h)) fun e w' ⟨e1, e2⟩ => ⟨_, m.add w.heap.size [].toArray, e1, ?_, (_, _), rfl, trivial⟩
    have hge := grownCap_ge w (0 + n) 0 9
    subst e2
    have h2 := row_new (w := w.drew) (m := m) (e := 9) (size := 1) (n := 0) (cap := grownCap w (0 + n) 0 9) (xs := []) (cur := ([].toArray ++ Builtin.zeroCells (S []).cells (0 + n - 0) ++ Builtin.zeroCells (S []).cells (grownCap w (0 + n) 0 9 - (0 + n)))) (by simp) (by omega) (grownCap_le_maxLen w (0 + n) 0 9 (by simp only [maxLen]; omega)) (by
      simp only [Array.size_append, size_zeroCells, show (S []).cells.size = 1 from rfl, List.size_toArray, List.length_nil, Nat.mul_one]; omega) (by simp) ⟨hA.cell, hA.map⟩
    have h3 := touch_nz (by omega) (touch_drew h2)
    exact ⟨h3.ext, ⟨[], h3.now, MP.reads_p.2 Reads.nil⟩, h3.nodup, h3.where_⟩
def MP.pr (x : Pr) : MP := MP.mem (fun y : (Option Addr × Nat) × (Option Addr × Nat) => .agg #[.slice y.1.1 x.left.length y.1.2, .slice y.2.1 x.right.length y.2.2]) (fun y m => Strs m y.1.1 x.left.length y.1.2 x.left ∧ Strs m y.2.1 x.right.length y.2.2 x.right) fun hm h => ⟨h.1.mono hm, h.2.mono hm⟩
theorem flat2 (a b : List Str) : [a, b].flatten = a ++ b := by simp
/-- Where an element stands first; -1: nowhere. -/
def idxA {α : Type} [DecidableEq α] : Nat → List α → α → Int
  | _, [], _ => -1
  | i, x :: l, s => if s = x then (i : Int) else idxA (i + 1) l s
theorem idxA_pos {α : Type} [DecidableEq α] (s : α) : ∀ (l : List α) (i : Nat), decide (0 ≤ idxA i l s) = decide (s ∈ l)
  | [], i => by simp [idxA]
  | x :: l, i => by
    simp only [idxA, List.mem_cons]
    by_cases h : s = x
    · simp [h]
    · simp only [h, if_false, false_or]; exact idxA_pos s l (i + 1)
theorem idxA_mem {α : Type} [DecidableEq α] (s : α) (l : List α) (i : Nat) : 0 ≤ idxA i l s ↔ s ∈ l := by
  have h := idxA_pos s l i
  rwa [decide_eq_decide] at h
/-- Both are the same, one by one. -/
def all2 {α : Type} (ψ : α → α → Bool) : List α → List α → Bool
  | [], [] => true
  | x :: xs, y :: ys => ψ x y && all2 ψ xs ys
  | [], _ :: _ => false
  | _ :: _, [] => false
theorem all2_len {α : Type} {ψ : α → α → Bool} : ∀ {xs ys : List α}, xs.length ≠ ys.length → all2 ψ xs ys = false
  | [], [], h => absurd rfl h
  | [], _ :: _, _ => rfl
  | _ :: _, [], _ => rfl
  | x :: xs, y :: ys, h => by simp only [all2]; rw [all2_len (by simpa using h)]; simp
theorem all2_eq {α : Type} [DecidableEq α] : ∀ (xs ys : List α), all2 (fun a b => decide (a = b)) xs ys = decide (xs = ys)
  | [], [] => rfl
  | [], _ :: _ => by simp [all2]
  | _ :: _, [] => by simp [all2]
  | x :: xs, y :: ys => by simp [all2, all2_eq xs ys]
theorem alikeAs_all2 (l r : List Str) : ∀ (xs zs : List Ar), xs.length = zs.length → alikeAs l r xs zs = all2 (fun x z => decide (x.name = z.name) && decide (x.vars.length = z.vars.length) && alikeT x.body (l ++ x.vars) (r ++ z.vars) z.body) xs zs
  | [], [], _ => by simp [alikeAs, all2]
  | [], _ :: _, h => by simp at h
  | _ :: _, [], h => by simp at h
  | ⟨s, v, b⟩ :: xs, ⟨s', v', b'⟩ :: zs, h => by
    rw [alikeAs, all2, alikeAs_all2 l r xs zs (by simpa using h)]; rfl
set_option maxHeartbeats 800000 in
theorem cat_c {w : World} {m : Mem} {o_ls : Option Addr} {c_ls : Nat} {ls : List (List Str)} (hA : Agree w m) (h_ls : Slss m o_ls ls.length c_ls ls) (hsum : lenS ls ≤ 1000000000) : FnV Tryd.prog 48 #[.slice o_ls ls.length c_ls] w m (fun _ m v => (MP.strs ls.flatten).p m v) := by
  have hb_ls := h_ls.big; have hc_ls := h_ls.cap
  refine fn_enter (vs := [_]) Tryd.func48 rfl rfl rfl fun a0 hfr0 => ?_
  have hst0 := st_enter hA (loc_nil [] _ w m)
  have hM : MLe m m := MLe.refl m
  refine seq_any fun _ hK1 => ?_
  refine rp0 hst0 hfr0 (.cons rfl (ob_assign rfl) <| .nil) ?_
  intro a1 w1 m1 hst1 hle1 hk1
  have hfr1 := hk1.fr (T' := [(0, _)]) (.old rfl rfl <| .nil)
  replace h_ls := h_ls.mono hle1
  replace hM := hM.trans hle1
  clear hst0 hfr0 hk1
  refine hK1 _ _ ?_; clear hK1
  refine seq_any fun _ hK2 => ?_
  refine rp0 hst1 hfr1 (.cons rfl (ob_assign rfl) <| .nil) ?_
  intro a2 w2 m2 hst2 hle2 hk2
  have hfr2 := hk2.fr (T' := [(0, _), (3, _)]) (.old rfl rfl <| .new rfl <| .nil)
  replace h_ls := h_ls.mono hle2
  replace hM := hM.trans hle2
  clear hst1 hfr1 hk2
  refine hK2 _ _ ?_; clear hK2
  refine seq_any fun _ hK3 => ?_
  refine seq_any fun _ hK4 => ?_
  refine rp0 hst2 hfr2 (.cons rfl (ob_move rfl) <| .cons rfl (ob_len rfl Tryd.underlying112) <| .cons rfl (ob_move rfl) <| .nil) ?_
  intro a3 w3 m3 hst3 hle3 hk3
  have hfr3 := hk3.fr (T' := [(0, _), (3, _), (9, _), (10, _), (11, _)]) (.old rfl rfl <| .old rfl rfl <| .new rfl <| .new rfl <| .new rfl <| .nil)
  replace h_ls := h_ls.mono hle3
  replace hM := hM.trans hle3
  clear hst2 hfr2 hk3
  refine hK4 _ _ ?_; clear hK4
  refine wp_block ?_
  refine loop_any (T := [(0, _), (9, _), (10, _)]) (fun (y : Nat × Nat) => ([(3, .int .i64 (y.2 : Int)), (11, .int .i64 (y.1 : Int))] : List (Nat × Value))) (fun _ => _) (fun (y : Nat × Nat) m => (fun (y : Nat) (acc : Nat) => (y ≤ ls.length) ∧ (acc + lenS (ls.drop y) = lenS ls)) y.1 y.2) (fun y => ls.length - y.1) ((0, 0)) ⟨hst3, MLe.refl _, hfr3.sub (.cons rfl <| .cons rfl <| .cons rfl <| .cons rfl <| .cons rfl <| .nil), ⟨Nat.zero_le _, by rw [List.drop_zero, Nat.zero_add]⟩⟩ fun y a4 w4 m4 hh4 => ?_
  have hst4 := hh4.st; have hle4 := hh4.le; have hfr4 := hh4.fr; have hrel := hh4.rel; clear hh4
  replace h_ls := h_ls.mono hle4
  clear hst3 hfr3
  replace hM := hM.trans hle4
  obtain ⟨y, acc⟩ := y
  dsimp only at hrel hfr4 hst4
  obtain ⟨hyn, hacc⟩ := hrel
  have hlh4 := hle4
  refine seq_any fun _ hK6 => ?_
  refine rp0 hst4 hfr4 (.cons rfl (ob_lss rfl rfl) <| .nil) ?_
  intro a5 w5 m5 hst5 hle5 hk5
  have hfr5 := hk5.fr (T' := [(3, _), (11, _), (0, _), (9, _), (10, _), (12, _)]) (.old rfl rfl <| .old rfl rfl <| .old rfl rfl <| .old rfl rfl <| .old rfl rfl <| .new rfl <| .nil)
  replace h_ls := h_ls.mono hle5
  have hlh5 := hlh4.trans hle5
  replace hM := hM.trans hle5
  clear hst4 hfr4 hk5
  refine hK6 _ _ ?_; clear hK6
  refine seq_any fun _ hK7 => ?_
  refine cond_any hfr5 rfl rfl (fun hb12 => ?_) (fun hb12 => ?_)
  · try simp only [nq1, nq2, nq3, nq4, nq5, nq6, nq7, nq8, nq9, u8_eq] at hb12
    refine wp_skip ?_
    refine hK7 _ _ ?_; clear hK7
    refine seq_any fun _ hK8 => ?_
    refine wp_block ?_
    refine seq_any fun _ hK9 => ?_
    obtain ⟨p10, vs10, x10, ho10, hd10, hm_x10, ht10, hcv10, hl10, hv10⟩ := h_ls.nth (k := y) (by omega)
    cases ho10
    obtain ⟨oS10, cS10, rfl, hss10⟩ := id hv10
    have hbs10 := hss10.big; have hcs10_ := hss10.cap
    refine rp0 hst5 hfr5 (.cons rfl (ob_indexAddr (k := y) rfl rfl Tryd.underlying112 Tryd.sizeOf27 rfl (by omega)) <| .cons rfl (ob_load1' rfl hcv10 Tryd.isAgg27 rfl) <| .cons rfl (ob_assign rfl) <| .nil) ?_
    intro a6 w6 m6 hst6 hle6 hk6
    have hfr6 := hk6.fr (T' := [(3, _), (11, _), (0, _), (9, _), (10, _), (5, _)]) (.old rfl rfl <| .old rfl rfl <| .old rfl rfl <| .old rfl rfl <| .old rfl rfl <| .new rfl <| .nil)
    have hlh6 := hlh5.trans hle6
    clear hst5 hfr5 hk6
    rw [hd10, lenS_cons] at hacc
    refine hK9 _ _ ?_; clear hK9
    refine seq_any fun _ hK11 => ?_
    refine rp0 hst6 hfr6 (.cons rfl (ob_move rfl) <| .cons rfl (ob_move rfl) <| .cons rfl (ob_len rfl Tryd.underlying27) <| .cons rfl (ob_add rfl rfl ⟨by omega, by omega⟩) <| .cons rfl (ob_assign rfl) <| .nil) ?_
    intro a7 w7 m7 hst7 hle7 hk7
    have hfr7 := hk7.fr (T' := [(11, _), (0, _), (9, _), (10, _), (3, _)]) (.old rfl rfl <| .old rfl rfl <| .old rfl rfl <| .old rfl rfl <| .new rfl <| .nil)
    have hlh7 := hlh6.trans hle7
    clear hst6 hfr6 hk7
    rw [show ((acc : Int) + (x10.length : Int)) = ((acc + x10.length : Nat) : Int) by omega] at hfr7
    refine hK11 _ _ ?_; clear hK11
    refine seq_any fun _ hK12 => ?_
    refine rp0 hst7 hfr7 (.cons rfl (ob_move rfl) <| .cons rfl (ob_lss rfl rfl) <| .nil) ?_
    intro a8 w8 m8 hst8 hle8 hk8
    have hfr8 := hk8.fr (T' := [(11, _), (0, _), (9, _), (10, _), (3, _), (20, _)]) (.old rfl rfl <| .old rfl rfl <| .old rfl rfl <| .old rfl rfl <| .old rfl rfl <| .new rfl <| .nil)
    have hlh8 := hlh7.trans hle8
    clear hst7 hfr7 hk8
    refine hK12 _ _ ?_; clear hK12
    refine cond_any hfr8 rfl rfl (fun hb20 => ?_) (fun hb20 => ?_)
    · try simp only [nq1, nq2, nq3, nq4, nq5, nq6, nq7, nq8, nq9, u8_eq] at hb20
      skip
      omega
    · try simp only [nq1, nq2, nq3, nq4, nq5, nq6, nq7, nq8, nq9, u8_eq] at hb20
      refine wp_skip ?_
      refine hK8 _ _ ?_; clear hK8
      refine rp0 hst8 hfr8 (.cons rfl (ob_add rfl rfl ⟨by omega, by omega⟩) <| .cons rfl (ob_move rfl) <| .nil) ?_
      intro a9 w9 m9 hst9 hle9 hk9
      have hfr9 := hk9.fr (T' := [(0, _), (9, _), (10, _), (3, _), (11, _)]) (.old rfl rfl <| .old rfl rfl <| .old rfl rfl <| .old rfl rfl <| .new rfl <| .nil)
      have hlh9 := hlh8.trans hle9
      clear hst8 hfr8 hk9
      exact ⟨(y + 1, (acc + x10.length)), m9, by show ls.length - (y + 1) < ls.length - y; omega, ⟨hst9, hlh9, hfr9.sub (.cons rfl <| .cons rfl <| .cons rfl <| .cons rfl <| .cons rfl <| .nil), ⟨by show y + 1 ≤ ls.length; omega, by show (acc + x10.length) + lenS (ls.drop (y + 1)) = lenS ls; omega⟩⟩⟩
  · try simp only [nq1, nq2, nq3, nq4, nq5, nq6, nq7, nq8, nq9, u8_eq] at hb12
    have hge : y = ls.length := by omega
    rw [List.drop_of_length_le (by omega)] at hacc
    have hacc9 : acc ≤ 1000000000 := by omega
    refine wp_exit ?_
    refine hK3 _ _ ?_; clear hK3
    refine seq_any fun _ hK13 => ?_
    replace hst5 := hst5.more (r := .free) trivial List.nodup_nil (by simp [Res.blocks])
    refine ra0 (tch := [(1, 0, (fun v => .rowx (nz v) 0 1 9 (MP.reads RS 1 [])))]) hst5 hfr5 (.cons rfl (ob_move rfl) <| .consT rfl rfl (fun _ => rfl) rfl (ob_callT rfl (.cons rfl <| .cons rfl <| .nil) Tryd.call57 (κ := .ex (MP.sl0)) (fun σ w m hK hr hkn => by have hle_ := KC.le hK; have hA := KC.agree hK; have hM := hM.trans hle_; have h_ls := h_ls.mono hle_; exact growS_t hA hacc9)) <| .consA 24 rfl rfl <| .nil) ?_
    intro a6 w6 m6 hst6 hle6 hk6
    have hfr6 := hk6.fr (T' := [(3, _), (11, _), (0, _)]) (.old rfl rfl <| .old rfl rfl <| .old rfl rfl <| .nil)
    obtain ⟨⟨og, cg⟩, e14, _⟩ := hk6.ex 24 rfl
    replace hfr6 := hfr6.cons (hk6.same 6 rfl e14)
    replace hst6 := hst6.fin (L' := [_]) (.cons e14 <| .nil)
    replace h_ls := h_ls.mono hle6
    have hlh6 := hlh5.trans hle6
    clear hst5 hfr5 hk6
    have hsl_O : Strs m6 og ([] : List Str).length cg [] := Sl.empty
    refine hK13 _ _ ?_; clear hK13
    refine seq_any fun _ hK15 => ?_
    refine seq_any fun _ hK16 => ?_
    refine rp0 hst6 hfr6 (.cons rfl (ob_move rfl) <| .cons rfl (ob_len rfl Tryd.underlying112) <| .cons rfl (ob_move rfl) <| .nil) ?_
    intro a7 w7 m7 hst7 hle7 hk7
    have hfr7 := hk7.fr (T' := [(3, _), (11, _), (6, _), (25, _), (26, _), (27, _)]) (.old rfl rfl <| .old rfl rfl <| .old rfl rfl <| .new rfl <| .new rfl <| .new rfl <| .nil)
    replace h_ls := h_ls.mono hle7
    replace hsl_O := hsl_O.mono hle7
    have hlh7 := hlh6.trans hle7
    clear hst6 hfr6 hk7
    refine hK16 _ _ ?_; clear hK16
    refine wp_block ?_
    have hlq17 := hlh7
    refine loop_any (T := [(3, _), (11, _), (25, _), (26, _)]) (fun (y : Nat × Option Addr × Nat × List Str) => ([(6, .slice y.2.1 y.2.2.2.length y.2.2.1), (27, .int .i64 (y.1 : Int))] : List (Nat × Value))) (fun y => [.rowx (nz (.slice y.2.1 y.2.2.2.length y.2.2.1)) y.2.2.2.length 1 9 (MP.reads (fun _ vs (x : Str) => vs = [S x]) 1 y.2.2.2)]) (fun (y : Nat × Option Addr × Nat × List Str) m => (fun (y : Nat) (gao : Option Addr) (gap : Nat) (ga : List Str) => (y ≤ ls.length) ∧ (Strs m gao ga.length gap ga) ∧ (ls.flatten = ga ++ (ls.drop y).flatten)) y.1 y.2.1 y.2.2.1 y.2.2.2) (fun y => ls.length - y.1) ((0, og, cg, ([] : List Str))) ⟨hst7, MLe.refl _, hfr7.sub (.cons rfl <| .cons rfl <| .cons rfl <| .cons rfl <| .cons rfl <| .cons rfl <| .nil), ⟨Nat.zero_le _, hsl_O, by rw [List.drop_zero, List.nil_append]⟩⟩ fun y a8 w8 m8 hh8 => ?_
    have hst8 := hh8.st; have hle8 := hh8.le; have hfr8 := hh8.fr; have hrel := hh8.rel; clear hh8
    replace h_ls := h_ls.mono hle8
    clear hst7 hfr7
    obtain ⟨y, gao, gap, ga⟩ := y
    dsimp only at hrel hfr8 hst8
    obtain ⟨hyn, hsl_ga, hlen_ga⟩ := hrel
    have hlh8 := hle8
    refine seq_any fun _ hK18 => ?_
    refine rp0 hst8 hfr8 (.cons rfl (ob_lss rfl rfl) <| .nil) ?_
    intro a9 w9 m9 hst9 hle9 hk9
    have hfr9 := hk9.fr (T' := [(6, _), (27, _), (3, _), (11, _), (25, _), (26, _), (28, _)]) (.old rfl rfl <| .old rfl rfl <| .old rfl rfl <| .old rfl rfl <| .old rfl rfl <| .old rfl rfl <| .new rfl <| .nil)
    replace h_ls := h_ls.mono hle9
    replace hsl_ga := hsl_ga.mono hle9
    have hlh9 := hlh8.trans hle9
    clear hst8 hfr8 hk9
    refine hK18 _ _ ?_; clear hK18
    refine seq_any fun _ hK19 => ?_
    refine cond_any hfr9 rfl rfl (fun hb28 => ?_) (fun hb28 => ?_)
    · try simp only [nq1, nq2, nq3, nq4, nq5, nq6, nq7, nq8, nq9, u8_eq] at hb28
      refine wp_skip ?_
      refine hK19 _ _ ?_; clear hK19
      refine seq_any fun _ hK20 => ?_
      refine wp_block ?_
      refine seq_any fun _ hK21 => ?_
      obtain ⟨p22, vs22, x22, ho22, hd22, hm_x22, ht22, hcv22, hl22, hv22⟩ := h_ls.nth (k := y) (by omega)
      cases ho22
      obtain ⟨oS22, cS22, rfl, hss22⟩ := id hv22
      have hbs22 := hss22.big; have hcs22_ := hss22.cap
      refine rp0 hst9 hfr9 (.cons rfl (ob_indexAddr (k := y) rfl rfl Tryd.underlying112 Tryd.sizeOf27 rfl (by omega)) <| .cons rfl (ob_load1' rfl hcv22 Tryd.isAgg27 rfl) <| .cons rfl (ob_assign rfl) <| .nil) ?_
      intro a10 w10 m10 hst10 hle10 hk10
      have hfr10 := hk10.fr (T' := [(6, _), (27, _), (3, _), (11, _), (25, _), (26, _), (8, _)]) (.old rfl rfl <| .old rfl rfl <| .old rfl rfl <| .old rfl rfl <| .old rfl rfl <| .old rfl rfl <| .new rfl <| .nil)
      replace hss22 := hss22.mono hle10
      have hlh10 := hlh9.trans hle10
      clear hst9 hfr9 hk10
      rw [hd22, List.flatten_cons] at hlen_ga
      have hla9 := congrArg List.length hlen_ga
      rw [lenS_flat, List.length_append, List.length_append] at hla9
      refine hK21 _ _ ?_; clear hK21
      refine ra0 (tch := [(2, 0, (fun v => .rowx (nz v) _ _ _ _))]) hst10 hfr10 (.cons rfl (ob_move rfl) <| .cons rfl (ob_move rfl) <| .consT rfl rfl (fun _ => rfl) rfl (ob_appendX (size := 1) (bytes := 16) (l := ga) (l' := x22) rfl rfl (fun _ => by first | exact .inl rfl | exact .inr (.inl rfl)) Tryd.underlying27 Tryd.type9 rfl rfl rfl rfl (fun w m hK => hss22.mono (KC.le hK)) rfl (by decide) (by simp only [maxLen]; omega) (by omega)) <| .consA 33 rfl rfl <| .nil) ?_
      intro a11 w11 m11 hst11 hle11 hk11
      have hfr11 := hk11.fr (T' := [(27, _), (3, _), (11, _), (25, _), (26, _)]) (.old rfl rfl <| .old rfl rfl <| .old rfl rfl <| .old rfl rfl <| .old rfl rfl <| .nil)
      obtain ⟨⟨O_23o, O_23p⟩, e24, hsl_O_23⟩ := hk11.ex 33 rfl
      replace hfr11 := hfr11.cons (hk11.same 6 rfl e24)
      replace hst11 := hst11.fin (L' := [_]) (.cons e24 <| .nil)
      have hlh11 := hlh10.trans hle11
      clear hst10 hfr10 hk11
      replace hsl_O_23 : Strs m11 O_23o (ga ++ x22).length O_23p (ga ++ x22) := hsl_O_23
      refine hK20 _ _ ?_; clear hK20
      refine rp0 hst11 hfr11 (.cons rfl (ob_add rfl rfl ⟨by omega, by omega⟩) <| .cons rfl (ob_move rfl) <| .nil) ?_
      intro a12 w12 m12 hst12 hle12 hk12
      have hfr12 := hk12.fr (T' := [(3, _), (11, _), (25, _), (26, _), (6, _), (27, _)]) (.old rfl rfl <| .old rfl rfl <| .old rfl rfl <| .old rfl rfl <| .old rfl rfl <| .new rfl <| .nil)
      replace hsl_O_23 := hsl_O_23.mono hle12
      have hlh12 := hlh11.trans hle12
      clear hst11 hfr11 hk12
      exact ⟨(y + 1, O_23o, O_23p, (ga ++ x22)), m12, by show ls.length - (y + 1) < ls.length - y; omega, ⟨hst12, hlh12, hfr12.sub (.cons rfl <| .cons rfl <| .cons rfl <| .cons rfl <| .cons rfl <| .cons rfl <| .nil), ⟨by show y + 1 ≤ ls.length; omega, hsl_O_23, by rw [hlen_ga]; show _ = (ga ++ x22) ++ (ls.drop (y + 1)).flatten; simp [List.append_assoc]⟩⟩⟩
    · try simp only [nq1, nq2, nq3, nq4, nq5, nq6, nq7, nq8, nq9, u8_eq] at hb28
      have hge : y = ls.length := by omega
      rw [List.drop_of_length_le (by omega), List.flatten_nil, List.append_nil] at hlen_ga
      refine wp_exit ?_
      refine hK15 _ _ ?_; clear hK15
      refine seq_any fun _ hK25 => ?_
      refine rp0 hst9 hfr9 (.cons rfl (ob_move rfl) <| .cons rfl (ob_assign rfl) <| .nil) ?_
      intro a10 w10 m10 hst10 hle10 hk10
      have hfr10 := hk10.fr (T' := [(6, _), (27, _), (3, _), (11, _), (2, _)]) (.old rfl rfl <| .old rfl rfl <| .old rfl rfl <| .old rfl rfl <| .new rfl <| .nil)
      replace hsl_ga := hsl_ga.mono hle10
      have hlh10 := hlh9.trans hle10
      clear hst9 hfr9 hk10
      refine hK25 _ _ ?_; clear hK25
      refine wp_ret ?_
      repeat (with_reducible first | refine then_ret ?_ | refine block_ret ?_)
      exact fn_ret hst10 hfr10 rfl (.tmp rfl <| .nil) (⟨(_, _), by rw [hlen_ga]; rfl, by rw [hlen_ga]; exact hsl_ga⟩)

theorem cat2_c {w : World} {m : Mem} {p : Addr} {a b : List Str} {oa ob : Option Addr} {ca cb : Nat} (hA : Agree w m) (hc : CellsAt m p [.slice oa a.length ca, .slice ob b.length cb]) (ha : Strs m oa a.length ca a) (hb : Strs m ob b.length cb b) (hl : a.length + b.length ≤ 1000000000) :
    FnV Tryd.prog 48 #[.slice (some p) 2 2] w m fun _ m v => (MP.strs (a ++ b)).p m v := by
  have := cat_c (ls := [a, b]) hA (Sl.two (vs := [_]) (us := [_]) hc rfl rfl ⟨_, _, rfl, ha⟩ ⟨_, _, rfl, hb⟩) (by rw [← lenS_flat, flat2, List.length_append]; omega)
  rw [flat2] at this; exact this

set_option maxHeartbeats 800000 in
theorem prwith_c {w : World} {m : Mem} {p : Pr} {vs_p : List Value} {o_l : Option Addr} {c_l : Nat} {l : List Str} {o_k : Option Addr} {c_k : Nat} {k : List Str} (hA : Agree w m) (h_p : PrR m p vs_p) (h_l : Strs m o_l l.length c_l l) (h_k : Strs m o_k k.length c_k k) (hb1 : p.left.length + l.length ≤ 1000000000) (hb2 : p.right.length + k.length ≤ 1000000000) : FnV Tryd.prog 38 #[.agg vs_p.toArray, .slice o_l l.length c_l, .slice o_k k.length c_k] w m (fun _ m v => (MP.pr ⟨p.left ++ l, p.right ++ k⟩).p m v) := by
  obtain ⟨oL_p, cL_p, oQ_p, cQ_p, rfl, hlf_p, hrg_p⟩ := id h_p
  have hbl_p := hlf_p.big; have hcl_p_ := hlf_p.cap; have hbr_p := hrg_p.big; have hcr_p_ := hrg_p.cap
  have hb_l := h_l.big; have hc_l := h_l.cap
  have hb_k := h_k.big; have hc_k := h_k.cap
  refine fn_enter (vs := [_, _, _]) Tryd.func38 rfl rfl rfl fun a0 hfr0 => ?_
  have hst0 := st_enter hA (loc_nil [] _ w m)
  have hM : MLe m m := MLe.refl m
  refine seq_any fun _ hK1 => ?_
  replace hst0 := hst0.more (r := .free) trivial List.nodup_nil (by simp [Res.blocks])
  refine ra0 (tch := [(1, 0, (fun v => .blk v _))]) hst0 hfr0 (.cons rfl (ob_box rfl rfl) <| .consT rfl rfl (fun _ => rfl) rfl (ob_allocL Tryd.zeroValue68 rfl) <| .nil) ?_
  intro a1 w1 m1 hst1 hle1 hk1
  have hfr1 := hk1.fr (T' := [(1, _), (2, _)]) (.old rfl rfl <| .old rfl rfl <| .nil)
  obtain ⟨g2, e2, hc3⟩ := hk1.ex 3 rfl
  replace hfr1 := hfr1.cons e2
  obtain ⟨g3, e3, _⟩ := hk1.ex 6 rfl
  replace hfr1 := hfr1.cons e3
  replace hst1 := hst1.fin (L' := [_]) (.cons e3 <| .nil)
  replace hlf_p := hlf_p.mono hle1
  replace hrg_p := hrg_p.mono hle1
  replace h_l := h_l.mono hle1
  replace h_k := h_k.mono hle1
  clear hst0 hfr0 hk1
  refine hK1 _ _ ?_; clear hK1
  refine seq_any fun _ hK4 => ?_
  refine region_any (tch := [(11, 0, (fun _ => .blkx _ _ _))]) (fun _ => mixed) hst1 hfr1 (by kernel_rfl) (by kernel_rfl) (by kernel_rfl) (.cons rfl (ob_fieldAddrO (off := 0) rfl Tryd.underlying68 rfl rfl Tryd.sizeOf27 rfl) <| .cons rfl (ob_load1 rfl hc3 Tryd.isAgg27 rfl) <| .cons rfl (ob_move rfl) <| .cons rfl (ob_buildSlice (.cons rfl <| .cons rfl <| .nil) Tryd.underlying112 Tryd.sizeOf27 Tryd.zeroValue27 rfl rfl rfl rfl) <| .cons rfl (ob_imgE 10 rfl rfl rfl fun y10 => ob_call (φ := MP.strs (p.left ++ l)) rfl (.cons rfl <| .nil) Tryd.call48 (fun w m hK => by have hle_ := KC.le hK; have hA := KC.agree hK; have hr0_ := hK.2; have hlf_p := hlf_p.mono hle_; have h_l := h_l.mono hle_; exact FnG.mono (cat2_c hA hr0_ hlf_p h_l (by omega)) fun _ _ _ _ h => h)) <| .cons rfl (ob_fieldAddrO (off := 1) rfl Tryd.underlying68 rfl rfl Tryd.sizeOf27 rfl) <| .cons rfl (ob_load1 rfl hc3 Tryd.isAgg27 rfl) <| .cons rfl (ob_move rfl) <| .cons rfl (ob_buildSlice (.cons rfl <| .cons rfl <| .nil) Tryd.underlying112 Tryd.sizeOf27 Tryd.zeroValue27 rfl rfl rfl rfl) <| .cons rfl (ob_imgE 15 rfl rfl rfl fun y15 => ob_call (φ := MP.strs (p.right ++ k)) rfl (.cons rfl <| .nil) Tryd.call48 (fun w m hK => by have hle_ := KC.le hK; have hA := KC.agree hK; have hr0_ := hK.2; have hrg_p := hrg_p.mono hle_; have h_k := h_k.mono hle_; exact FnG.mono (cat2_c hA hr0_ hrg_p h_k (by omega)) fun _ _ _ _ h => h)) <| .cons rfl (ob_imgI 11 rfl rfl rfl fun y11 => ob_imgV 16 rfl rfl rfl fun y16 => ob_buildS (.cons rfl <| .cons rfl <| .nil) Tryd.underlying68 Tryd.zeroValue68 (.cons Tryd.sizeOf27 <| .cons Tryd.sizeOf27 <| .nil) rfl) <| .consT rfl rfl (fun _ => rfl) rfl (ob_imgTX 17 rfl rfl rfl fun y17 => ob_store' rfl rfl rfl Tryd.sizeOf68 rfl rfl rfl) <| .nil) ?_
  intro a2 w2 m2 hst2 hle2 hk2
  have hfr2 := hk2.fr (T' := [(6, _)]) (.old rfl rfl <| .nil)
  replace hst2 := hst2.fin (L' := [_]) (.cons rfl <| .nil)
  obtain ⟨⟨⟨oa, ca⟩, ⟨ob, cb⟩⟩, ⟨hw1, hw2⟩, hst2⟩ := hst2.unx (k := 0) rfl (fun _ => rfl)
  clear hst1 hfr1 hk2
  refine hK4 _ _ ?_; clear hK4
  refine wp_ret ?_
  repeat (with_reducible first | refine then_ret ?_ | refine block_ret ?_)
  exact fn_ret hst2 hfr2 rfl (.cell rfl (load_blk (blk_heap (hst2.loc.at_ (k := 0) rfl)) Tryd.isAgg68 Tryd.sizeOf68) <| .nil) (⟨((oa, ca), (ob, cb)), rfl, hw1, hw2⟩)

set_option maxHeartbeats 1600000 in
theorem alikeC_c {w : World} {m : Mem} {x : Ar} {vs_x : List Value} {z : Ar} {vs_z : List Value} {q_p : Addr} {p : Pr} {oL oQ : Option Addr} {cL cQ : Nat} (hA : Agree w m) (h_x : ArR m x vs_x) (h_z : ArR m z vs_z) (hq_p : CellsAt m q_p [.slice oL p.left.length cL, .slice oQ p.right.length cQ]) (hlf : Strs m oL p.left.length cL p.left) (hrg : Strs m oQ p.right.length cQ p.right) (hih : ∀ {w : World} {m : Mem} {p : Pr} {vs_p : List Value} {vs_a : List Value} {b : Tm} {vs_b : List Value} (hA : Agree w m) (h_p : PrR m p vs_p) (h_a : TmR m x.body vs_a) (h_b : TmR m b vs_b) (hpl : p.left.length + bulkM x.body ≤ 1000000000) (hpr : p.right.length + bulkM b ≤ 1000000000), FnV Tryd.prog 26 #[.agg vs_p.toArray, .agg vs_a.toArray, .agg vs_b.toArray] w m (fun _ _ v => v = .bool (alikeT x.body p.left p.right b))) (hpl : p.left.length + x.vars.length + bulkM x.body ≤ 1000000000) (hpr : p.right.length + z.vars.length + bulkM z.body ≤ 1000000000) : FnV Tryd.prog 41 #[.agg vs_x.toArray, .agg vs_z.toArray, .pointer (some q_p)] w m (fun _ _ v => v = .bool (decide (x.name = z.name) && decide (x.vars.length = z.vars.length) && alikeT x.body (p.left ++ x.vars) (p.right ++ z.vars) z.body)) := by
  obtain ⟨oV_x, cV_x, bs_x, rfl, hva_x, hbd_x⟩ := h_x.open_
  have hbv_x := hva_x.big; have hcv_x_ := hva_x.cap
  obtain ⟨⟨oK_xb, cK_xb, oA_xb, cA_xb, oR_xb, cR_xb, t0_xb, t1_xb, t2_xb, t3_xb, t4_xb, t5_xb, u0_xb, u1_xb, u2_xb, u3_xb, u4_xb, u5_xb⟩, rfl, hon_xb, hkk_xb, haa_xb, hrr_xb⟩ := hbd_x.open_
  dsimp only at hkk_xb haa_xb hrr_xb
  have hbg_xb := hkk_xb.big; have hcp_xb := hkk_xb.cap; have hbh_xb := haa_xb.big; have hcq_xb := haa_xb.cap
  obtain ⟨oV_z, cV_z, bs_z, rfl, hva_z, hbd_z⟩ := h_z.open_
  have hbv_z := hva_z.big; have hcv_z_ := hva_z.cap
  obtain ⟨⟨oK_zb, cK_zb, oA_zb, cA_zb, oR_zb, cR_zb, t0_zb, t1_zb, t2_zb, t3_zb, t4_zb, t5_zb, u0_zb, u1_zb, u2_zb, u3_zb, u4_zb, u5_zb⟩, rfl, hon_zb, hkk_zb, haa_zb, hrr_zb⟩ := hbd_z.open_
  dsimp only at hkk_zb haa_zb hrr_zb
  have hbg_zb := hkk_zb.big; have hcp_zb := hkk_zb.cap; have hbh_zb := haa_zb.big; have hcq_zb := haa_zb.cap
  refine fn_enter (vs := [_, _, _]) Tryd.func41 rfl rfl rfl fun a0 hfr0 => ?_
  have hst0 := st_enter hA (loc_nil [] _ w m)
  have hM : MLe m m := MLe.refl m
  refine seq_any fun _ hK1 => ?_
  refine rp0 hst0 hfr0 (.cons rfl (ob_box rfl rfl) <| .cons rfl (ob_box rfl rfl) <| .cons rfl (ob_assign rfl) <| .nil) ?_
  intro a1 w1 m1 hst1 hle1 hk1
  have hfr1 := hk1.fr (T' := [(2, _)]) (.old rfl rfl <| .nil)
  obtain ⟨g2, e2, hc3⟩ := hk1.ex 3 rfl
  replace hfr1 := hfr1.cons e2
  obtain ⟨g3, e3, hc4⟩ := hk1.ex 4 rfl
  replace hfr1 := hfr1.cons e3
  replace h_x := h_x.mono hle1
  replace hva_x := hva_x.mono hle1
  replace hbd_x := hbd_x.mono hle1
  replace hkk_xb := hkk_xb.mono hle1
  replace haa_xb := haa_xb.mono hle1
  replace hrr_xb := hrr_xb.mono hle1
  replace h_z := h_z.mono hle1
  replace hva_z := hva_z.mono hle1
  replace hbd_z := hbd_z.mono hle1
  replace hkk_zb := hkk_zb.mono hle1
  replace haa_zb := haa_zb.mono hle1
  replace hrr_zb := hrr_zb.mono hle1
  replace hq_p := hq_p.mono hle1
  replace hlf := hlf.mono hle1
  replace hrg := hrg.mono hle1
  replace hM := hM.trans hle1
  clear hst0 hfr0 hk1
  refine hK1 _ _ ?_; clear hK1
  refine seq_any fun _ hK4 => ?_
  refine region_plain (fun _ => mixed) hst1 hfr1 (by kernel_rfl) (by kernel_rfl) (.cons rfl (ob_fieldAddrO (off := 0) rfl Tryd.underlying60 rfl rfl Tryd.sizeOf9 rfl) <| .cons rfl (ob_load1 rfl hc3 Tryd.isAgg9 rfl) <| .cons rfl (ob_fieldAddrO (off := 0) rfl Tryd.underlying60 rfl rfl Tryd.sizeOf9 rfl) <| .cons rfl (ob_load1 rfl hc4 Tryd.isAgg9 rfl) <| .cons rfl (ob_seql rfl rfl) <| .cons rfl (ob_move rfl) <| .cons rfl (ob_fieldAddrO (off := 1) rfl Tryd.underlying60 rfl rfl Tryd.sizeOf27 rfl) <| .cons rfl (ob_load1 rfl hc3 Tryd.isAgg27 rfl) <| .cons rfl (ob_len rfl Tryd.underlying27) <| .cons rfl (ob_fieldAddrO (off := 1) rfl Tryd.underlying60 rfl rfl Tryd.sizeOf27 rfl) <| .cons rfl (ob_load1 rfl hc4 Tryd.isAgg27 rfl) <| .cons rfl (ob_len rfl Tryd.underlying27) <| .cons rfl (ob_eql rfl rfl) <| .cons rfl (ob_and rfl rfl rfl) <| .cons rfl (ob_move rfl) <| .cons rfl (ob_loadS' rfl (by assumption) Tryd.isAgg68 Tryd.sizeOf68 rfl rfl) <| .cons rfl (ob_fieldAddrO (off := 1) rfl Tryd.underlying60 rfl rfl Tryd.sizeOf27 rfl) <| .cons rfl (ob_load1 rfl hc3 Tryd.isAgg27 rfl) <| .cons rfl (ob_fieldAddrO (off := 1) rfl Tryd.underlying60 rfl rfl Tryd.sizeOf27 rfl) <| .cons rfl (ob_load1 rfl hc4 Tryd.isAgg27 rfl) <| .cons rfl (ob_call (φ := MP.pr ⟨p.left ++ x.vars, p.right ++ z.vars⟩) rfl (.cons rfl <| .cons rfl <| .cons rfl <| .nil) Tryd.call38 (fun w m hK => by have hle_ := KC.le hK; have hA := KC.agree hK; have hva_x := hva_x.mono hle_; have hva_z := hva_z.mono hle_; have hlf := hlf.mono hle_; have hrg := hrg.mono hle_; exact FnG.mono (prwith_c hA ⟨_, _, _, _, rfl, hlf, hrg⟩ hva_x hva_z (by omega) (by omega)) fun _ _ _ _ h => h)) <| .cons rfl (ob_fieldAddrO (off := 2) rfl Tryd.underlying60 rfl rfl Tryd.sizeOf33 rfl) <| .cons rfl (ob_loadS rfl hc3 Tryd.isAgg33 Tryd.sizeOf33 rfl rfl) <| .cons rfl (ob_fieldAddrO (off := 2) rfl Tryd.underlying60 rfl rfl Tryd.sizeOf33 rfl) <| .cons rfl (ob_loadS rfl hc4 Tryd.isAgg33 Tryd.sizeOf33 rfl rfl) <| .cons rfl (ob_imgE 26 rfl rfl rfl fun y26 => ob_callE rfl (.cons rfl <| .cons rfl <| .cons rfl <| .nil) Tryd.call26 (fun w m hK => by have hle_ := KC.le hK; have hA := KC.agree hK; have hr0_ := hK.2; have hbd_x := hbd_x.mono hle_; have hbd_z := hbd_z.mono hle_; exact hih (p := ⟨p.left ++ x.vars, p.right ++ z.vars⟩) hA ⟨_, _, _, _, rfl, hr0_.1, hr0_.2⟩ hbd_x hbd_z (by rw [List.length_append]; omega) (by rw [List.length_append]; omega))) <| .cons rfl (ob_and rfl rfl rfl) <| .cons rfl (ob_assign rfl) <| .nil) ?_
  intro a2 w2 m2 hst2 hle2 hk2
  have hfr2 := hk2.fr (T' := [(5, _)]) (.new rfl <| .nil)
  clear hst1 hfr1 hk2
  refine hK4 _ _ ?_; clear hK4
  refine wp_ret ?_
  repeat (with_reducible first | refine then_ret ?_ | refine block_ret ?_)
  exact fn_ret hst2 hfr2 rfl (.tmp rfl <| .nil) (by refine congrArg Value.bool ?_; rw [decide_eq_decide.2 (Int.ofNat_inj (m := x.vars.length) (n := z.vars.length))])

set_option maxHeartbeats 400000 in
theorem equalfAr_c {w : World} {m : Mem} {o_l : Option Addr} {c_l : Nat} {l : List Ar} {o_k : Option Addr} {c_k : Nat} {k : List Ar} {cid : Nat} {cap : List Value} {ψ : Ar → Ar → Bool} (hA : Agree w m) (h_l : Ars m o_l l.length c_l l) (h_k : Ars m o_k k.length c_k k) (hc : ∀ args w, (callFunc cid args).run Tryd.prog w = .ok (.enter cid args) w) (hφ : ∀ w m' (t u : Ar) vs us, MLe m m' → Agree w m' → ArR m' t vs → ArR m' u us → t ∈ l → u ∈ k → FnV Tryd.prog cid ([Value.agg vs.toArray, Value.agg us.toArray] ++ cap).toArray w m' (fun _ _ v => v = .bool (ψ t u))) : FnV Tryd.prog 40 #[.slice o_l l.length c_l, .slice o_k k.length c_k, .func (.func cid) #[] cap.toArray] w m (fun _ _ v => v = .bool (all2 ψ l k)) := by
  have hb_l := h_l.big; have hc_l := h_l.cap
  have hb_k := h_k.big; have hc_k := h_k.cap
  refine fn_enter (vs := [_, _, _]) Tryd.func40 rfl rfl rfl fun a0 hfr0 => ?_
  have hst0 := st_enter hA (loc_nil [] _ w m)
  have hM : MLe m m := MLe.refl m
  refine seq_any fun _ hK1 => ?_
  refine rp0 hst0 hfr0 (.cons rfl (ob_assign rfl) <| .nil) ?_
  intro a1 w1 m1 hst1 hle1 hk1
  have hfr1 := hk1.fr (T' := [(0, _), (1, _), (2, _)]) (.old rfl rfl <| .old rfl rfl <| .old rfl rfl <| .nil)
  replace h_l := h_l.mono hle1
  replace h_k := h_k.mono hle1
  replace hM := hM.trans hle1
  clear hst0 hfr0 hk1
  refine hK1 _ _ ?_; clear hK1
  refine seq_any fun _ hK2 => ?_
  refine seq_any fun _ hK3 => ?_
  refine rp0 hst1 hfr1 (.cons rfl (ob_move rfl) <| .cons rfl (ob_len rfl Tryd.underlying25) <| .cons rfl (ob_move rfl) <| .cons rfl (ob_len rfl Tryd.underlying25) <| .cons rfl (ob_neq rfl rfl) <| .nil) ?_
  intro a2 w2 m2 hst2 hle2 hk2
  have hfr2 := hk2.fr (T' := [(0, _), (1, _), (2, _), (14, _)]) (.old rfl rfl <| .old rfl rfl <| .old rfl rfl <| .new rfl <| .nil)
  replace h_l := h_l.mono hle2
  replace h_k := h_k.mono hle2
  replace hM := hM.trans hle2
  clear hst1 hfr1 hk2
  refine hK3 _ _ ?_; clear hK3
  refine cond_any hfr2 rfl rfl (fun hb14 => ?_) (fun hb14 => ?_)
  · try simp only [nq1, nq2, nq3, nq4, nq5, nq6, nq7, nq8, nq9, u8_eq] at hb14
    have hr : all2 ψ l k = false := all2_len (by omega)
    refine seq_any fun _ hK4 => ?_
    refine rp0 hst2 hfr2 (.cons rfl (ob_assign rfl) <| .nil) ?_
    intro a3 w3 m3 hst3 hle3 hk3
    have hfr3 := hk3.fr (T' := [(6, _)]) (.new rfl <| .nil)
    clear hst2 hfr2 hk3
    refine hK4 _ _ ?_; clear hK4
    refine wp_ret ?_
    repeat (with_reducible first | refine then_ret ?_ | refine block_ret ?_)
    exact fn_ret hst3 hfr3 rfl (.tmp rfl <| .nil) (by rw [hr]; rfl)
  · try simp only [nq1, nq2, nq3, nq4, nq5, nq6, nq7, nq8, nq9, u8_eq] at hb14
    have hln : l.length = k.length := by omega
    refine wp_skip ?_
    refine hK2 _ _ ?_; clear hK2
    refine seq_any fun _ hK6 => ?_
    refine seq_any fun _ hK7 => ?_
    refine rp0 hst2 hfr2 (.cons rfl (ob_move rfl) <| .cons rfl (ob_len rfl Tryd.underlying25) <| .cons rfl (ob_move rfl) <| .nil) ?_
    intro a3 w3 m3 hst3 hle3 hk3
    have hfr3 := hk3.fr (T' := [(1, _), (2, _), (15, _), (16, _), (17, _)]) (.old rfl rfl <| .old rfl rfl <| .new rfl <| .new rfl <| .new rfl <| .nil)
    replace h_l := h_l.mono hle3
    replace h_k := h_k.mono hle3
    replace hM := hM.trans hle3
    clear hst2 hfr2 hk3
    refine hK7 _ _ ?_; clear hK7
    refine wp_block ?_
    refine loop_any (T := [(1, _), (2, _), (15, _), (16, _)]) (fun (y : Nat) => ([(17, .int .i64 (y : Int))] : List (Nat × Value))) (fun y => []) (fun (y : Nat) m => (y ≤ l.length) ∧ (all2 ψ l k = all2 ψ (l.drop y) (k.drop y))) (fun y => l.length - y) (0) ⟨hst3, MLe.refl _, hfr3.sub (.cons rfl <| .cons rfl <| .cons rfl <| .cons rfl <| .cons rfl <| .nil), ⟨Nat.zero_le _, rfl⟩⟩ fun y a4 w4 m4 hh4 => ?_
    have hst4 := hh4.st; have hle4 := hh4.le; have hfr4 := hh4.fr; have hrel := hh4.rel; clear hh4
    replace h_l := h_l.mono hle4
    replace h_k := h_k.mono hle4
    clear hst3 hfr3
    replace hM := hM.trans hle4
    obtain ⟨hyn, hrem⟩ := hrel
    have hlh4 := hle4
    refine seq_any fun _ hK9 => ?_
    refine rp0 hst4 hfr4 (.cons rfl (ob_lss rfl rfl) <| .nil) ?_
    intro a5 w5 m5 hst5 hle5 hk5
    have hfr5 := hk5.fr (T' := [(17, _), (1, _), (2, _), (15, _), (16, _), (18, _)]) (.old rfl rfl <| .old rfl rfl <| .old rfl rfl <| .old rfl rfl <| .old rfl rfl <| .new rfl <| .nil)
    replace h_l := h_l.mono hle5
    replace h_k := h_k.mono hle5
    have hlh5 := hlh4.trans hle5
    replace hM := hM.trans hle5
    clear hst4 hfr4 hk5
    refine hK9 _ _ ?_; clear hK9
    refine seq_any fun _ hK10 => ?_
    refine cond_any hfr5 rfl rfl (fun hb18 => ?_) (fun hb18 => ?_)
    · try simp only [nq1, nq2, nq3, nq4, nq5, nq6, nq7, nq8, nq9, u8_eq] at hb18
      refine wp_skip ?_
      refine hK10 _ _ ?_; clear hK10
      refine seq_any fun _ hK11 => ?_
      refine wp_block ?_
      refine seq_any fun _ hK12 => ?_
      obtain ⟨p13, vs13, x13, ho13, hd13, hm_x13, ht13, hcv13, hl13, hv13⟩ := h_l.nth (k := y) (by omega)
      cases ho13
      obtain ⟨oV13, cV13, bs13, rfl, hva13, hbd13⟩ := hv13.open_
      have hbv13 := hva13.big; have hcv13_ := hva13.cap
      obtain ⟨⟨oK13b, cK13b, oA13b, cA13b, oR13b, cR13b, t013b, t113b, t213b, t313b, t413b, t513b, u013b, u113b, u213b, u313b, u413b, u513b⟩, rfl, hon13b, hkk13b, haa13b, hrr13b⟩ := hbd13.open_
      dsimp only at hkk13b haa13b hrr13b
      have hbg13b := hkk13b.big; have hcp13b := hkk13b.cap; have hbh13b := haa13b.big; have hcq13b := haa13b.cap
      try rw [hd13] at hrem
      try simp only [all2] at hrem
      replace hst5 := hst5.more (r := .free) trivial List.nodup_nil (by simp [Res.blocks])
      refine ra0 (tch := [(3, 0, (fun v => .blk v _)), (5, 0, (fun v => .blk v _))]) hst5 hfr5 (.cons rfl (ob_move rfl) <| .cons rfl (ob_indexAddr (k := y) rfl rfl Tryd.underlying25 Tryd.sizeOf60 rfl (by omega)) <| .cons rfl (ob_loadS' rfl hcv13 Tryd.isAgg60 Tryd.sizeOf60 rfl rfl) <| .consT rfl rfl (fun _ => rfl) rfl (ob_allocL Tryd.zeroValue60 rfl) <| .cons rfl (ob_assign rfl) <| .consT rfl rfl (fun _ => rfl) rfl (ob_imgT 8 rfl rfl rfl fun y8 => ob_storeF rfl rfl rfl rfl rfl Tryd.sizeOf60 rfl rfl hv13.one) <| .nil) ?_
      intro a6 w6 m6 hst6 hle6 hk6
      have hfr6 := hk6.fr (T' := [(17, _), (1, _), (2, _), (15, _), (16, _), (7, _)]) (.old rfl rfl <| .old rfl rfl <| .old rfl rfl <| .old rfl rfl <| .old rfl rfl <| .new rfl <| .nil)
      obtain ⟨g14, e14, _⟩ := hk6.ex 8 rfl
      replace hfr6 := hfr6.cons e14
      replace hst6 := hst6.fin (L' := [_]) (.cons e14 <| .cons e14 <| .nil)
      replace h_l := h_l.mono hle6
      replace h_k := h_k.mono hle6
      replace hcv13 := hcv13.mono hle6
      replace hv13 := hv13.mono hle6
      replace hva13 := hva13.mono hle6
      replace hbd13 := hbd13.mono hle6
      replace hkk13b := hkk13b.mono hle6
      replace haa13b := haa13b.mono hle6
      replace hrr13b := hrr13b.mono hle6
      have hlh6 := hlh5.trans hle6
      replace hM := hM.trans hle6
      clear hst5 hfr5 hk6
      refine hK12 _ _ ?_; clear hK12
      refine seq_any fun _ hK15 => ?_
      obtain ⟨p16, vs16, x16, ho16, hd16, hm_x16, ht16, hcv16, hl16, hv16⟩ := h_k.nth (k := y) (by omega)
      cases ho16
      obtain ⟨oV16, cV16, bs16, rfl, hva16, hbd16⟩ := hv16.open_
      have hbv16 := hva16.big; have hcv16_ := hva16.cap
      obtain ⟨⟨oK16b, cK16b, oA16b, cA16b, oR16b, cR16b, t016b, t116b, t216b, t316b, t416b, t516b, u016b, u116b, u216b, u316b, u416b, u516b⟩, rfl, hon16b, hkk16b, haa16b, hrr16b⟩ := hbd16.open_
      dsimp only at hkk16b haa16b hrr16b
      have hbg16b := hkk16b.big; have hcp16b := hkk16b.cap; have hbh16b := haa16b.big; have hcq16b := haa16b.cap
      try rw [hd16] at hrem
      try simp only [all2] at hrem
      replace hst6 := hst6.more (r := .free) trivial List.nodup_nil (by simp [Res.blocks])
      refine ra0 (tch := [(4, 1, (fun v => .blk v _)), (5, 1, (fun v => .blk v _))]) hst6 hfr6 (.cons rfl (ob_move rfl) <| .cons rfl (ob_move rfl) <| .cons rfl (ob_indexAddr (k := y) rfl rfl Tryd.underlying25 Tryd.sizeOf60 rfl (by omega)) <| .cons rfl (ob_loadS' rfl hcv16 Tryd.isAgg60 Tryd.sizeOf60 rfl rfl) <| .consT rfl rfl (fun _ => rfl) rfl (ob_allocL Tryd.zeroValue60 rfl) <| .consT rfl rfl (fun _ => rfl) rfl (ob_imgT 9 rfl rfl rfl fun y9 => ob_storeF rfl rfl rfl rfl rfl Tryd.sizeOf60 rfl rfl hv16.one) <| .nil) ?_
      intro a7 w7 m7 hst7 hle7 hk7
      have hfr7 := hk7.fr (T' := [(17, _), (1, _), (2, _), (15, _), (16, _), (8, _)]) (.old rfl rfl <| .old rfl rfl <| .old rfl rfl <| .old rfl rfl <| .old rfl rfl <| .old rfl rfl <| .nil)
      obtain ⟨g17, e17, _⟩ := hk7.ex 9 rfl
      replace hfr7 := hfr7.cons e17
      replace hst7 := hst7.fin (L' := [_, _]) (.cons e17 <| .cons e17 <| .nil)
      replace h_l := h_l.mono hle7
      replace h_k := h_k.mono hle7
      replace hcv13 := hcv13.mono hle7
      replace hv13 := hv13.mono hle7
      replace hva13 := hva13.mono hle7
      replace hbd13 := hbd13.mono hle7
      replace hkk13b := hkk13b.mono hle7
      replace haa13b := haa13b.mono hle7
      replace hrr13b := hrr13b.mono hle7
      replace hcv16 := hcv16.mono hle7
      replace hv16 := hv16.mono hle7
      replace hva16 := hva16.mono hle7
      replace hbd16 := hbd16.mono hle7
      replace hkk16b := hkk16b.mono hle7
      replace haa16b := haa16b.mono hle7
      replace hrr16b := hrr16b.mono hle7
      have hlh7 := hlh6.trans hle7
      replace hM := hM.trans hle7
      clear hst6 hfr6 hk7
      refine hK15 _ _ ?_; clear hK15
      refine seq_any fun _ hK18 => ?_
      refine rp0 hst7 hfr7 (.cons rfl (ob_move rfl) <| .cons rfl (ob_loadLS' (j := 0) rfl rfl Tryd.isAgg60 Tryd.sizeOf60 rfl rfl) <| .cons rfl (ob_loadLS' (j := 1) rfl rfl Tryd.isAgg60 Tryd.sizeOf60 rfl rfl) <| .cons rfl (ob_callE rfl (.cons rfl <| .cons rfl <| .nil) hc (fun w m hK => by have hle_ := KC.le hK; have hA := KC.agree hK; have hM := hM.trans hle_; have h_l := h_l.mono hle_; have h_k := h_k.mono hle_; have hcv13 := hcv13.mono hle_; have hv13 := hv13.mono hle_; have hva13 := hva13.mono hle_; have hbd13 := hbd13.mono hle_; have hkk13b := hkk13b.mono hle_; have haa13b := haa13b.mono hle_; have hrr13b := hrr13b.mono hle_; have hcv16 := hcv16.mono hle_; have hv16 := hv16.mono hle_; have hva16 := hva16.mono hle_; have hbd16 := hbd16.mono hle_; have hkk16b := hkk16b.mono hle_; have haa16b := haa16b.mono hle_; have hrr16b := hrr16b.mono hle_; exact hφ w m _ _ _ _ hM hA (by assumption) (by assumption) hm_x13 hm_x16)) <| .cons rfl (ob_not rfl) <| .nil) ?_
      intro a8 w8 m8 hst8 hle8 hk8
      have hfr8 := hk8.fr (T' := [(17, _), (1, _), (2, _), (15, _), (16, _), (30, _)]) (.old rfl rfl <| .old rfl rfl <| .old rfl rfl <| .old rfl rfl <| .old rfl rfl <| .new rfl <| .nil)
      have hlh8 := hlh7.trans hle8
      clear hst7 hfr7 hk8
      refine hK18 _ _ ?_; clear hK18
      refine cond_any hfr8 rfl rfl (fun hb30 => ?_) (fun hb30 => ?_)
      · try simp only [nq1, nq2, nq3, nq4, nq5, nq6, nq7, nq8, nq9, u8_eq] at hb30
        refine seq_any fun _ hK19 => ?_
        refine rp0 hst8 hfr8 (.cons rfl (ob_assign rfl) <| .nil) ?_
        intro a9 w9 m9 hst9 hle9 hk9
        have hfr9 := hk9.fr (T' := [(17, _), (6, _)]) (.old rfl rfl <| .new rfl <| .nil)
        have hlh9 := hlh8.trans hle9
        clear hst8 hfr8 hk9
        refine hK19 _ _ ?_; clear hK19
        refine wp_ret ?_
        repeat (with_reducible first | refine then_ret ?_ | refine block_ret ?_)
        exact fn_ret hst9 hfr9 rfl (.tmp rfl <| .nil) (by refine congrArg Value.bool ?_; simp_all)
      · try simp only [nq1, nq2, nq3, nq4, nq5, nq6, nq7, nq8, nq9, u8_eq] at hb30
        refine wp_skip ?_
        refine hK11 _ _ ?_; clear hK11
        refine rp0 hst8 hfr8 (.cons rfl (ob_add rfl rfl ⟨by omega, by omega⟩) <| .cons rfl (ob_move rfl) <| .nil) ?_
        intro a9 w9 m9 hst9 hle9 hk9
        have hfr9 := hk9.fr (T' := [(1, _), (2, _), (15, _), (16, _), (17, _)]) (.old rfl rfl <| .old rfl rfl <| .old rfl rfl <| .old rfl rfl <| .new rfl <| .nil)
        have hlh9 := hlh8.trans hle9
        clear hst8 hfr8 hk9
        have hst9 := hst9.take 0
        exact ⟨y + 1, m9, by show l.length - (y + 1) < l.length - y; omega, ⟨hst9, hlh9, hfr9.sub (.cons rfl <| .cons rfl <| .cons rfl <| .cons rfl <| .cons rfl <| .nil), ⟨by show y + 1 ≤ l.length; omega, by rw [hrem, hb30]; rfl⟩⟩⟩
    · try simp only [nq1, nq2, nq3, nq4, nq5, nq6, nq7, nq8, nq9, u8_eq] at hb18
      have hge : y = l.length := by omega
      rw [List.drop_of_length_le (by omega), List.drop_of_length_le (by omega)] at hrem
      simp only [all2] at hrem
      refine wp_exit ?_
      refine hK6 _ _ ?_; clear hK6
      refine seq_any fun _ hK21 => ?_
      refine rp0 hst5 hfr5 (.cons rfl (ob_assign rfl) <| .nil) ?_
      intro a6 w6 m6 hst6 hle6 hk6
      have hfr6 := hk6.fr (T' := [(17, _), (6, _)]) (.old rfl rfl <| .new rfl <| .nil)
      have hlh6 := hlh5.trans hle6
      clear hst5 hfr5 hk6
      refine hK21 _ _ ?_; clear hK21
      refine wp_ret ?_
      repeat (with_reducible first | refine then_ret ?_ | refine block_ret ?_)
      exact fn_ret hst6 hfr6 rfl (.tmp rfl <| .nil) (by refine congrArg Value.bool ?_; simp_all)

abbrev alike_G (a : Tm) : Prop := ∀ {w : World} {m : Mem} {p : Pr} {vs_p : List Value} {vs_a : List Value} {b : Tm} {vs_b : List Value} (hA : Agree w m) (h_p : PrR m p vs_p) (h_a : TmR m a vs_a) (h_b : TmR m b vs_b) (hpl : p.left.length + bulkM a ≤ 1000000000) (hpr : p.right.length + bulkM b ≤ 1000000000), FnV Tryd.prog 26 #[.agg vs_p.toArray, .agg vs_a.toArray, .agg vs_b.toArray] w m (fun _ _ v => v = .bool (alikeT a p.left p.right b))
set_option maxHeartbeats 1600000 in
theorem alike_s {a : Tm} (ihk : ∀ u ∈ a.kids, alike_G u) (iha : ∀ x ∈ a.arms, alike_G x.body) {w : World} {m : Mem} {p : Pr} {vs_p : List Value} {vs_a : List Value} {b : Tm} {vs_b : List Value} (hA : Agree w m) (h_p : PrR m p vs_p) (h_a : TmR m a vs_a) (h_b : TmR m b vs_b) (hpl : p.left.length + bulkM a ≤ 1000000000) (hpr : p.right.length + bulkM b ≤ 1000000000) : FnV Tryd.prog 26 #[.agg vs_p.toArray, .agg vs_a.toArray, .agg vs_b.toArray] w m (fun _ _ v => v = .bool (alikeT a p.left p.right b)) := by
  obtain ⟨oL_p, cL_p, oQ_p, cQ_p, rfl, hlf_p, hrg_p⟩ := id h_p
  have hbl_p := hlf_p.big; have hcl_p_ := hlf_p.cap; have hbr_p := hrg_p.big; have hcr_p_ := hrg_p.cap
  obtain ⟨⟨oK_a, cK_a, oA_a, cA_a, oR_a, cR_a, t0_a, t1_a, t2_a, t3_a, t4_a, t5_a, u0_a, u1_a, u2_a, u3_a, u4_a, u5_a⟩, rfl, hon_a, hkk_a, haa_a, hrr_a⟩ := h_a.open_
  dsimp only at hkk_a haa_a hrr_a
  have hbg_a := hkk_a.big; have hcp_a := hkk_a.cap; have hbh_a := haa_a.big; have hcq_a := haa_a.cap
  obtain ⟨⟨oK_b, cK_b, oA_b, cA_b, oR_b, cR_b, t0_b, t1_b, t2_b, t3_b, t4_b, t5_b, u0_b, u1_b, u2_b, u3_b, u4_b, u5_b⟩, rfl, hon_b, hkk_b, haa_b, hrr_b⟩ := h_b.open_
  dsimp only at hkk_b haa_b hrr_b
  have hbg_b := hkk_b.big; have hcp_b := hkk_b.cap; have hbh_b := haa_b.big; have hcq_b := haa_b.cap
  refine fn_enter (vs := [_, _, _]) Tryd.func26 rfl rfl rfl fun a0 hfr0 => ?_
  have hst0 := st_enter hA (loc_nil [] _ w m)
  have hM : MLe m m := MLe.refl m
  have hma := bulkM_eq a; have hmb := bulkM_eq b
  have hba := fun u (hu : u ∈ a.kids) => bulk_kid hu
  have hbb := fun u (hu : u ∈ b.kids) => bulk_kid hu
  have hbl2 : ∀ i, (boundM a.kind a.name a.param i).length ≤ 2 := fun i => by unfold boundM; split; simp; split <;> simp
  have hbr2 : ∀ i, (boundM b.kind b.name b.param i).length ≤ 2 := fun i => by unfold boundM; split; simp; split <;> simp
  refine seq_any fun _ hK1 => ?_
  refine rp0 hst0 hfr0 (.cons rfl (ob_box rfl rfl) <| .cons rfl (ob_box rfl rfl) <| .cons rfl (ob_box rfl rfl) <| .cons rfl (ob_assign rfl) <| .nil) ?_
  intro a1 w1 m1 hst1 hle1 hk1
  have hfr1 := hk1.fr (T' := []) (.nil)
  obtain ⟨g2, e2, hc3⟩ := hk1.ex 3 rfl
  replace hfr1 := hfr1.cons e2
  obtain ⟨g3, e3, hc4⟩ := hk1.ex 4 rfl
  replace hfr1 := hfr1.cons e3
  obtain ⟨g4, e4, hc5⟩ := hk1.ex 5 rfl
  replace hfr1 := hfr1.cons e4
  replace h_p := h_p.mono hle1
  replace hlf_p := hlf_p.mono hle1
  replace hrg_p := hrg_p.mono hle1
  replace h_a := h_a.mono hle1
  replace hkk_a := hkk_a.mono hle1
  replace haa_a := haa_a.mono hle1
  replace hrr_a := hrr_a.mono hle1
  replace h_b := h_b.mono hle1
  replace hkk_b := hkk_b.mono hle1
  replace haa_b := haa_b.mono hle1
  replace hrr_b := hrr_b.mono hle1
  clear hst0 hfr0 hk1
  refine hK1 _ _ ?_; clear hK1
  refine seq_any fun _ hK5 => ?_
  refine seq_any fun _ hK6 => ?_
  refine rp0 hst1 hfr1 (.cons rfl (ob_fieldAddrO (off := 0) rfl Tryd.underlying33 rfl rfl Tryd.sizeOf3 rfl) <| .cons rfl (ob_load1 rfl hc4 Tryd.isAgg3 rfl) <| .cons rfl (ob_fieldAddrO (off := 0) rfl Tryd.underlying33 rfl rfl Tryd.sizeOf3 rfl) <| .cons rfl (ob_load1 rfl hc5 Tryd.isAgg3 rfl) <| .cons rfl (ob_neq rfl rfl) <| .cons rfl (ob_move rfl) <| .cons rfl (ob_fieldAddrO (off := 4) rfl Tryd.underlying33 rfl rfl Tryd.sizeOf3 rfl) <| .cons rfl (ob_load1 rfl hc4 Tryd.isAgg3 rfl) <| .cons rfl (ob_fieldAddrO (off := 4) rfl Tryd.underlying33 rfl rfl Tryd.sizeOf3 rfl) <| .cons rfl (ob_load1 rfl hc5 Tryd.isAgg3 rfl) <| .cons rfl (ob_neq rfl rfl) <| .cons rfl (ob_or rfl rfl rfl) <| .cons rfl (ob_move rfl) <| .cons rfl (ob_fieldAddrO (off := 5) rfl Tryd.underlying33 rfl rfl Tryd.sizeOf24 rfl) <| .cons rfl (ob_load1 rfl hc4 Tryd.isAgg24 rfl) <| .cons rfl (ob_len rfl Tryd.underlying24) <| .cons rfl (ob_fieldAddrO (off := 5) rfl Tryd.underlying33 rfl rfl Tryd.sizeOf24 rfl) <| .cons rfl (ob_load1 rfl hc5 Tryd.isAgg24 rfl) <| .cons rfl (ob_len rfl Tryd.underlying24) <| .cons rfl (ob_neq rfl rfl) <| .cons rfl (ob_or rfl rfl rfl) <| .cons rfl (ob_move rfl) <| .cons rfl (ob_fieldAddrO (off := 6) rfl Tryd.underlying33 rfl rfl Tryd.sizeOf25 rfl) <| .cons rfl (ob_load1 rfl hc4 Tryd.isAgg25 rfl) <| .cons rfl (ob_len rfl Tryd.underlying25) <| .cons rfl (ob_fieldAddrO (off := 6) rfl Tryd.underlying33 rfl rfl Tryd.sizeOf25 rfl) <| .cons rfl (ob_load1 rfl hc5 Tryd.isAgg25 rfl) <| .cons rfl (ob_len rfl Tryd.underlying25) <| .cons rfl (ob_neq rfl rfl) <| .cons rfl (ob_or rfl rfl rfl) <| .nil) ?_
  intro a2 w2 m2 hst2 hle2 hk2
  have hfr2 := hk2.fr (T' := [(3, _), (4, _), (5, _), (37, _)]) (.old rfl rfl <| .old rfl rfl <| .old rfl rfl <| .new rfl <| .nil)
  replace h_p := h_p.mono hle2
  replace hlf_p := hlf_p.mono hle2
  replace hrg_p := hrg_p.mono hle2
  replace h_a := h_a.mono hle2
  replace hkk_a := hkk_a.mono hle2
  replace haa_a := haa_a.mono hle2
  replace hrr_a := hrr_a.mono hle2
  replace h_b := h_b.mono hle2
  replace hkk_b := hkk_b.mono hle2
  replace haa_b := haa_b.mono hle2
  replace hrr_b := hrr_b.mono hle2
  replace hc3 := hc3.mono hle2
  replace hc4 := hc4.mono hle2
  replace hc5 := hc5.mono hle2
  clear hst1 hfr1 hk2
  refine hK6 _ _ ?_; clear hK6
  refine cond_any hfr2 rfl rfl (fun hb37 => ?_) (fun hb37 => ?_)
  · try simp only [nq1, nq2, nq3, nq4, nq5, nq6, nq7, nq8, nq9, u8_eq] at hb37
    have hres : alikeT a p.left p.right b = false := by rw [alikeT_eq]; simp only [Bool.and_eq_false_iff, decide_eq_false_iff_not]; omega
    refine seq_any fun _ hK7 => ?_
    refine rp0 hst2 hfr2 (.cons rfl (ob_assign rfl) <| .nil) ?_
    intro a3 w3 m3 hst3 hle3 hk3
    have hfr3 := hk3.fr (T' := [(6, _)]) (.new rfl <| .nil)
    clear hst2 hfr2 hk3
    refine hK7 _ _ ?_; clear hK7
    refine wp_ret ?_
    repeat (with_reducible first | refine then_ret ?_ | refine block_ret ?_)
    exact fn_ret hst3 hfr3 rfl (.tmp rfl <| .nil) (by refine congrArg Value.bool ?_; rw [hres])
  · try simp only [nq1, nq2, nq3, nq4, nq5, nq6, nq7, nq8, nq9, u8_eq] at hb37
    have hk9 : a.kind = b.kind ∧ a.n = b.n ∧ a.kids.length = b.kids.length ∧ a.arms.length = b.arms.length := by omega
    refine wp_skip ?_
    refine hK5 _ _ ?_; clear hK5
    refine join_any (T := [(3, _), (4, _), (5, _)]) (fun (y : Nat) => ([] : List (Nat × Value))) (fun y => []) (fun (y : Nat) m => (fun (zz : Nat) => ((if a.kind = 1 then namesM p.left p.right a.name b.name else if a.kind = 5 ∨ a.kind = 7 ∨ a.kind = 8 then true else decide (a.name = b.name)) = true)) y) ((0)) ⟨hst2, MLe.refl _, hfr2.sub (.cons rfl <| .cons rfl <| .cons rfl <| .nil), trivial⟩ (fun y a3 w3 m3 hh3 => ?_) (fun K9 hj9 => ?_)
    · have hst3 := hh3.st; have hle3 := hh3.le; have hfr3 := hh3.fr; have hrel := hh3.rel; clear hh3
      replace h_p := h_p.mono hle3
      replace hlf_p := hlf_p.mono hle3
      replace hrg_p := hrg_p.mono hle3
      replace h_a := h_a.mono hle3
      replace hkk_a := hkk_a.mono hle3
      replace haa_a := haa_a.mono hle3
      replace h_b := h_b.mono hle3
      replace hkk_b := hkk_b.mono hle3
      replace haa_b := haa_b.mono hle3
      replace hc3 := hc3.mono hle3
      replace hc4 := hc4.mono hle3
      replace hc5 := hc5.mono hle3
      clear hst2 hfr2
      obtain ⟨zz, rfl⟩ : ∃ z, z = y := ⟨_, rfl⟩
      try dsimp only at hrel
      try dsimp only at hfr3
      try dsimp only at hst3
      have hsw := hrel
      refine seq_any fun _ hK10 => ?_
      refine seq_any fun _ hK11 => ?_
      refine rp0 hst3 hfr3 (.cons rfl (ob_fieldAddrO (off := 5) rfl Tryd.underlying33 rfl rfl Tryd.sizeOf24 rfl) <| .cons rfl (ob_load1 rfl hc4 Tryd.isAgg24 rfl) <| .cons rfl (ob_len rfl Tryd.underlying24) <| .cons rfl (ob_move rfl) <| .nil) ?_
      intro a4 w4 m4 hst4 hle4 hk4
      have hfr4 := hk4.fr (T' := [(3, _), (4, _), (5, _), (60, _), (61, _)]) (.old rfl rfl <| .old rfl rfl <| .old rfl rfl <| .new rfl <| .new rfl <| .nil)
      replace h_p := h_p.mono hle4
      replace hlf_p := hlf_p.mono hle4
      replace hrg_p := hrg_p.mono hle4
      replace h_a := h_a.mono hle4
      replace hkk_a := hkk_a.mono hle4
      replace haa_a := haa_a.mono hle4
      replace h_b := h_b.mono hle4
      replace hkk_b := hkk_b.mono hle4
      replace haa_b := haa_b.mono hle4
      replace hc3 := hc3.mono hle4
      replace hc4 := hc4.mono hle4
      replace hc5 := hc5.mono hle4
      clear hst3 hfr3 hk4
      refine hK11 _ _ ?_; clear hK11
      refine wp_block ?_
      refine loop_any (T := [(3, _), (4, _), (5, _), (60, _)]) (fun (y : Nat) => ([(61, .int .i64 (y : Int))] : List (Nat × Value))) (fun _ => _) (fun (y : Nat) m => (y ≤ a.kids.length) ∧ (alikeKs (boundM a.kind a.name a.param) (boundM b.kind b.name b.param) 0 p.left p.right a.kids b.kids = alikeKs (boundM a.kind a.name a.param) (boundM b.kind b.name b.param) y p.left p.right (a.kids.drop y) (b.kids.drop y))) (fun y => a.kids.length - y) (0) ⟨hst4, MLe.refl _, hfr4.sub (.cons rfl <| .cons rfl <| .cons rfl <| .cons rfl <| .cons rfl <| .nil), ⟨Nat.zero_le _, rfl⟩⟩ fun y a5 w5 m5 hh5 => ?_
      have hst5 := hh5.st; have hle5 := hh5.le; have hfr5 := hh5.fr; have hrel := hh5.rel; clear hh5
      replace h_p := h_p.mono hle5
      replace hlf_p := hlf_p.mono hle5
      replace hrg_p := hrg_p.mono hle5
      replace h_a := h_a.mono hle5
      replace hkk_a := hkk_a.mono hle5
      replace haa_a := haa_a.mono hle5
      replace h_b := h_b.mono hle5
      replace hkk_b := hkk_b.mono hle5
      replace haa_b := haa_b.mono hle5
      replace hc3 := hc3.mono hle5
      replace hc4 := hc4.mono hle5
      replace hc5 := hc5.mono hle5
      clear hst4 hfr4
      obtain ⟨hyn, hrem⟩ := hrel
      have hlh5 := hle5
      refine seq_any fun _ hK13 => ?_
      refine rp0 hst5 hfr5 (.cons rfl (ob_lss rfl rfl) <| .nil) ?_
      intro a6 w6 m6 hst6 hle6 hk6
      have hfr6 := hk6.fr (T' := [(61, _), (3, _), (4, _), (5, _), (60, _), (62, _)]) (.old rfl rfl <| .old rfl rfl <| .old rfl rfl <| .old rfl rfl <| .old rfl rfl <| .new rfl <| .nil)
      replace h_p := h_p.mono hle6
      replace hlf_p := hlf_p.mono hle6
      replace hrg_p := hrg_p.mono hle6
      replace h_a := h_a.mono hle6
      replace hkk_a := hkk_a.mono hle6
      replace haa_a := haa_a.mono hle6
      replace h_b := h_b.mono hle6
      replace hkk_b := hkk_b.mono hle6
      replace haa_b := haa_b.mono hle6
      replace hc3 := hc3.mono hle6
      replace hc4 := hc4.mono hle6
      replace hc5 := hc5.mono hle6
      have hlh6 := hlh5.trans hle6
      clear hst5 hfr5 hk6
      refine hK13 _ _ ?_; clear hK13
      refine seq_any fun _ hK14 => ?_
      refine cond_any hfr6 rfl rfl (fun hb62 => ?_) (fun hb62 => ?_)
      · try simp only [nq1, nq2, nq3, nq4, nq5, nq6, nq7, nq8, nq9, u8_eq] at hb62
        refine wp_skip ?_
        refine hK14 _ _ ?_; clear hK14
        refine seq_any fun _ hK15 => ?_
        refine wp_block ?_
        refine seq_any fun _ hK16 => ?_
        refine rp0 hst6 hfr6 (.cons rfl (ob_move rfl) <| .cons rfl (ob_assign rfl) <| .nil) ?_
        intro a7 w7 m7 hst7 hle7 hk7
        have hfr7 := hk7.fr (T' := [(61, _), (3, _), (4, _), (5, _), (60, _), (7, _)]) (.old rfl rfl <| .old rfl rfl <| .old rfl rfl <| .old rfl rfl <| .old rfl rfl <| .new rfl <| .nil)
        replace h_p := h_p.mono hle7
        replace h_a := h_a.mono hle7
        replace hkk_a := hkk_a.mono hle7
        replace h_b := h_b.mono hle7
        replace hkk_b := hkk_b.mono hle7
        replace hc3 := hc3.mono hle7
        replace hc4 := hc4.mono hle7
        replace hc5 := hc5.mono hle7
        have hlh7 := hlh6.trans hle7
        clear hst6 hfr6 hk7
        refine hK16 _ _ ?_; clear hK16
        refine seq_any fun _ hK17 => ?_
        obtain ⟨p18, vs18, x18, ho18, hd18, hm_x18, ht18, hcv18, hl18, hv18⟩ := hkk_a.nth (k := y) (by omega)
        cases ho18
        obtain ⟨⟨oK18, cK18, oA18, cA18, oR18, cR18, t018, t118, t218, t318, t418, t518, u018, u118, u218, u318, u418, u518⟩, rfl, hon18, hkk18, haa18, hrr18⟩ := hv18.open_
        dsimp only at hkk18 haa18 hrr18
        have hbg18 := hkk18.big; have hcp18 := hkk18.cap; have hbh18 := haa18.big; have hcq18 := haa18.cap
        try rw [hd18] at hrem
        try simp only [alikeKs] at hrem
        obtain ⟨p19, vs19, x19, ho19, hd19, hm_x19, ht19, hcv19, hl19, hv19⟩ := hkk_b.nth (k := y) (by omega)
        cases ho19
        obtain ⟨⟨oK19, cK19, oA19, cA19, oR19, cR19, t019, t119, t219, t319, t419, t519, u019, u119, u219, u319, u419, u519⟩, rfl, hon19, hkk19, haa19, hrr19⟩ := hv19.open_
        dsimp only at hkk19 haa19 hrr19
        have hbg19 := hkk19.big; have hcp19 := hkk19.cap; have hbh19 := haa19.big; have hcq19 := haa19.cap
        try rw [hd19] at hrem
        try simp only [alikeKs] at hrem
        refine region_plain (fun _ => mixed) hst7 hfr7 (by kernel_rfl) (by kernel_rfl) (.cons rfl (ob_loadS' rfl hc3 Tryd.isAgg68 Tryd.sizeOf68 rfl rfl) <| .cons rfl (ob_loadS' rfl hc4 Tryd.isAgg33 Tryd.sizeOf33 rfl rfl) <| .cons rfl (ob_move rfl) <| .cons rfl (ob_call (φ := MP.strs (boundM a.kind a.name a.param y)) rfl (.cons rfl <| .cons rfl <| .nil) Tryd.call39 (fun w m hK => by have hle_ := KC.le hK; have hA := KC.agree hK; have h_a := h_a.mono hle_; exact FnG.mono (boundW_c (t := a) (i := y) hA h_a) fun _ _ _ _ h => h)) <| .cons rfl (ob_loadS' rfl hc5 Tryd.isAgg33 Tryd.sizeOf33 rfl rfl) <| .cons rfl (ob_move rfl) <| .cons rfl (ob_call (φ := MP.strs (boundM b.kind b.name b.param y)) rfl (.cons rfl <| .cons rfl <| .nil) Tryd.call39 (fun w m hK => by have hle_ := KC.le hK; have hA := KC.agree hK; have h_b := h_b.mono hle_; exact FnG.mono (boundW_c (t := b) (i := y) hA h_b) fun _ _ _ _ h => h)) <| .cons rfl (ob_imgE 67 rfl rfl rfl fun y67 => ob_imgE 70 rfl rfl rfl fun y70 => ob_call (φ := MP.pr ⟨p.left ++ boundM a.kind a.name a.param y, p.right ++ boundM b.kind b.name b.param y⟩) rfl (.cons rfl <| .cons rfl <| .cons rfl <| .nil) Tryd.call38 (fun w m hK => by have hle_ := KC.le hK; have hA := KC.agree hK; have hr0_ := hK.2; have hr1_ := hK.1.2; have h_p := h_p.mono hle_; exact FnG.mono (prwith_c hA h_p hr1_ hr0_ (by have := hbl2 y; omega) (by have := hbr2 y; omega)) fun _ _ _ _ h => h)) <| .cons rfl (ob_fieldAddrO (off := 5) rfl Tryd.underlying33 rfl rfl Tryd.sizeOf24 rfl) <| .cons rfl (ob_load1 rfl hc4 Tryd.isAgg24 rfl) <| .cons rfl (ob_move rfl) <| .cons rfl (ob_indexAddr (k := y) rfl rfl Tryd.underlying24 Tryd.sizeOf33 rfl (by omega)) <| .cons rfl (ob_loadS' rfl hcv18 Tryd.isAgg33 Tryd.sizeOf33 rfl rfl) <| .cons rfl (ob_fieldAddrO (off := 5) rfl Tryd.underlying33 rfl rfl Tryd.sizeOf24 rfl) <| .cons rfl (ob_load1 rfl hc5 Tryd.isAgg24 rfl) <| .cons rfl (ob_move rfl) <| .cons rfl (ob_indexAddr (k := y) rfl rfl Tryd.underlying24 Tryd.sizeOf33 rfl (by omega)) <| .cons rfl (ob_loadS' rfl hcv19 Tryd.isAgg33 Tryd.sizeOf33 rfl rfl) <| .cons rfl (ob_imgE 71 rfl rfl rfl fun y71 => ob_callE rfl (.cons rfl <| .cons rfl <| .cons rfl <| .nil) Tryd.call26 (fun w m hK => by have hle_ := KC.le hK; have hA := KC.agree hK; have hr0_ := hK.2; have hv18 := hv18.mono hle_; have hv19 := hv19.mono hle_; exact ihk _ hm_x18 (p := ⟨p.left ++ boundM a.kind a.name a.param y, p.right ++ boundM b.kind b.name b.param y⟩) hA ⟨_, _, _, _, rfl, hr0_.1, hr0_.2⟩ hv18 hv19 (by have := hba _ hm_x18; have := hbl2 y; simp only [List.length_append]; omega) (by have := hbb _ hm_x19; have := hbr2 y; simp only [List.length_append]; omega))) <| .cons rfl (ob_not rfl) <| .nil) ?_
        intro a8 w8 m8 hst8 hle8 hk8
        have hfr8 := hk8.fr (T' := [(61, _), (3, _), (4, _), (5, _), (60, _), (83, _)]) (.old rfl rfl <| .old rfl rfl <| .old rfl rfl <| .old rfl rfl <| .old rfl rfl <| .new rfl <| .nil)
        have hlh8 := hlh7.trans hle8
        clear hst7 hfr7 hk8
        refine hK17 _ _ ?_; clear hK17
        refine cond_any hfr8 rfl rfl (fun hb83 => ?_) (fun hb83 => ?_)
        · try simp only [nq1, nq2, nq3, nq4, nq5, nq6, nq7, nq8, nq9, u8_eq] at hb83
          have hres : alikeT a p.left p.right b = false := by rw [alikeT_eq, hrem, hb83]; simp
          refine seq_any fun _ hK20 => ?_
          refine rp0 hst8 hfr8 (.cons rfl (ob_assign rfl) <| .nil) ?_
          intro a9 w9 m9 hst9 hle9 hk9
          have hfr9 := hk9.fr (T' := [(61, _), (6, _)]) (.old rfl rfl <| .new rfl <| .nil)
          have hlh9 := hlh8.trans hle9
          clear hst8 hfr8 hk9
          refine hK20 _ _ ?_; clear hK20
          refine wp_ret ?_
          repeat (with_reducible first | refine then_ret ?_ | refine block_ret ?_)
          exact fn_ret hst9 hfr9 rfl (.tmp rfl <| .nil) (by refine congrArg Value.bool ?_; rw [hres])
        · try simp only [nq1, nq2, nq3, nq4, nq5, nq6, nq7, nq8, nq9, u8_eq] at hb83
          refine wp_skip ?_
          refine hK15 _ _ ?_; clear hK15
          refine rp0 hst8 hfr8 (.cons rfl (ob_add rfl rfl ⟨by omega, by omega⟩) <| .cons rfl (ob_move rfl) <| .nil) ?_
          intro a9 w9 m9 hst9 hle9 hk9
          have hfr9 := hk9.fr (T' := [(3, _), (4, _), (5, _), (60, _), (61, _)]) (.old rfl rfl <| .old rfl rfl <| .old rfl rfl <| .old rfl rfl <| .new rfl <| .nil)
          have hlh9 := hlh8.trans hle9
          clear hst8 hfr8 hk9
          exact ⟨y + 1, m9, by show a.kids.length - (y + 1) < a.kids.length - y; omega, ⟨hst9, hlh9, hfr9.sub (.cons rfl <| .cons rfl <| .cons rfl <| .cons rfl <| .cons rfl <| .nil), ⟨by show y + 1 ≤ a.kids.length; omega, by rw [hrem, hb83]; rfl⟩⟩⟩
      · try simp only [nq1, nq2, nq3, nq4, nq5, nq6, nq7, nq8, nq9, u8_eq] at hb62
        have hge : y = a.kids.length := by omega
        rw [List.drop_of_length_le (by omega), alikeKs] at hrem
        refine wp_exit ?_
        refine hK10 _ _ ?_; clear hK10
        refine seq_any fun _ hK22 => ?_
        refine rp0 hst6 hfr6 (.cons rfl (ob_fieldAddrO (off := 6) rfl Tryd.underlying33 rfl rfl Tryd.sizeOf25 rfl) <| .cons rfl (ob_load1 rfl hc4 Tryd.isAgg25 rfl) <| .cons rfl (ob_fieldAddrO (off := 6) rfl Tryd.underlying33 rfl rfl Tryd.sizeOf25 rfl) <| .cons rfl (ob_load1 rfl hc5 Tryd.isAgg25 rfl) <| .cons rfl (ob_makeFunc (.cons rfl <| .nil)) <| .cons rfl (ob_callE rfl (.cons rfl <| .cons rfl <| .cons rfl <| .nil) Tryd.call40 (fun w m hK => by have hle_ := KC.le hK; have hA := KC.agree hK; have hlf_p := hlf_p.mono hle_; have hrg_p := hrg_p.mono hle_; have haa_a := haa_a.mono hle_; have haa_b := haa_b.mono hle_; have hc3 := hc3.mono hle_; exact equalfAr_c (ψ := fun x z => decide (x.name = z.name) && decide (x.vars.length = z.vars.length) && alikeT x.body (p.left ++ x.vars) (p.right ++ z.vars) z.body) hA haa_a haa_b (fun _ _ => rfl) (fun w m2 t u vs us hm2 ha2 h1 h2 hx hz => alikeC_c ha2 h1 h2 (hc3.mono hm2) (hlf_p.mono hm2) (hrg_p.mono hm2) (fun {w m p vs_p vs_a b vs_b} a1 a2 a3 a4 a5 a6 => iha _ hx a1 a2 a3 a4 a5 a6) (by have := bulk_arm hx; omega) (by have := bulk_arm hz; omega)))) <| .cons rfl (ob_assign rfl) <| .nil) ?_
        intro a7 w7 m7 hst7 hle7 hk7
        have hfr7 := hk7.fr (T' := [(61, _), (6, _)]) (.old rfl rfl <| .new rfl <| .nil)
        have hlh7 := hlh6.trans hle7
        clear hst6 hfr6 hk7
        refine hK22 _ _ ?_; clear hK22
        refine wp_ret ?_
        repeat (with_reducible first | refine then_ret ?_ | refine block_ret ?_)
        exact fn_ret hst7 hfr7 rfl (.tmp rfl <| .nil) (by refine congrArg Value.bool ?_; rw [alikeT_eq, hsw, hrem, alikeAs_all2 _ _ _ _ hk9.2.2.2, decide_eq_true hk9.1, decide_eq_true hk9.2.1, decide_eq_true hk9.2.2.1, decide_eq_true hk9.2.2.2]; rfl)
    · have hlj9 : MLe m2 m2 := MLe.refl _
      refine seq_any fun _ hK24 => ?_
      refine rp0 hst2 hfr2 (.cons rfl (ob_fieldAddrO (off := 0) rfl Tryd.underlying33 rfl rfl Tryd.sizeOf3 rfl) <| .cons rfl (ob_load1 rfl hc4 Tryd.isAgg3 rfl) <| .nil) ?_
      intro a3 w3 m3 hst3 hle3 hk3
      have hfr3 := hk3.fr (T' := [(3, _), (4, _), (5, _), (39, _)]) (.old rfl rfl <| .old rfl rfl <| .old rfl rfl <| .new rfl <| .nil)
      replace h_p := h_p.mono hle3
      replace hlf_p := hlf_p.mono hle3
      replace hrg_p := hrg_p.mono hle3
      replace h_a := h_a.mono hle3
      replace hkk_a := hkk_a.mono hle3
      replace haa_a := haa_a.mono hle3
      replace hrr_a := hrr_a.mono hle3
      replace h_b := h_b.mono hle3
      replace hkk_b := hkk_b.mono hle3
      replace haa_b := haa_b.mono hle3
      replace hrr_b := hrr_b.mono hle3
      replace hc3 := hc3.mono hle3
      replace hc4 := hc4.mono hle3
      replace hc5 := hc5.mono hle3
      replace hlj9 := hlj9.trans hle3
      clear hst2 hfr2 hk3
      refine hK24 _ _ ?_; clear hK24
      refine wp_block ?_
      refine seq_any fun _ hK25 => ?_
      refine rp0 hst3 hfr3 (.cons rfl (ob_eql rfl rfl) <| .cons rfl (ob_assign rfl) <| .nil) ?_
      intro a4 w4 m4 hst4 hle4 hk4
      have hfr4 := hk4.fr (T' := [(3, _), (4, _), (5, _), (39, _), (45, _)]) (.old rfl rfl <| .old rfl rfl <| .old rfl rfl <| .old rfl rfl <| .new rfl <| .nil)
      replace h_p := h_p.mono hle4
      replace hlf_p := hlf_p.mono hle4
      replace hrg_p := hrg_p.mono hle4
      replace h_a := h_a.mono hle4
      replace hkk_a := hkk_a.mono hle4
      replace haa_a := haa_a.mono hle4
      replace hrr_a := hrr_a.mono hle4
      replace h_b := h_b.mono hle4
      replace hkk_b := hkk_b.mono hle4
      replace haa_b := haa_b.mono hle4
      replace hrr_b := hrr_b.mono hle4
      replace hc3 := hc3.mono hle4
      replace hc4 := hc4.mono hle4
      replace hc5 := hc5.mono hle4
      replace hlj9 := hlj9.trans hle4
      clear hst3 hfr3 hk4
      refine hK25 _ _ ?_; clear hK25
      refine cond_any hfr4 rfl rfl (fun hb45 => ?_) (fun hb45 => ?_)
      · try simp only [nq1, nq2, nq3, nq4, nq5, nq6, nq7, nq8, nq9, u8_eq] at hb45
        refine seq_any fun _ hK26 => ?_
        refine rp0 hst4 hfr4 (.cons rfl (ob_loadS' rfl hc3 Tryd.isAgg68 Tryd.sizeOf68 rfl rfl) <| .cons rfl (ob_fieldAddrO (off := 2) rfl Tryd.underlying33 rfl rfl Tryd.sizeOf9 rfl) <| .cons rfl (ob_load1 rfl hc4 Tryd.isAgg9 rfl) <| .cons rfl (ob_fieldAddrO (off := 2) rfl Tryd.underlying33 rfl rfl Tryd.sizeOf9 rfl) <| .cons rfl (ob_load1 rfl hc5 Tryd.isAgg9 rfl) <| .cons rfl (ob_callE rfl (.cons rfl <| .cons rfl <| .cons rfl <| .nil) Tryd.call37 (fun w m hK => by have hle_ := KC.le hK; have hA := KC.agree hK; have h_p := h_p.mono hle_; have hlf_p := hlf_p.mono hle_; have hrg_p := hrg_p.mono hle_; have h_a := h_a.mono hle_; have hkk_a := hkk_a.mono hle_; have haa_a := haa_a.mono hle_; have hrr_a := hrr_a.mono hle_; have h_b := h_b.mono hle_; have hkk_b := hkk_b.mono hle_; have haa_b := haa_b.mono hle_; have hrr_b := hrr_b.mono hle_; have hc3 := hc3.mono hle_; have hc4 := hc4.mono hle_; have hc5 := hc5.mono hle_; exact namesP_c hA (by first | assumption | omega | simp_all))) <| .cons rfl (ob_not rfl) <| .nil) ?_
        intro a5 w5 m5 hst5 hle5 hk5
        have hfr5 := hk5.fr (T' := [(3, _), (4, _), (5, _), (53, _)]) (.old rfl rfl <| .old rfl rfl <| .old rfl rfl <| .new rfl <| .nil)
        replace hlj9 := hlj9.trans hle5
        clear hst4 hfr4 hk5
        refine hK26 _ _ ?_; clear hK26
        refine cond_any hfr5 rfl rfl (fun hb53 => ?_) (fun hb53 => ?_)
        · try simp only [nq1, nq2, nq3, nq4, nq5, nq6, nq7, nq8, nq9, u8_eq] at hb53
          have hres : alikeT a p.left p.right b = false := by rw [alikeT_eq, if_pos (by omega), hb53]; simp
          refine seq_any fun _ hK27 => ?_
          refine rp0 hst5 hfr5 (.cons rfl (ob_assign rfl) <| .nil) ?_
          intro a6 w6 m6 hst6 hle6 hk6
          have hfr6 := hk6.fr (T' := [(6, _)]) (.new rfl <| .nil)
          clear hst5 hfr5 hk6
          refine hK27 _ _ ?_; clear hK27
          refine wp_ret ?_
          repeat (with_reducible first | refine then_ret ?_ | refine block_ret ?_)
          exact fn_ret hst6 hfr6 rfl (.tmp rfl <| .nil) (by refine congrArg Value.bool ?_; rw [hres])
        · try simp only [nq1, nq2, nq3, nq4, nq5, nq6, nq7, nq8, nq9, u8_eq] at hb53
          refine wp_skip ?_
          repeat (with_reducible first | refine then_exit ?_ | refine block_exit ?_ | refine block_normal ?_)
          exact hj9 (0) _ _ _ ⟨hst5, hlj9, hfr5.sub (.cons rfl <| .cons rfl <| .cons rfl <| .nil), by first | (rw [if_pos (by omega)]; exact hb53) | (rw [if_neg (by omega), if_pos (by omega)]) | (rw [if_neg (by omega), if_neg (by omega)]; exact decide_eq_true hb44)⟩
      · try simp only [nq1, nq2, nq3, nq4, nq5, nq6, nq7, nq8, nq9, u8_eq] at hb45
        refine seq_any fun _ hK29 => ?_
        refine seq_any fun _ hK30 => ?_
        refine rp0 hst4 hfr4 (.cons rfl (ob_eql rfl rfl) <| .cons rfl (ob_assign rfl) <| .nil) ?_
        intro a5 w5 m5 hst5 hle5 hk5
        have hfr5 := hk5.fr (T' := [(3, _), (4, _), (5, _), (39, _), (54, _)]) (.old rfl rfl <| .old rfl rfl <| .old rfl rfl <| .old rfl rfl <| .new rfl <| .nil)
        replace hc4 := hc4.mono hle5
        replace hc5 := hc5.mono hle5
        replace hlj9 := hlj9.trans hle5
        clear hst4 hfr4 hk5
        refine hK30 _ _ ?_; clear hK30
        refine cond_any hfr5 rfl rfl (fun hb54 => ?_) (fun hb54 => ?_)
        · try simp only [nq1, nq2, nq3, nq4, nq5, nq6, nq7, nq8, nq9, u8_eq] at hb54
          refine wp_skip ?_
          refine hK29 _ _ ?_; clear hK29
          refine cond_any hfr5 rfl rfl (fun hb54x => ?_) (fun hb54x => ?_)
          · try simp only [nq1, nq2, nq3, nq4, nq5, nq6, nq7, nq8, nq9, u8_eq] at hb54x
            refine wp_skip ?_
            repeat (with_reducible first | refine then_exit ?_ | refine block_exit ?_ | refine block_normal ?_)
            exact hj9 (0) _ _ _ ⟨hst5, hlj9, hfr5.sub (.cons rfl <| .cons rfl <| .cons rfl <| .nil), by first | (rw [if_pos (by omega)]; exact hb53) | (rw [if_neg (by omega), if_pos (by omega)]) | (rw [if_neg (by omega), if_neg (by omega)]; exact decide_eq_true hb44)⟩
          · exfalso; try simp only [nq1, nq2, nq3, nq4, nq5, nq6, nq7, nq8, nq9, u8_eq] at hb54x
            first | exact absurd hb54x hb54 | exact absurd hb54 hb54x | simp_all
        · try simp only [nq1, nq2, nq3, nq4, nq5, nq6, nq7, nq8, nq9, u8_eq] at hb54
          refine seq_any fun _ hK31 => ?_
          refine rp0 hst5 hfr5 (.cons rfl (ob_eql rfl rfl) <| .cons rfl (ob_assign rfl) <| .nil) ?_
          intro a6 w6 m6 hst6 hle6 hk6
          have hfr6 := hk6.fr (T' := [(3, _), (4, _), (5, _), (39, _), (54, _)]) (.old rfl rfl <| .old rfl rfl <| .old rfl rfl <| .old rfl rfl <| .new rfl <| .nil)
          replace hc4 := hc4.mono hle6
          replace hc5 := hc5.mono hle6
          replace hlj9 := hlj9.trans hle6
          clear hst5 hfr5 hk6
          refine hK31 _ _ ?_; clear hK31
          refine cond_any hfr6 rfl rfl (fun hb54 => ?_) (fun hb54 => ?_)
          · try simp only [nq1, nq2, nq3, nq4, nq5, nq6, nq7, nq8, nq9, u8_eq] at hb54
            refine wp_skip ?_
            refine hK29 _ _ ?_; clear hK29
            refine cond_any hfr6 rfl rfl (fun hb54x => ?_) (fun hb54x => ?_)
            · try simp only [nq1, nq2, nq3, nq4, nq5, nq6, nq7, nq8, nq9, u8_eq] at hb54x
              refine wp_skip ?_
              repeat (with_reducible first | refine then_exit ?_ | refine block_exit ?_ | refine block_normal ?_)
              exact hj9 (0) _ _ _ ⟨hst6, hlj9, hfr6.sub (.cons rfl <| .cons rfl <| .cons rfl <| .nil), by first | (rw [if_pos (by omega)]; exact hb53) | (rw [if_neg (by omega), if_pos (by omega)]) | (rw [if_neg (by omega), if_neg (by omega)]; exact decide_eq_true hb44)⟩
            · exfalso; try simp only [nq1, nq2, nq3, nq4, nq5, nq6, nq7, nq8, nq9, u8_eq] at hb54x
              first | exact absurd hb54x hb54 | exact absurd hb54 hb54x | simp_all
          · try simp only [nq1, nq2, nq3, nq4, nq5, nq6, nq7, nq8, nq9, u8_eq] at hb54
            refine rp0 hst6 hfr6 (.cons rfl (ob_eql rfl rfl) <| .cons rfl (ob_assign rfl) <| .nil) ?_
            intro a7 w7 m7 hst7 hle7 hk7
            have hfr7 := hk7.fr (T' := [(3, _), (4, _), (5, _), (54, _)]) (.old rfl rfl <| .old rfl rfl <| .old rfl rfl <| .new rfl <| .nil)
            replace hc4 := hc4.mono hle7
            replace hc5 := hc5.mono hle7
            replace hlj9 := hlj9.trans hle7
            clear hst6 hfr6 hk7
            refine hK29 _ _ ?_; clear hK29
            refine cond_any hfr7 rfl rfl (fun hb54 => ?_) (fun hb54 => ?_)
            · try simp only [nq1, nq2, nq3, nq4, nq5, nq6, nq7, nq8, nq9, u8_eq] at hb54
              refine wp_skip ?_
              repeat (with_reducible first | refine then_exit ?_ | refine block_exit ?_ | refine block_normal ?_)
              exact hj9 (0) _ _ _ ⟨hst7, hlj9, hfr7.sub (.cons rfl <| .cons rfl <| .cons rfl <| .nil), by first | (rw [if_pos (by omega)]; exact hb53) | (rw [if_neg (by omega), if_pos (by omega)]) | (rw [if_neg (by omega), if_neg (by omega)]; exact decide_eq_true hb44)⟩
            · try simp only [nq1, nq2, nq3, nq4, nq5, nq6, nq7, nq8, nq9, u8_eq] at hb54
              refine seq_any fun _ hK32 => ?_
              refine rp0 hst7 hfr7 (.cons rfl (ob_fieldAddrO (off := 2) rfl Tryd.underlying33 rfl rfl Tryd.sizeOf9 rfl) <| .cons rfl (ob_load1 rfl hc4 Tryd.isAgg9 rfl) <| .cons rfl (ob_fieldAddrO (off := 2) rfl Tryd.underlying33 rfl rfl Tryd.sizeOf9 rfl) <| .cons rfl (ob_load1 rfl hc5 Tryd.isAgg9 rfl) <| .cons rfl (ob_sneq rfl rfl) <| .nil) ?_
              intro a8 w8 m8 hst8 hle8 hk8
              have hfr8 := hk8.fr (T' := [(3, _), (4, _), (5, _), (44, _)]) (.old rfl rfl <| .old rfl rfl <| .old rfl rfl <| .new rfl <| .nil)
              replace hlj9 := hlj9.trans hle8
              clear hst7 hfr7 hk8
              refine hK32 _ _ ?_; clear hK32
              refine cond_any hfr8 rfl rfl (fun hb44 => ?_) (fun hb44 => ?_)
              · try simp only [nq1, nq2, nq3, nq4, nq5, nq6, nq7, nq8, nq9, u8_eq] at hb44
                have hres : alikeT a p.left p.right b = false := by rw [alikeT_eq, if_neg (by omega), if_neg (by omega)]; simp [hb44]
                refine seq_any fun _ hK33 => ?_
                refine rp0 hst8 hfr8 (.cons rfl (ob_assign rfl) <| .nil) ?_
                intro a9 w9 m9 hst9 hle9 hk9
                have hfr9 := hk9.fr (T' := [(6, _)]) (.new rfl <| .nil)
                clear hst8 hfr8 hk9
                refine hK33 _ _ ?_; clear hK33
                refine wp_ret ?_
                repeat (with_reducible first | refine then_ret ?_ | refine block_ret ?_)
                exact fn_ret hst9 hfr9 rfl (.tmp rfl <| .nil) (by refine congrArg Value.bool ?_; rw [hres])
              · try simp only [nq1, nq2, nq3, nq4, nq5, nq6, nq7, nq8, nq9, u8_eq] at hb44
                refine wp_skip ?_
                repeat (with_reducible first | refine then_exit ?_ | refine block_exit ?_ | refine block_normal ?_)
                exact hj9 (0) _ _ _ ⟨hst8, hlj9, hfr8.sub (.cons rfl <| .cons rfl <| .cons rfl <| .nil), by first | (rw [if_pos (by omega)]; exact hb53) | (rw [if_neg (by omega), if_pos (by omega)]) | (rw [if_neg (by omega), if_neg (by omega)]; exact decide_eq_true hb44)⟩
theorem alike_c (t : Tm) : alike_G t := Tm.rec_ (p := alike_G) (fun t ihk iha => alike_s ihk iha) t

end Go.Proofs.YteamjgbhcjojaaaDoor
