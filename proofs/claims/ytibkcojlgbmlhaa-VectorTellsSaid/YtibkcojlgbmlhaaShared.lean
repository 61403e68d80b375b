/-
  What the statements on vectors share: the reference's rows of entries, built and same. Conditions: those of each theorem.
-/
import Derived.Test.YtibkcojlgbmlhaaRef
namespace Go.Proofs.Ytibkcojlgbmlhaa
open Go.RowKit
structure RE where
  e : Str
  mrk : Int
  k : Str
def RE.ve (x : RE) : VE := ⟨x.e, x.mrk, S x.k⟩
def IsE (_ : Mem) (vs : List Value) (x : RE) : Prop := vs = [S x.e, .int .i64 x.mrk, S x.k]
abbrev Ents (m : Mem) (o : Option Addr) (n cap : Nat) (l : List RE) : Prop := Sl IsE 3 m o n cap l
theorem Ents.mono {m m' : Mem} {o : Option Addr} {n cap : Nat} {l : List RE} (h : Ents m o n cap l) (hm : MLe m m') : Ents m' o n cap l := Sl.mono h (fun _ _ e => e) hm
theorem Ents.get {m : Mem} {o : Option Addr} {n cap : Nat} {l : List RE} (h : Ents m o n cap l) {k : Nat} (hk : k < n) : ∃ p, ∃ hx : k < l.length, o = some p ∧ CellsAt m (p.add (k * 3)) [S l[k].e, .int .i64 l[k].mrk, S l[k].k] := by
  obtain ⟨p, vs, hx, e, hc, _, rfl⟩ := Sl.get h hk
  exact ⟨p, hx, e, hc⟩
/-- The last place below k where p holds; -1: there is none. -/
def lastIdx {α : Type} (p : α → Bool) (l : List α) : Nat → Int
  | 0 => -1
  | k + 1 => match l[k]? with | some x => bif p x then (k : Int) else lastIdx p l k | none => lastIdx p l k
theorem lastIdx_hit {α : Type} {p : α → Bool} {l : List α} {k : Nat} (hk : k < l.length) (h : p l[k] = true) : lastIdx p l (k + 1) = k := by
  simp [lastIdx, hk, h]
theorem lastIdx_miss {α : Type} {p : α → Bool} {l : List α} {k : Nat} (hk : k < l.length) (h : p l[k] = false) : lastIdx p l (k + 1) = lastIdx p l k := by
  simp [lastIdx, hk, h]
theorem drop_rev {α β : Type} {l : List α} {f : α → β} {k : Nat} (hk : k < l.length) : (l.drop (k + 1)).reverse.map f ++ [f l[k]] = (l.drop k).reverse.map f := by
  rw [List.drop_eq_getElem_cons hk, List.reverse_cons, List.map_append]; rfl
theorem take_rev {α : Type} {l : List α} {k : Nat} (hk : k < l.length) : l[k] :: (l.take k).reverse = (l.take (k + 1)).reverse := by
  rw [List.take_succ_eq_append_getElem hk, List.reverse_append]; rfl
set_option maxHeartbeats 400000 in
theorem refFind_c {w : World} {m : Mem} {o : Option Addr} {n c : Nat} {l : List RE} {e : Str} (hA : Agree w m) (h : Ents m o n c l) :
    FnV Try.prog 18 #[.slice o n c, S e] w m (fun _ _ v => v = .int .i64 (lastIdx (fun x : RE => decide (x.e = e)) l n)) := by
  refine fn_enter (vs := [.slice o n c, S e]) Try.func18 rfl rfl rfl fun a0 hfr0 => ?_
  have hst0 := st_enter hA (loc_nil [] _ w m)
  have hbig := h.big
  refine seq_any fun K1 hK1 => ?_
  refine region_plain (fun h => by cases h) hst0 hfr0 (by kernel_rfl) (by kernel_rfl) (.cons rfl (ob_assign rfl) <|
      .nil) ?_
  intro a1 w1 m1 hst1 hle1 hk1
  have hfr1 := hk1.fr (T' := [(0, _), (1, _), (4, _)]) (.old rfl rfl <| .old rfl rfl <| .new rfl <| .nil)
  replace h := h.mono hle1
  clear hst0 hfr0 hk1
  refine hK1 _ _ ?_; try clear hK1 K1
  refine seq_any fun K2 hK2 => ?_
  refine seq_any fun K3 hK3 => ?_
  refine region_plain (fun h => by cases h) hst1 hfr1 (by kernel_rfl) (by kernel_rfl) (.cons rfl (ob_move rfl) <|
      .cons rfl (ob_len rfl Try.underlying22) <|
      .cons rfl (ob_assign rfl) <|
      .nil) ?_
  intro a2 w2 m2 hst2 hle2 hk2
  have hfr2 := hk2.fr (T' := [(0, _), (1, _), (4, _), (5, _)]) (.old rfl rfl <| .old rfl rfl <| .old rfl rfl <| .new rfl <| .nil)
  replace h := h.mono hle2
  clear hst1 hfr1 hk2
  refine hK3 _ _ ?_; try clear hK3 K3
  refine wp_block ?_
  refine loop_any (T := [(0, _), (1, _), (4, _)]) (fun (y : Nat) => ([(5, .int .i64 (y : Int))] : List (Nat × Value))) (fun _ => []) (fun (y : Nat) _ => y ≤ n ∧ lastIdx (fun x : RE => decide (x.e = e)) l n = lastIdx (fun x : RE => decide (x.e = e)) l y) (fun y => y) (n) ⟨hst2, MLe.refl _, hfr2.sub (.cons rfl <| .cons rfl <| .cons rfl <| .cons rfl <| .nil), ⟨Nat.le_refl _, rfl⟩⟩ fun y a3 w3 m3 hh3 => ?_
  have hst3 := hh3.st; have hle3 := hh3.le; have hfr3 := hh3.fr; have hrel := hh3.rel; clear hh3
  replace h := h.mono hle3
  clear hst2 hfr2
  obtain ⟨hk, hd⟩ := hrel
  have hlh3 := hle3
  refine seq_any fun K5 hK5 => ?_
  refine seq_any fun K6 hK6 => ?_
  refine region_plain (fun h => by cases h) hst3 hfr3 (by kernel_rfl) (by kernel_rfl) (.cons rfl (ob_move rfl) <|
      .cons rfl (ob_gtr rfl rfl) <|
      .nil) ?_
  intro a4 w4 m4 hst4 hle4 hk4
  have hfr4 := hk4.fr (T' := [(5, _), (0, _), (1, _), (4, _), (9, _)]) (.old rfl rfl <| .old rfl rfl <| .old rfl rfl <| .old rfl rfl <| .new rfl <| .nil)
  replace h := h.mono hle4
  have hlh4 := hlh3.trans hle4
  clear hst3 hfr3 hk4
  refine hK6 _ _ ?_; try clear hK6 K6
  refine cond_any hfr4 rfl rfl (fun hb9 => ?_) (fun hb9 => ?_)
  · obtain ⟨j, rfl⟩ : ∃ j, y = j + 1 := ⟨y - 1, by simp at hb9; omega⟩
    have hlt : j < n := by omega
    obtain ⟨p, hx, rfl, hc⟩ := h.get hlt
    refine wp_skip ?_
    refine hK5 _ _ ?_; try clear hK5 K5
    refine seq_any fun K7 hK7 => ?_
    refine wp_block ?_
    refine seq_any fun K8 hK8 => ?_
    refine region_plain (fun h => by cases h) hst4 hfr4 (by kernel_rfl) (by kernel_rfl) (.cons rfl (ob_move rfl) <|
        .cons rfl (ob_move rfl) <|
        .cons rfl (ob_sub rfl rfl ⟨by omega, by omega⟩) <|
        .cons rfl (ob_indexAddr (k := j) rfl rfl Try.underlying22 Try.sizeOf31 (by omega) hlt) <|
        .cons rfl (ob_fieldAddr rfl Try.underlying31 rfl Try.sizeOf9 rfl) <|
        .cons rfl (ob_load1 rfl hc Try.isAgg9 rfl) <|
        .cons rfl (ob_move rfl) <|
        .cons rfl (ob_seql rfl rfl) <|
        .nil) ?_
    intro a5 w5 m5 hst5 hle5 hk5
    have hfr5 := hk5.fr (T' := [(5, _), (0, _), (1, _), (4, _), (19, _)]) (.old rfl rfl <| .old rfl rfl <| .old rfl rfl <| .old rfl rfl <| .new rfl <| .nil)
    replace h := h.mono hle5
    replace hc := hc.mono hle5
    have hlh5 := hlh4.trans hle5
    clear hst4 hfr4 hk5
    refine hK8 _ _ ?_; try clear hK8 K8
    refine cond_any hfr5 rfl rfl (fun hb19 => ?_) (fun hb19 => ?_)
    · have hres : lastIdx (fun x : RE => decide (x.e = e)) l n = ((j + 1 : Nat) : Int) - 1 := by rw [hd, lastIdx_hit hx (by simpa using hb19)]; omega
      refine seq_any fun K9 hK9 => ?_
      refine region_plain (fun h => by cases h) hst5 hfr5 (by kernel_rfl) (by kernel_rfl) (.cons rfl (ob_move rfl) <|
          .cons rfl (ob_sub rfl rfl ⟨by omega, by omega⟩) <|
          .cons rfl (ob_assign rfl) <|
          .nil) ?_
      intro a6 w6 m6 hst6 hle6 hk6
      have hfr6 := hk6.fr (T' := [(5, _), (0, _), (1, _), (4, _)]) (.old rfl rfl <| .old rfl rfl <| .old rfl rfl <| .new rfl <| .nil)
      replace h := h.mono hle6
      replace hc := hc.mono hle6
      have hlh6 := hlh5.trans hle6
      clear hst5 hfr5 hk6
      refine hK9 _ _ ?_; try clear hK9 K9
      refine wp_ret ?_
      repeat (with_reducible first | refine then_ret ?_ | refine block_ret ?_)
      exact fn_ret hst6 hfr6 rfl (.tmp rfl <| .nil) (by rw [hres]; rfl)
    · refine wp_skip ?_
      refine hK7 _ _ ?_; try clear hK7 K7
      refine region_plain (fun h => by cases h) hst5 hfr5 (by kernel_rfl) (by kernel_rfl) (.cons rfl (ob_move rfl) <|
          .cons rfl (ob_sub rfl rfl ⟨by omega, by omega⟩) <|
          .cons rfl (ob_assign rfl) <|
          .nil) ?_
      intro a6 w6 m6 hst6 hle6 hk6
      have hfr6 := hk6.fr (T' := [(0, _), (1, _), (4, _), (5, _)]) (.old rfl rfl <| .old rfl rfl <| .old rfl rfl <| .new rfl <| .nil)
      replace h := h.mono hle6
      replace hc := hc.mono hle6
      have hlh6 := hlh5.trans hle6
      clear hst5 hfr5 hk6
      rw [show (((j + 1 : Nat) : Int) - 1) = (j : Int) by omega] at hfr6
      have hfr6 := hfr6
      exact ⟨j, m6, Nat.lt_succ_self _, ⟨hst6, hlh6, hfr6.sub (.cons rfl <| .cons rfl <| .cons rfl <| .cons rfl <| .nil), ⟨by omega, by rw [hd]; exact lastIdx_miss hx (by simpa using hb19)⟩⟩⟩
  · have hz : y = 0 := by simp at hb9; omega
    subst hz
    have hres : lastIdx (fun x : RE => decide (x.e = e)) l n = -1 := by rw [hd]; rfl
    refine wp_exit ?_
    refine hK2 _ _ ?_; try clear hK2 K2
    refine seq_any fun K11 hK11 => ?_
    refine region_plain (fun h => by cases h) hst4 hfr4 (by kernel_rfl) (by kernel_rfl) (.cons rfl (ob_assign rfl) <|
        .nil) ?_
    intro a5 w5 m5 hst5 hle5 hk5
    have hfr5 := hk5.fr (T' := [(5, _), (0, _), (1, _), (4, _)]) (.old rfl rfl <| .old rfl rfl <| .old rfl rfl <| .new rfl <| .nil)
    replace h := h.mono hle5
    have hlh5 := hlh4.trans hle5
    clear hst4 hfr4 hk5
    refine hK11 _ _ ?_; try clear hK11 K11
    refine wp_ret ?_
    repeat (with_reducible first | refine then_ret ?_ | refine block_ret ?_)
    exact fn_ret hst5 hfr5 rfl (.tmp rfl <| .nil) (by rw [hres]; rfl)

set_option maxHeartbeats 400000 in
theorem refAt_c {w : World} {m : Mem} {o : Option Addr} {n c : Nat} {l : List RE} {k : Int} (hA : Agree w m) (h : Ents m o n c l) :
    FnV Try.prog 20 #[.slice o n c, .int .i64 k] w m (fun _ _ v => v = .int .i64 (lastIdx (fun x : RE => decide (x.mrk = k)) l n)) := by
  refine fn_enter (vs := [.slice o n c, .int .i64 k]) Try.func20 rfl rfl rfl fun a0 hfr0 => ?_
  have hst0 := st_enter hA (loc_nil [] _ w m)
  have hbig := h.big
  refine seq_any fun K1 hK1 => ?_
  refine region_plain (fun h => by cases h) hst0 hfr0 (by kernel_rfl) (by kernel_rfl) (.cons rfl (ob_assign rfl) <|
      .nil) ?_
  intro a1 w1 m1 hst1 hle1 hk1
  have hfr1 := hk1.fr (T' := [(0, _), (1, _), (4, _)]) (.old rfl rfl <| .old rfl rfl <| .new rfl <| .nil)
  replace h := h.mono hle1
  clear hst0 hfr0 hk1
  refine hK1 _ _ ?_; try clear hK1 K1
  refine seq_any fun K2 hK2 => ?_
  refine seq_any fun K3 hK3 => ?_
  refine region_plain (fun h => by cases h) hst1 hfr1 (by kernel_rfl) (by kernel_rfl) (.cons rfl (ob_move rfl) <|
      .cons rfl (ob_len rfl Try.underlying22) <|
      .cons rfl (ob_assign rfl) <|
      .nil) ?_
  intro a2 w2 m2 hst2 hle2 hk2
  have hfr2 := hk2.fr (T' := [(0, _), (1, _), (4, _), (5, _)]) (.old rfl rfl <| .old rfl rfl <| .old rfl rfl <| .new rfl <| .nil)
  replace h := h.mono hle2
  clear hst1 hfr1 hk2
  refine hK3 _ _ ?_; try clear hK3 K3
  refine wp_block ?_
  refine loop_any (T := [(0, _), (1, _), (4, _)]) (fun (y : Nat) => ([(5, .int .i64 (y : Int))] : List (Nat × Value))) (fun _ => []) (fun (y : Nat) _ => y ≤ n ∧ lastIdx (fun x : RE => decide (x.mrk = k)) l n = lastIdx (fun x : RE => decide (x.mrk = k)) l y) (fun y => y) (n) ⟨hst2, MLe.refl _, hfr2.sub (.cons rfl <| .cons rfl <| .cons rfl <| .cons rfl <| .nil), ⟨Nat.le_refl _, rfl⟩⟩ fun y a3 w3 m3 hh3 => ?_
  have hst3 := hh3.st; have hle3 := hh3.le; have hfr3 := hh3.fr; have hrel := hh3.rel; clear hh3
  replace h := h.mono hle3
  clear hst2 hfr2
  obtain ⟨hk, hd⟩ := hrel
  have hlh3 := hle3
  refine seq_any fun K5 hK5 => ?_
  refine seq_any fun K6 hK6 => ?_
  refine region_plain (fun h => by cases h) hst3 hfr3 (by kernel_rfl) (by kernel_rfl) (.cons rfl (ob_move rfl) <|
      .cons rfl (ob_gtr rfl rfl) <|
      .nil) ?_
  intro a4 w4 m4 hst4 hle4 hk4
  have hfr4 := hk4.fr (T' := [(5, _), (0, _), (1, _), (4, _), (9, _)]) (.old rfl rfl <| .old rfl rfl <| .old rfl rfl <| .old rfl rfl <| .new rfl <| .nil)
  replace h := h.mono hle4
  have hlh4 := hlh3.trans hle4
  clear hst3 hfr3 hk4
  refine hK6 _ _ ?_; try clear hK6 K6
  refine cond_any hfr4 rfl rfl (fun hb9 => ?_) (fun hb9 => ?_)
  · obtain ⟨j, rfl⟩ : ∃ j, y = j + 1 := ⟨y - 1, by simp at hb9; omega⟩
    have hlt : j < n := by omega
    obtain ⟨p, hx, rfl, hc⟩ := h.get hlt
    refine wp_skip ?_
    refine hK5 _ _ ?_; try clear hK5 K5
    refine seq_any fun K7 hK7 => ?_
    refine wp_block ?_
    refine seq_any fun K8 hK8 => ?_
    refine region_plain (fun h => by cases h) hst4 hfr4 (by kernel_rfl) (by kernel_rfl) (.cons rfl (ob_move rfl) <|
        .cons rfl (ob_move rfl) <|
        .cons rfl (ob_sub rfl rfl ⟨by omega, by omega⟩) <|
        .cons rfl (ob_indexAddr (k := j) rfl rfl Try.underlying22 Try.sizeOf31 (by omega) hlt) <|
        .cons rfl (ob_fieldAddr rfl Try.underlying31 rfl Try.sizeOf3 rfl) <|
        .cons rfl (ob_load1 rfl hc Try.isAgg3 rfl) <|
        .cons rfl (ob_move rfl) <|
        .cons rfl (ob_eql rfl rfl) <|
        .nil) ?_
    intro a5 w5 m5 hst5 hle5 hk5
    have hfr5 := hk5.fr (T' := [(5, _), (0, _), (1, _), (4, _), (19, _)]) (.old rfl rfl <| .old rfl rfl <| .old rfl rfl <| .old rfl rfl <| .new rfl <| .nil)
    replace h := h.mono hle5
    replace hc := hc.mono hle5
    have hlh5 := hlh4.trans hle5
    clear hst4 hfr4 hk5
    refine hK8 _ _ ?_; try clear hK8 K8
    refine cond_any hfr5 rfl rfl (fun hb19 => ?_) (fun hb19 => ?_)
    · have hres : lastIdx (fun x : RE => decide (x.mrk = k)) l n = ((j + 1 : Nat) : Int) - 1 := by rw [hd, lastIdx_hit hx (by simpa using hb19)]; omega
      refine seq_any fun K9 hK9 => ?_
      refine region_plain (fun h => by cases h) hst5 hfr5 (by kernel_rfl) (by kernel_rfl) (.cons rfl (ob_move rfl) <|
          .cons rfl (ob_sub rfl rfl ⟨by omega, by omega⟩) <|
          .cons rfl (ob_assign rfl) <|
          .nil) ?_
      intro a6 w6 m6 hst6 hle6 hk6
      have hfr6 := hk6.fr (T' := [(5, _), (0, _), (1, _), (4, _)]) (.old rfl rfl <| .old rfl rfl <| .old rfl rfl <| .new rfl <| .nil)
      replace h := h.mono hle6
      replace hc := hc.mono hle6
      have hlh6 := hlh5.trans hle6
      clear hst5 hfr5 hk6
      refine hK9 _ _ ?_; try clear hK9 K9
      refine wp_ret ?_
      repeat (with_reducible first | refine then_ret ?_ | refine block_ret ?_)
      exact fn_ret hst6 hfr6 rfl (.tmp rfl <| .nil) (by rw [hres]; rfl)
    · refine wp_skip ?_
      refine hK7 _ _ ?_; try clear hK7 K7
      refine region_plain (fun h => by cases h) hst5 hfr5 (by kernel_rfl) (by kernel_rfl) (.cons rfl (ob_move rfl) <|
          .cons rfl (ob_sub rfl rfl ⟨by omega, by omega⟩) <|
          .cons rfl (ob_assign rfl) <|
          .nil) ?_
      intro a6 w6 m6 hst6 hle6 hk6
      have hfr6 := hk6.fr (T' := [(0, _), (1, _), (4, _), (5, _)]) (.old rfl rfl <| .old rfl rfl <| .old rfl rfl <| .new rfl <| .nil)
      replace h := h.mono hle6
      replace hc := hc.mono hle6
      have hlh6 := hlh5.trans hle6
      clear hst5 hfr5 hk6
      rw [show (((j + 1 : Nat) : Int) - 1) = (j : Int) by omega] at hfr6
      have hfr6 := hfr6
      exact ⟨j, m6, Nat.lt_succ_self _, ⟨hst6, hlh6, hfr6.sub (.cons rfl <| .cons rfl <| .cons rfl <| .cons rfl <| .nil), ⟨by omega, by rw [hd]; exact lastIdx_miss hx (by simpa using hb19)⟩⟩⟩
  · have hz : y = 0 := by simp at hb9; omega
    subst hz
    have hres : lastIdx (fun x : RE => decide (x.mrk = k)) l n = -1 := by rw [hd]; rfl
    refine wp_exit ?_
    refine hK2 _ _ ?_; try clear hK2 K2
    refine seq_any fun K11 hK11 => ?_
    refine region_plain (fun h => by cases h) hst4 hfr4 (by kernel_rfl) (by kernel_rfl) (.cons rfl (ob_assign rfl) <|
        .nil) ?_
    intro a5 w5 m5 hst5 hle5 hk5
    have hfr5 := hk5.fr (T' := [(5, _), (0, _), (1, _), (4, _)]) (.old rfl rfl <| .old rfl rfl <| .old rfl rfl <| .new rfl <| .nil)
    replace h := h.mono hle5
    have hlh5 := hlh4.trans hle5
    clear hst4 hfr4 hk5
    refine hK11 _ _ ?_; try clear hK11 K11
    refine wp_ret ?_
    repeat (with_reducible first | refine then_ret ?_ | refine block_ret ?_)
    exact fn_ret hst5 hfr5 rfl (.tmp rfl <| .nil) (by rw [hres]; rfl)

set_option maxHeartbeats 400000 in
theorem refMarkers_c {w : World} {m : Mem} {o : Option Addr} {n c : Nat} {l : List RE} (hA : Agree w m) (h : Ents m o n c l) (hl : n < 1000000000) :
    FnV Try.prog 31 #[.slice o n c] w m (fun _ m v => ∃ y : Option Addr × Nat, v = .slice y.1 n y.2 ∧ RowAt m y.1 (l.reverse.map fun x => .int .i64 x.mrk) ∧ n ≤ y.2) := by
  refine fn_enter (vs := [.slice o n c]) Try.func31 rfl rfl rfl fun a0 hfr0 => ?_
  have hst0 := st_enter hA (loc_nil [] _ w m)
  have hbig := h.big
  have hlen := h.len
  refine seq_any fun K1 hK1 => ?_
  refine region_plain (fun h => by cases h) hst0 hfr0 (by kernel_rfl) (by kernel_rfl) (.cons rfl (ob_assign rfl) <|
      .nil) ?_
  intro a1 w1 m1 hst1 hle1 hk1
  have hfr1 := hk1.fr (T' := [(0, _), (2, _)]) (.old rfl rfl <| .new rfl <| .nil)
  replace h := h.mono hle1
  clear hst0 hfr0 hk1
  refine hK1 _ _ ?_; try clear hK1 K1
  refine seq_any fun K2 hK2 => ?_
  refine region_plain (fun h => by cases h) hst1 hfr1 (by kernel_rfl) (by kernel_rfl) (.cons rfl (ob_assign rfl) <|
      .nil) ?_
  intro a2 w2 m2 hst2 hle2 hk2
  have hfr2 := hk2.fr (T' := [(0, _), (2, _), (3, _)]) (.old rfl rfl <| .old rfl rfl <| .new rfl <| .nil)
  replace h := h.mono hle2
  clear hst1 hfr1 hk2
  refine hK2 _ _ ?_; try clear hK2 K2
  refine seq_any fun K3 hK3 => ?_
  refine seq_any fun K4 hK4 => ?_
  refine region_plain (fun h => by cases h) hst2 hfr2 (by kernel_rfl) (by kernel_rfl) (.cons rfl (ob_move rfl) <|
      .cons rfl (ob_len rfl Try.underlying22) <|
      .cons rfl (ob_assign rfl) <|
      .nil) ?_
  intro a3 w3 m3 hst3 hle3 hk3
  have hfr3 := hk3.fr (T' := [(0, _), (2, _), (3, _), (4, _)]) (.old rfl rfl <| .old rfl rfl <| .old rfl rfl <| .new rfl <| .nil)
  replace h := h.mono hle3
  clear hst2 hfr2 hk3
  refine hK4 _ _ ?_; try clear hK4 K4
  refine wp_block ?_
  have hst3 := hst3.more (r := .row (.slice none 0 0) 0 1 3 []) ⟨rfl, .inl ⟨rfl, rfl⟩⟩ List.nodup_nil (by simp [Res.blocks, rowBlock])
  refine loop_any (T := [(0, _), (2, _)]) (fun (y : Nat × Nat × List Value × Option Addr × Nat) => ([(3, .slice y.2.2.2.1 y.2.1 y.2.2.2.2), (4, .int .i64 (y.1 : Int))] : List (Nat × Value))) (fun y => [.row (.slice y.2.2.2.1 y.2.1 y.2.2.2.2) y.2.1 1 3 y.2.2.1]) (fun (y : Nat × Nat × List Value × Option Addr × Nat) m => y.1 + y.2.1 = n ∧ y.2.2.1 = ((l.drop y.1).reverse.map fun x => Value.int .i64 x.mrk) ∧ RowAt m y.2.2.2.1 y.2.2.1 ∧ y.2.1 ≤ y.2.2.2.2) (fun y => y.1) ((n, 0, [], none, 0)) ⟨hst3, MLe.refl _, hfr3.sub (.cons rfl <| .cons rfl <| .cons rfl <| .cons rfl <| .nil), ⟨rfl, by rw [← hlen]; simp, .inl rfl, Nat.le_refl _⟩⟩ fun y a4 w4 m4 hh4 => ?_
  have hst4 := hh4.st; have hle4 := hh4.le; have hfr4 := hh4.fr; have hrel := hh4.rel; clear hh4
  replace h := h.mono hle4
  clear hst3 hfr3
  obtain ⟨k, d, cs, so, cap⟩ := y
  obtain ⟨hkd, hcs, hrow, hcap⟩ := hrel
  dsimp only at hkd hcs hrow hcap hfr4 hst4
  have hlh4 := hle4
  refine seq_any fun K6 hK6 => ?_
  refine seq_any fun K7 hK7 => ?_
  refine region_plain (fun h => by cases h) hst4 hfr4 (by kernel_rfl) (by kernel_rfl) (.cons rfl (ob_move rfl) <|
      .cons rfl (ob_gtr rfl rfl) <|
      .nil) ?_
  intro a5 w5 m5 hst5 hle5 hk5
  have hfr5 := hk5.fr (T' := [(3, _), (4, _), (0, _), (2, _), (8, _)]) (.old rfl rfl <| .old rfl rfl <| .old rfl rfl <| .old rfl rfl <| .new rfl <| .nil)
  replace h := h.mono hle5
  replace hrow := hrow.mono hle5
  have hlh5 := hlh4.trans hle5
  clear hst4 hfr4 hk5
  refine hK7 _ _ ?_; try clear hK7 K7
  refine cond_any hfr5 rfl rfl (fun hb8 => ?_) (fun hb8 => ?_)
  · obtain ⟨j, rfl⟩ : ∃ j, k = j + 1 := ⟨k - 1, by simp at hb8; omega⟩
    have hlt : j < n := by omega
    obtain ⟨p, hx, rfl, hc⟩ := h.get hlt
    refine wp_skip ?_
    refine hK6 _ _ ?_; try clear hK6 K6
    refine seq_any fun K8 hK8 => ?_
    refine wp_block ?_
    refine region_any (tch := [(8, 0, (fun v => .row v _ _ _ _))]) (fun h => by cases h) hst5 hfr5 (by kernel_rfl) (by kernel_rfl) (by kernel_rfl) (.cons rfl (ob_move rfl) <|
        .cons rfl (ob_move rfl) <|
        .cons rfl (ob_move rfl) <|
        .cons rfl (ob_sub rfl rfl ⟨by omega, by omega⟩) <|
        .cons rfl (ob_indexAddr (k := j) rfl rfl Try.underlying22 Try.sizeOf31 (by omega) hlt) <|
        .cons rfl (ob_fieldAddr rfl Try.underlying31 rfl Try.sizeOf3 rfl) <|
        .cons rfl (ob_load1 rfl hc Try.isAgg3 rfl) <|
        .cons rfl (ob_buildSlice (.cons rfl <| .nil) Try.underlying41 Try.sizeOf3 Try.zeroValue3 rfl rfl rfl rfl) <|
        .consT rfl rfl (fun _ => rfl) rfl (ob_imgT 18 rfl rfl rfl fun y18 => ob_append (size := 1) (bytes := 8) rfl rfl Try.underlying41 Try.type3 rfl rfl rfl rfl (fun w m hK => .inr ⟨_, rfl, hK.2⟩) rfl (by decide) rfl (by simp only [maxLen]; omega) (by omega)) <|
        .consA 19 rfl rfl <|
        .nil) ?_
    intro a6 w6 m6 hst6 hle6 hk6
    have hfr6 := hk6.fr (T' := [(4, _), (0, _), (2, _)]) (.old rfl rfl <| .old rfl rfl <| .old rfl rfl <| .nil)
    obtain ⟨⟨so2, cap2⟩, e9, hrw, hcp2⟩ := hk6.ex 19 rfl
    replace hfr6 := hfr6.cons e9
    replace hfr6 := hfr6.cons (hk6.same 3 rfl e9)
    replace hst6 := hst6.fin (L' := [_]) (.cons e9 <| .nil)
    replace h := h.mono hle6
    replace hrow := hrow.mono hle6
    replace hc := hc.mono hle6
    have hlh6 := hlh5.trans hle6
    clear hst5 hfr5 hk6
    refine hK8 _ _ ?_; try clear hK8 K8
    refine region_plain (fun h => by cases h) hst6 hfr6 (by kernel_rfl) (by kernel_rfl) (.cons rfl (ob_move rfl) <|
        .cons rfl (ob_sub rfl rfl ⟨by omega, by omega⟩) <|
        .cons rfl (ob_assign rfl) <|
        .nil) ?_
    intro a7 w7 m7 hst7 hle7 hk7
    have hfr7 := hk7.fr (T' := [(0, _), (2, _), (3, _), (4, _)]) (.old rfl rfl <| .old rfl rfl <| .old rfl rfl <| .new rfl <| .nil)
    replace h := h.mono hle7
    replace hrow := hrow.mono hle7
    replace hc := hc.mono hle7
    replace hrw := hrw.mono hle7
    have hlh7 := hlh6.trans hle7
    clear hst6 hfr6 hk7
    rw [show (((j + 1 : Nat) : Int) - 1) = (j : Int) by omega] at hfr7
    exact ⟨(j, d + 1, cs ++ [Value.int .i64 l[j].mrk], so2, cap2), m7, Nat.lt_succ_self _, ⟨hst7, hlh7, hfr7.sub (.cons rfl <| .cons rfl <| .cons rfl <| .cons rfl <| .nil), ⟨by show j + (d + 1) = n; omega, by show cs ++ _ = _; rw [hcs]; exact drop_rev hx, hrw, hcp2⟩⟩⟩
  · have hz : k = 0 := by simp at hb8; omega
    subst hz
    refine wp_exit ?_
    refine hK3 _ _ ?_; try clear hK3 K3
    refine seq_any fun K10 hK10 => ?_
    refine region_plain (fun h => by cases h) hst5 hfr5 (by kernel_rfl) (by kernel_rfl) (.cons rfl (ob_move rfl) <|
        .cons rfl (ob_assign rfl) <|
        .nil) ?_
    intro a6 w6 m6 hst6 hle6 hk6
    have hfr6 := hk6.fr (T' := [(3, _), (4, _), (0, _), (2, _)]) (.old rfl rfl <| .old rfl rfl <| .old rfl rfl <| .new rfl <| .nil)
    replace h := h.mono hle6
    replace hrow := hrow.mono hle6
    have hlh6 := hlh5.trans hle6
    clear hst5 hfr5 hk6
    refine hK10 _ _ ?_; try clear hK10 K10
    refine wp_ret ?_
    repeat (with_reducible first | refine then_ret ?_ | refine block_ret ?_)
    simp only [Nat.zero_add] at hkd
    subst hkd
    subst hcs
    exact fn_ret hst6 hfr6 rfl (.tmp rfl <| .nil) (⟨(so, cap), rfl, hrow, hcap⟩)

set_option maxHeartbeats 400000 in
theorem same_c {w : World} {m : Mem} {o : Option Addr} {n c : Nat} {l : List RE} {a : Option Addr} {v : List VE} (hA : Agree w m) (h : Ents m o n c l) (hv : Chain m v a) (hl : n < 1000000000) (hvl : v.length < 1000000000) :
    FnV Try.prog 13 #[.agg #[.pointer a], .slice o n c] w m (fun _ _ r => r = .bool (decide ((v.length : Int) = (n : Int)) && decide (v.map VE.mrk = l.reverse.map RE.mrk))) := by
  refine fn_enter (vs := [.agg #[.pointer a], .slice o n c]) Try.func13 rfl rfl rfl fun a0 hfr0 => ?_
  have hst0 := st_enter hA (loc_nil [] _ w m)
  have hlen := h.len
  refine seq_any fun K1 hK1 => ?_
  refine region_plain (fun h => by cases h) hst0 hfr0 (by kernel_rfl) (by kernel_rfl) (.cons rfl (ob_box rfl rfl) <|
      .cons rfl (ob_assign rfl) <|
      .nil) ?_
  intro a1 w1 m1 hst1 hle1 hk1
  have hfr1 := hk1.fr (T' := [(0, _), (1, _), (4, _)]) (.old rfl rfl <| .old rfl rfl <| .new rfl <| .nil)
  obtain ⟨g2, e2, hc2⟩ := hk1.ex 2 rfl
  replace hfr1 := hfr1.cons e2
  replace h := h.mono hle1
  replace hv := hv.mono hle1
  clear hst0 hfr0 hk1
  refine hK1 _ _ ?_; try clear hK1 K1
  refine seq_any fun K3 hK3 => ?_
  refine region_plain (fun h => by cases h) hst1 hfr1 (by kernel_rfl) (by kernel_rfl) (.cons rfl (ob_loadS' rfl hc2 Try.isAgg26 Try.sizeOf26 rfl rfl) <|
      .cons rfl (ob_callE rfl (.cons rfl <| .nil) Try.call15 (fun w m hK => by exact len_c (KC.agree hK) (hv.mono (KC.le hK)))) <|
      .cons rfl (ob_move rfl) <|
      .cons rfl (ob_len rfl Try.underlying22) <|
      .cons rfl (ob_eql rfl rfl) <|
      .cons rfl (ob_move rfl) <|
      .cons rfl (ob_loadS' rfl hc2 Try.isAgg26 Try.sizeOf26 rfl rfl) <|
      .cons rfl (ob_call (φ := MP.mem (fun y : Option Addr × Nat => .slice y.1 v.length y.2) (fun y m => Ints m y.1 v.length y.2 (v.map VE.mrk)) (fun hm h => h.mono hm)) rfl (.cons rfl <| .nil) Try.call17 (fun w m hK => by exact FnG.mono ((markers_c (KC.agree hK) (hv.mono (KC.le hK)) hvl).mono fun _ _ _ _ ⟨y, e, hr, hc⟩ => ⟨y, e, Ints.of_row (by simpa [Function.comp_def] using hr) (by simp) hc (by omega)⟩) fun _ _ _ _ h => h)) <|
      .cons rfl (ob_move rfl) <|
      .cons rfl (ob_call (φ := MP.mem (fun y : Option Addr × Nat => .slice y.1 n y.2) (fun y m => Ints m y.1 n y.2 (l.reverse.map RE.mrk)) (fun hm h => h.mono hm)) rfl (.cons rfl <| .nil) Try.call31 (fun w m hK => by exact FnG.mono ((refMarkers_c (KC.agree hK) (h.mono (KC.le hK)) hl).mono fun _ _ _ _ ⟨y, e, hr, hc⟩ => ⟨y, e, Ints.of_row (by simpa [Function.comp_def] using hr) (by simp [hlen]) hc (by omega)⟩) fun _ _ _ _ h => h)) <|
      .cons rfl (ob_imgE 12 rfl rfl rfl fun y12 => ob_imgE 14 rfl rfl rfl fun y14 => ob_callE rfl (.cons rfl <| .cons rfl <| .nil) Try.call16 (fun w m hK => by exact sameInts_c (KC.agree hK) hK.1.2 hK.2)) <|
      .cons rfl (ob_and rfl rfl rfl) <|
      .cons rfl (ob_assign rfl) <|
      .nil) ?_
  intro a2 w2 m2 hst2 hle2 hk2
  have hfr2 := hk2.fr (T' := [(0, _), (1, _), (2, _), (4, _)]) (.old rfl rfl <| .old rfl rfl <| .old rfl rfl <| .new rfl <| .nil)
  replace h := h.mono hle2
  replace hv := hv.mono hle2
  replace hc2 := hc2.mono hle2
  clear hst1 hfr1 hk2
  refine hK3 _ _ ?_; try clear hK3 K3
  refine wp_ret ?_
  repeat (with_reducible first | refine then_ret ?_ | refine block_ret ?_)
  exact fn_ret hst2 hfr2 rfl (.tmp rfl <| .nil) (rfl)

set_option maxHeartbeats 400000 in
theorem built_c {w : World} {m : Mem} {o : Option Addr} {n c : Nat} {l : List RE} (hA : Agree w m) (h : Ents m o n c l) :
    FnV Try.prog 9 #[.slice o n c] w m (fun _ m r => ∃ y : Option Addr × Option Addr × Nat, r = .tuple #[.agg #[.pointer y.1], .slice y.2.1 (min n 60) y.2.2] ∧ Chain m ((l.take 60).reverse.map RE.ve) y.1 ∧ Ents m y.2.1 (min n 60) y.2.2 (l.take 60)) := by
  refine fn_enter (vs := [.slice o n c]) Try.func9 rfl rfl rfl fun a0 hfr0 => ?_
  have hst0 := st_enter hA (loc_nil [] _ w m)
  have hbig := h.big
  have hcap := h.cap
  have hlen := h.len
  refine seq_any fun K1 hK1 => ?_
  replace hst0 := hst0.more (r := .free) trivial List.nodup_nil (by simp [Res.blocks])
  refine region_any (tch := [(0, 0, (fun v => .blk v _))]) (fun h => by cases h) hst0 hfr0 (by kernel_rfl) (by kernel_rfl) (by kernel_rfl) (.consT rfl rfl (fun _ => rfl) rfl (ob_allocL Try.zeroValue26 rfl) <|
      .cons rfl (ob_assign rfl) <|
      .nil) ?_
  intro a1 w1 m1 hst1 hle1 hk1
  have hfr1 := hk1.fr (T' := [(0, _), (3, _)]) (.old rfl rfl <| .new rfl <| .nil)
  obtain ⟨gr, e2, _⟩ := hk1.ex 2 rfl
  replace hfr1 := hfr1.cons e2
  replace hst1 := hst1.fin (L' := [_]) (.cons e2 <| .nil)
  replace h := h.mono hle1
  clear hst0 hfr0 hk1
  refine hK1 _ _ ?_; try clear hK1 K1
  refine seq_any fun K3 hK3 => ?_
  replace hst1 := hst1.more (r := .free) trivial List.nodup_nil (by simp [Res.blocks])
  refine region_any (tch := [(0, 1, (fun v => .blk v _))]) (fun h => by cases h) hst1 hfr1 (by kernel_rfl) (by kernel_rfl) (by kernel_rfl) (.consT rfl rfl (fun _ => rfl) rfl (ob_allocL Try.zeroValue26 rfl) <|
      .nil) ?_
  intro a2 w2 m2 hst2 hle2 hk2
  have hfr2 := hk2.fr (T' := [(0, _), (3, _), (2, _)]) (.old rfl rfl <| .old rfl rfl <| .old rfl rfl <| .nil)
  obtain ⟨gv, e4, _⟩ := hk2.ex 4 rfl
  replace hfr2 := hfr2.cons e4
  replace hst2 := hst2.fin (L' := [_, _]) (.cons e4 <| .nil)
  replace h := h.mono hle2
  clear hst1 hfr1 hk2
  refine hK3 _ _ ?_; try clear hK3 K3
  refine seq_any fun K5 hK5 => ?_
  refine region_plain (fun h => by cases h) hst2 hfr2 (by kernel_rfl) (by kernel_rfl) (.cons rfl (ob_move rfl) <|
      .cons rfl (ob_move rfl) <|
      .cons rfl (ob_len rfl Try.underlying22) <|
      .cons rfl (ob_min2 rfl rfl) <|
      .cons rfl (ob_slice rfl .none (.some (k := min n 60) rfl (by split <;> omega)) Try.underlying22 Try.sizeOf31 (by omega) (by omega)) <|
      .cons rfl (ob_assign rfl) <|
      .nil) ?_
  intro a3 w3 m3 hst3 hle3 hk3
  have hfr3 := hk3.fr (T' := [(3, _), (2, _), (4, _), (0, _)]) (.old rfl rfl <| .old rfl rfl <| .old rfl rfl <| .new rfl <| .nil)
  replace h := h.mono hle3
  clear hst2 hfr2 hk3
  have h2 : Ents m3 (if c = 0 then o else o.map (·.add (0 * 3))) (min n 60 - 0) (c - 0) (l.take 60) := by
    have := h.cut (l := 0) (k := min n 60) (by omega) (by omega)
    rw [List.drop_zero] at this
    have e : l.take (min n 60) = l.take 60 := by rw [← hlen, Nat.min_comm, ← List.take_take]; simp
    rwa [e] at this
  generalize (if c = 0 then o else o.map (·.add (0 * 3))) = o2 at hfr3 h2
  generalize c - 0 = c2 at hfr3 h2
  obtain ⟨n2, hn2⟩ : ∃ n2, n2 = min n 60 - 0 := ⟨_, rfl⟩
  rw [← hn2] at hfr3 h2
  have hn3 : n2 = min n 60 := hn2
  clear hn2
  have hn60 : n2 ≤ 60 := by omega
  have hle2 := h2.len
  obtain ⟨l6, hl6⟩ : ∃ l6, l6 = l.take 60 := ⟨_, rfl⟩
  rw [← hl6] at h2 hle2
  clear h
  refine hK5 _ _ ?_; try clear hK5 K5
  refine seq_any fun K6 hK6 => ?_
  refine seq_any fun K7 hK7 => ?_
  refine region_plain (fun h => by cases h) hst3 hfr3 (by kernel_rfl) (by kernel_rfl) (.cons rfl (ob_assign rfl) <|
      .nil) ?_
  intro a4 w4 m4 hst4 hle4 hk4
  have hfr4 := hk4.fr (T' := [(3, _), (2, _), (4, _), (0, _), (5, _)]) (.old rfl rfl <| .old rfl rfl <| .old rfl rfl <| .old rfl rfl <| .new rfl <| .nil)
  replace h2 := h2.mono hle4
  clear hst3 hfr3 hk4
  refine hK7 _ _ ?_; try clear hK7 K7
  refine wp_block ?_
  refine loop_any (T := [(3, _), (2, _), (4, _), (0, _)]) (fun (y : Nat × Option Addr) => ([(5, .int .i64 (y.1 : Int))] : List (Nat × Value))) (fun y => [.blk (.pointer (some ⟨gr, 0, none⟩)) (.cells #[.pointer none] 26), .blk (.pointer (some ⟨gv, 0, none⟩)) (.cells #[.pointer y.2] 26)]) (fun (y : Nat × Option Addr) m => y.1 ≤ n2 ∧ Chain m ((l6.take y.1).reverse.map RE.ve) y.2) (fun y => n2 - y.1) ((0, none)) ⟨hst4, MLe.refl _, hfr4.sub (.cons rfl <| .cons rfl <| .cons rfl <| .cons rfl <| .cons rfl <| .nil), ⟨Nat.zero_le _, rfl⟩⟩ fun y a5 w5 m5 hh5 => ?_
  have hst5 := hh5.st; have hle5 := hh5.le; have hfr5 := hh5.fr; have hrel := hh5.rel; clear hh5
  replace h2 := h2.mono hle5
  clear hst4 hfr4
  obtain ⟨k, a⟩ := y
  obtain ⟨hk, hch⟩ := hrel
  dsimp only at hk hch hfr5 hst5
  have hlh5 := hle5
  refine seq_any fun K9 hK9 => ?_
  refine seq_any fun K10 hK10 => ?_
  refine region_plain (fun h => by cases h) hst5 hfr5 (by kernel_rfl) (by kernel_rfl) (.cons rfl (ob_move rfl) <|
      .cons rfl (ob_move rfl) <|
      .cons rfl (ob_len rfl Try.underlying22) <|
      .cons rfl (ob_lss rfl rfl) <|
      .nil) ?_
  intro a6 w6 m6 hst6 hle6 hk6
  have hfr6 := hk6.fr (T' := [(5, _), (3, _), (2, _), (4, _), (0, _), (14, _)]) (.old rfl rfl <| .old rfl rfl <| .old rfl rfl <| .old rfl rfl <| .old rfl rfl <| .new rfl <| .nil)
  replace h2 := h2.mono hle6
  replace hch := hch.mono hle6
  have hlh6 := hlh5.trans hle6
  clear hst5 hfr5 hk6
  refine hK10 _ _ ?_; try clear hK10 K10
  refine cond_any hfr6 rfl rfl (fun hb14 => ?_) (fun hb14 => ?_)
  · have hlt : k < n2 := by simpa using hb14
    obtain ⟨p, hx, rfl, hc⟩ := h2.get hlt
    refine wp_skip ?_
    refine hK9 _ _ ?_; try clear hK9 K9
    refine seq_any fun K11 hK11 => ?_
    refine wp_block ?_
    refine region_any (tch := [(17, 1, (fun _ => .blkx _ _ _))]) (fun _ => mixed) hst6 hfr6 (by kernel_rfl) (by kernel_rfl) (by kernel_rfl) (.cons rfl (ob_loadLS' (j := 1) rfl rfl Try.isAgg26 Try.sizeOf26 rfl rfl) <|
        .cons rfl (ob_move rfl) <|
        .cons rfl (ob_move rfl) <|
        .cons rfl (ob_indexAddr rfl rfl Try.underlying22 Try.sizeOf31 rfl hlt) <|
        .cons rfl (ob_fieldAddr rfl Try.underlying31 rfl Try.sizeOf9 rfl) <|
        .cons rfl (ob_load1 rfl hc Try.isAgg9 rfl) <|
        .cons rfl (ob_move rfl) <|
        .cons rfl (ob_move rfl) <|
        .cons rfl (ob_indexAddr rfl rfl Try.underlying22 Try.sizeOf31 rfl hlt) <|
        .cons rfl (ob_fieldAddr rfl Try.underlying31 rfl Try.sizeOf3 rfl) <|
        .cons rfl (ob_load1 rfl hc Try.isAgg3 rfl) <|
        .cons rfl (ob_move rfl) <|
        .cons rfl (ob_move rfl) <|
        .cons rfl (ob_indexAddr rfl rfl Try.underlying22 Try.sizeOf31 rfl hlt) <|
        .cons rfl (ob_fieldAddr rfl Try.underlying31 rfl Try.sizeOf9 rfl) <|
        .cons rfl (ob_load1 rfl hc Try.isAgg9 rfl) <|
        .cons rfl (ob_call (φ := MP.mem (fun a => .agg #[.pointer a]) (fun a m => Chain m (⟨l6[k].e, l6[k].mrk, S l6[k].k⟩ :: (l6.take k).reverse.map RE.ve) a) (fun hm h => h.mono hm)) rfl (.cons rfl <| .cons rfl <| .cons rfl <| .cons rfl <| .nil) Try.call10 (fun w m hK => by exact FnG.mono (push_c (e := l6[k].e) (n := l6[k].mrk) (k := l6[k].k) (KC.agree hK) (hch.mono (KC.le hK)) (by simp; omega)) fun _ _ _ _ h => h)) <|
        .consT rfl rfl (fun _ => rfl) rfl (ob_imgTX 33 rfl rfl rfl fun y33 => ob_store' rfl rfl rfl Try.sizeOf26 rfl rfl rfl) <|
        .nil) ?_
    intro a7 w7 m7 hst7 hle7 hk7
    have hfr7 := hk7.fr (T' := [(5, _), (3, _), (2, _), (4, _), (0, _)]) (.old rfl rfl <| .old rfl rfl <| .old rfl rfl <| .old rfl rfl <| .old rfl rfl <| .nil)
    replace hst7 := hst7.fin (L' := [_, _]) (.cons rfl <| .nil)
    obtain ⟨a2, hc2, hst7⟩ := hst7.unx (k := 1) rfl (fun _ => rfl)
    replace h2 := h2.mono hle7
    replace hch := hch.mono hle7
    replace hc := hc.mono hle7
    have hlh7 := hlh6.trans hle7
    clear hst6 hfr6 hk7
    refine hK11 _ _ ?_; try clear hK11 K11
    refine region_plain (fun h => by cases h) hst7 hfr7 (by kernel_rfl) (by kernel_rfl) (.cons rfl (ob_move rfl) <|
        .cons rfl (ob_add rfl rfl ⟨by omega, by omega⟩) <|
        .cons rfl (ob_assign rfl) <|
        .nil) ?_
    intro a8 w8 m8 hst8 hle8 hk8
    have hfr8 := hk8.fr (T' := [(3, _), (2, _), (4, _), (0, _), (5, _)]) (.old rfl rfl <| .old rfl rfl <| .old rfl rfl <| .old rfl rfl <| .new rfl <| .nil)
    replace h2 := h2.mono hle8
    replace hch := hch.mono hle8
    replace hc := hc.mono hle8
    replace hc2 := hc2.mono hle8
    have hlh8 := hlh7.trans hle8
    clear hst7 hfr7 hk8
    exact ⟨(k + 1, a2), m8, by show n2 - (k + 1) < n2 - k; omega, ⟨hst8, hlh8, hfr8.sub (.cons rfl <| .cons rfl <| .cons rfl <| .cons rfl <| .cons rfl <| .nil), ⟨by show k + 1 ≤ n2; omega, by show Chain _ ((l6.take (k + 1)).reverse.map RE.ve) a2; rw [← take_rev hx]; exact hc2⟩⟩⟩
  · have hge : k = n2 := by simp at hb14; omega
    subst hge
    refine wp_exit ?_
    refine hK6 _ _ ?_; try clear hK6 K6
    refine seq_any fun K13 hK13 => ?_
    refine region_any (tch := [(2, 0, (fun _ => .blk _ _))]) (fun h => by cases h) hst6 hfr6 (by kernel_rfl) (by kernel_rfl) (by kernel_rfl) (.cons rfl (ob_loadLS' (j := 1) rfl rfl Try.isAgg26 Try.sizeOf26 rfl rfl) <|
        .cons rfl (ob_move rfl) <|
        .consT rfl rfl (fun _ => rfl) rfl (ob_store' rfl rfl rfl Try.sizeOf26 rfl rfl rfl) <|
        .cons rfl (ob_assign rfl) <|
        .nil) ?_
    intro a7 w7 m7 hst7 hle7 hk7
    have hfr7 := hk7.fr (T' := [(5, _), (2, _), (4, _), (0, _), (3, _)]) (.old rfl rfl <| .old rfl rfl <| .old rfl rfl <| .old rfl rfl <| .new rfl <| .nil)
    replace hst7 := hst7.fin (L' := [_, _]) (.cons rfl <| .nil)
    replace h2 := h2.mono hle7
    replace hch := hch.mono hle7
    have hlh7 := hlh6.trans hle7
    clear hst6 hfr6 hk7
    refine hK13 _ _ ?_; try clear hK13 K13
    refine wp_ret ?_
    repeat (with_reducible first | refine then_ret ?_ | refine block_ret ?_)
    rw [List.take_of_length_le (by omega)] at hch
    exact fn_ret hst7 hfr7 rfl (.cell rfl (load_blk (blk_heap (hst7.loc.at_ (k := 0) rfl)) Try.isAgg26 Try.sizeOf26) <| .tmp rfl <| .nil) (⟨(a, o2, c2), by rw [← hn3]; rfl, by rw [← hl6]; exact hch, by rw [← hn3, ← hl6]; exact h2⟩)

end Go.Proofs.Ytibkcojlgbmlhaa
