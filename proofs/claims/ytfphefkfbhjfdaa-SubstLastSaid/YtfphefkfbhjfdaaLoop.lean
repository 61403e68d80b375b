/-
  Loops: a relation over one ghost value. Conditions: those of each lemma; no program occurs here.
-/
import Derived.Test.YtfphefkfbhjfdaaSlice
namespace Go.Proofs.Ytfphefkfbhjfdaa
set_option linter.all false
open Go.RowKit
def without (cs : List Nat) : List (Nat × Value) → List (Nat × Value)
  | [] => []
  | (t, v) :: r => bif has cs t then without cs r else (t, v) :: without cs r
/-- One frame's knowledge out of another's. -/
inductive SubT (T : List (Nat × Value)) : List (Nat × Value) → Prop where
  | nil : SubT T []
  | cons {t : Nat} {v : Value} {T' : List (Nat × Value)} (h : look T t = some v) (hs : SubT T T') : SubT T ((t, v) :: T')
theorem Fr.sub {n : Nat} {T T' : List (Nat × Value)} {a : Act} (h : Fr n T a) (hs : SubT T T') : Fr n T' a := by
  induction hs with
  | nil => exact ⟨h.defers, h.size, fun t v e => by cases e⟩
  | cons h1 _ ih => exact ih.cons (h.at_ _ _ h1)
/-- What holds at a loop's head. -/
structure Head {α : Type} (n : Nat) (T : List (Nat × Value)) (G0 : List Nat) (W : World) (mE m0 : Mem) (f : α → List (Nat × Value)) (Lf : α → List Res) (J : α → Mem → Prop) (y : α) (a : Act) (w : World) (m : Mem) : Prop where
  st : St G0 W mE (Lf y) w m
  le : MLe m0 m
  fr : Fr n (f y ++ T) a
  rel : J y m
theorem loop_any {α : Type} {P : Program} {Q : Exit → Act → World → Prop} {c : Code} {n : Nat} {T : List (Nat × Value)} {G0 : List Nat} {W : World} {mE m0 : Mem} {a : Act} {w : World}
    (f : α → List (Nat × Value)) (Lf : α → List Res) (J : α → Mem → Prop) (μ : α → Nat) (y0 : α)
    (h0 : Head n T G0 W mE m0 f Lf J y0 a w m0)
    (round : ∀ (y : α) (a : Act) (w : World) (m : Mem), Head n T G0 W mE m0 f Lf J y a w m → c.wp P (Exit.then (fun a' w' => ∃ (y' : α) (m' : Mem), μ y' < μ y ∧ Head n T G0 W mE m0 f Lf J y' a' w' m') Q) a w) :
    (Code.loop c).wp P Q a w := by
  refine wp_loop_ghost (fun k a w => ∃ (y : α) (m : Mem), μ y = k ∧ Head n T G0 W mE m0 f Lf J y a w m) (μ y0) ⟨y0, m0, rfl, h0⟩ fun k a w ⟨y, m, hk, h⟩ => ?_
  refine wp_mono (round y a w m h) fun e a' w' hq => ?_
  cases e with
  | normal => obtain ⟨y', m', hlt, hh⟩ := hq; exact ⟨μ y', by omega, y', m', rfl, hh⟩
  | exit id => exact hq
  | goto l => exact hq
  | ret => exact hq
  | panic ch => exact hq
  | outgrown => exact hq
/-- A slice of ints. -/
abbrev Ints (m : Mem) (o : Option Addr) (n cap : Nat) (xs : List Int) : Prop := Sl (fun _ vs (x : Int) => vs = [Value.int .i64 x]) 1 m o n cap xs
theorem Ints.get {m : Mem} {o : Option Addr} {n cap : Nat} {xs : List Int} (h : Ints m o n cap xs) {k : Nat} (hk : k < n) : ∃ p, ∃ hx : k < xs.length, o = some p ∧ CellsAt m (p.add (k * 1)) [Value.int .i64 xs[k]] := by
  obtain ⟨p, vs, hx, e, hc, _, rfl⟩ := Sl.get h hk
  exact ⟨p, hx, e, hc⟩
theorem Ints.mono {m m' : Mem} {o : Option Addr} {n cap : Nat} {xs : List Int} (h : Ints m o n cap xs) (hm : MLe m m') : Ints m' o n cap xs := Sl.mono h (fun _ _ e => e) hm
theorem Ints.of_row {m : Mem} {o : Option Addr} {n cap : Nat} {xs : List Int} (hr : RowAt m o (xs.map fun x => Value.int .i64 x)) (hn : xs.length = n) (hc : n ≤ cap) (hb : n ≤ 9223372036854775807) : Ints m o n cap xs :=
  Sl.of_row (f := fun x => [Value.int .i64 x]) (by rw [List.map_eq_flatMap] at hr; exact hr) hn hc hb (by omega) fun _ _ => ⟨rfl, rfl⟩
/-- A slice of strings. -/
abbrev Strs (m : Mem) (o : Option Addr) (n cap : Nat) (xs : List Str) : Prop := Sl (fun _ vs (x : Str) => vs = [S x]) 1 m o n cap xs
theorem Strs.get {m : Mem} {o : Option Addr} {n cap : Nat} {xs : List Str} (h : Strs m o n cap xs) {k : Nat} (hk : k < n) : ∃ p, ∃ hx : k < xs.length, o = some p ∧ CellsAt m (p.add (k * 1)) [S xs[k]] := by
  obtain ⟨p, vs, hx, e, hc, _, rfl⟩ := Sl.get h hk
  exact ⟨p, hx, e, hc⟩
theorem Strs.mono {m m' : Mem} {o : Option Addr} {n cap : Nat} {xs : List Str} (h : Strs m o n cap xs) (hm : MLe m m') : Strs m' o n cap xs := Sl.mono h (fun _ _ e => e) hm
theorem take_succ_eq {α : Type} {xs ys : List α} {k : Nat} (hx : k < xs.length) (hy : k < ys.length) (h : xs.take k = ys.take k) (e : xs[k] = ys[k]) : xs.take (k + 1) = ys.take (k + 1) := by
  rw [List.take_succ_eq_append_getElem hx, List.take_succ_eq_append_getElem hy, h, e]
end Go.Proofs.Ytfphefkfbhjfdaa
