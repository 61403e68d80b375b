/-
  Types opened out of what is read. Conditions: those of each theorem.
-/
import Derived.Test.YtembdjghbphcdaaDoorTypes1
import Derived.Test.YtembdjghbphcdaaDoorBulk
namespace Go.Proofs.YtembdjghbphcdaaDoor
set_option linter.all false
set_option maxRecDepth 4000
open Go.RowKit Go.WideShapes Go.ChangeShapes Go.Deep Go.WideElems Go.ChangeAt Go.ChangeMaps
theorem bulkTs_sum : ∀ (l : List Ty), bulkTs l = (l.map bulkT).sum
  | [] => rfl
  | t :: ts => by rw [bulkTs, bulkTs_sum ts]; simp
theorem strs_open {H : Type} {enc : TypeId × Value → H} {W : World} {base : Nat} {spare : Nat → Bool} {held : Bool} {n : Nat} {cs : List Value} {x : DataW H × List MemPlace} (h : DataW.trod enc Tryd.prog W base spare held n 23 cs = some x) :
    ∃ o c l, cs = [.slice o l.length c] ∧ Strs (snap W) o l.length c l ∧ c ≤ maxLen ∧ lensS l ≤ 2 * Rows.uptoBulk x.1 := by
  obtain ⟨o, q, c, l, el, hsl, hc, bl⟩ := sl_open (R := fun _ vs (x : Str) => vs = [S x]) (β := fun s => s.length + 1) (sz := 1) (Rows.uptoBulk x.1) Tryd.underlying23 (by kernel_rfl) (by omega)
    (fun n cs x _ ht _ => by obtain ⟨s, es, _, bs⟩ := str_open Tryd.underlying9 ht; exact ⟨s, es, by omega⟩) h (Nat.le_refl _)
  obtain rfl := hsl.len
  refine ⟨o, c, l, el, hsl, hc, ?_⟩
  have key : ∀ l : List Str, lensS l ≤ 2 * (l.map fun s => s.length + 1).sum := by
    intro l; unfold lensS
    induction l with
    | nil => simp
    | cons x xs ih => simp only [List.map_cons, List.sum_cons]; omega
  have := key l; omega
theorem ty_open {H : Type} {enc : TypeId × Value → H} {W : World} {base : Nat} {spare : Nat → Bool} {held : Bool} : ∀ (B n : Nat) (cs : List Value) (x : DataW H × List MemPlace), Rows.uptoBulk x.1 ≤ B →
    DataW.trod enc Tryd.prog W base spare held n 27 cs = some x → ∃ t : Ty, TyR (snap W) t cs ∧ bulkT t ≤ 2 * Rows.uptoBulk x.1 := by
  intro B
  induction B with
  | zero => intro n cs x hB h; exact absurd (one_bulk x.1) (by omega)
  | succ B ih =>
    intro n cs x hB h
    obtain ⟨n', ys, hl, hx, hcl, hf⟩ := struct_open Tryd.underlying27 h
    obtain ⟨y0, e0, h0⟩ := hf 0 _ rfl
    obtain ⟨y1, e1, h1⟩ := hf 1 _ rfl
    obtain ⟨y2, e2, h2⟩ := hf 2 _ rfl
    obtain ⟨y3, e3, h3⟩ := hf 3 _ rfl
    obtain ⟨y4, e4, h4⟩ := hf 4 _ rfl
    have hcl' : cs.length = 6 := hcl.trans (by kernel_rfl)
    match cs, hcl' with
    | [c0, c1, c2, c3, c4, c5], _ =>
    change DataW.trod enc Tryd.prog W base spare held n' 3 (([c0, c1, c2, c3, c4, c5].drop 0).take (Tryd.prog.cellsOf 3)) = some y0 at h0
    change DataW.trod enc Tryd.prog W base spare held n' 9 (([c0, c1, c2, c3, c4, c5].drop 1).take (Tryd.prog.cellsOf 9)) = some y1 at h1
    change DataW.trod enc Tryd.prog W base spare held n' 3 (([c0, c1, c2, c3, c4, c5].drop 2).take (Tryd.prog.cellsOf 3)) = some y2 at h2
    change DataW.trod enc Tryd.prog W base spare held n' 22 (([c0, c1, c2, c3, c4, c5].drop 3).take (Tryd.prog.cellsOf 22)) = some y3 at h3
    change DataW.trod enc Tryd.prog W base spare held n' 25 (([c0, c1, c2, c3, c4, c5].drop 4).take (Tryd.prog.cellsOf 25)) = some y4 at h4
    rw [show Tryd.prog.cellsOf 3 = 1 by kernel_rfl] at h0 h2
    rw [show Tryd.prog.cellsOf 9 = 1 by kernel_rfl] at h1
    rw [show Tryd.prog.cellsOf 22 = 1 by kernel_rfl] at h3
    rw [show Tryd.prog.cellsOf 25 = 2 by kernel_rfl] at h4
    obtain ⟨k, ek, hk, bk⟩ := int_open Tryd.underlying3 h0
    obtain ⟨s, es, hs, bs⟩ := str_open Tryd.underlying9 h1
    obtain ⟨v, ev, hv, bv⟩ := int_open Tryd.underlying3 h2
    obtain ⟨n4, zs, zl, zx, _, zf⟩ := struct_open Tryd.underlying25 h4
    obtain ⟨z0, f0, g0⟩ := zf 0 _ rfl
    obtain ⟨z1, f1, g1⟩ := zf 1 _ rfl
    change DataW.trod enc Tryd.prog W base spare held n4 23 (([c4, c5].drop 0).take (Tryd.prog.cellsOf 23)) = some z0 at g0
    change DataW.trod enc Tryd.prog W base spare held n4 3 (([c4, c5].drop 1).take (Tryd.prog.cellsOf 3)) = some z1 at g1
    rw [show Tryd.prog.cellsOf 23 = 1 by kernel_rfl] at g0
    rw [show Tryd.prog.cellsOf 3 = 1 by kernel_rfl] at g1
    obtain ⟨ol, cl, ls, els, hls, hcls, bls⟩ := strs_open g0
    obtain ⟨rv, erv, hrv, brv⟩ := int_open Tryd.underlying3 g1
    have hys : ys = [y0, y1, y2, y3, y4] := by
      match ys, hl with
      | [a, b, c, d, e], _ => simp at e0 e1 e2 e3 e4; subst e0 e1 e2 e3 e4; rfl
    have hzs : zs = [z0, z1] := by
      match zs, zl with
      | [a, b], _ => simp at f0 f1; subst f0 f1; rfl
    subst hys; subst hzs
    simp only [List.map_cons, List.map_nil, Rows.uptoBulkAll] at hx zx
    obtain ⟨o, q, c, l, el, hsl, hc, bl⟩ := sl_open (R := fun m vs t => TyR m t vs ∧ bulkT t ≤ 2 * Rows.uptoBulk y3.1 + 0 * vs.length) (β := fun t => (bulkT t + 1) / 2) (sz := 6) (Rows.uptoBulk y3.1) Tryd.underlying22 (by kernel_rfl) (by omega)
      (fun n cs x hx' ht _ => by obtain ⟨t, h1, h2⟩ := ih n cs x (by omega) ht; exact ⟨t, ⟨h1, by omega⟩, by omega⟩) h3 (Nat.le_refl _)
    obtain rfl := hsl.len
    have hsl' : Tys (snap W) o l.length c l := ⟨rfl, hsl.cap, hsl.big, fun i x hx => by obtain ⟨p, vs, a1, a2, a3, a4⟩ := hsl.at_ i x hx; exact ⟨p, vs, a1, a2, a3, a4.1⟩⟩
    have key : ∀ l : List Ty, bulkTs l ≤ 2 * (l.map fun t => (bulkT t + 1) / 2).sum := by
      intro l
      induction l with
      | nil => simp [bulkTs]
      | cons x xs ih => simp only [bulkTs, List.map_cons, List.sum_cons]; omega
    have hkey := key l
    simp only [List.drop_zero, List.take_succ_cons, List.take_zero, List.drop_succ_cons, List.cons.injEq, and_true] at ek es ev el els erv
    subst ek es ev el els erv
    exact ⟨⟨k, s, v, l, ls, rv⟩, TyR.build hsl' hls hk hv hrv, by rw [bulkT]; omega⟩
theorem open_Ty {H : Type} {enc : TypeId × Value → H} {W : World} {base : Nat} {spare : Nat → Bool} {held : Bool} {r : Reach} {b0 : Nat} {v : Value} {d : DataW H} {ps : List MemPlace} (hval : Value.okWide Tryd.prog W r b0 27 v) (hd : DataW.Trod enc Tryd.prog W base spare held 27 v d ps) :
    ∃ vs t, v = .agg vs.toArray ∧ TyR (snap W) t vs ∧ bulkT t ≤ 2 * Rows.uptoBulk d := by
  obtain ⟨cs, rfl, _⟩ := okWide_struct Tryd.underlying27 hval
  obtain ⟨fuel, hf⟩ := hd
  obtain ⟨t, h1, h2⟩ := ty_open _ _ _ _ (Nat.le_refl _) hf
  exact ⟨cs.toList, t, rfl, h1, h2⟩
theorem strs_arg {H : Type} {enc : TypeId × Value → H} {W : World} {base : Nat} {spare : Nat → Bool} {held : Bool} {r : Reach} {b0 : Nat} {v : Value} {d : DataW H} {ps : List MemPlace} (hval : Value.okWide Tryd.prog W r b0 23 v) (hd : DataW.Trod enc Tryd.prog W base spare held 23 v d ps) :
    ∃ o c l, v = .slice o l.length c ∧ Strs (snap W) o l.length c l := by
  obtain ⟨o, n, c, rfl⟩ := okWide_slice Tryd.underlying23 hval
  obtain ⟨fuel, hf⟩ := hd
  obtain ⟨o', c', l, e1, h1, _⟩ := strs_open hf
  simp only [Value.cells, List.cons.injEq, and_true] at e1
  rw [e1]
  exact ⟨o', c', l, rfl, h1⟩
theorem open_Rw {H : Type} {enc : TypeId × Value → H} {W : World} {base : Nat} {spare : Nat → Bool} {held : Bool} {r : Reach} {b0 : Nat} {v : Value} {d : DataW H} {ps : List MemPlace} (hval : Value.okWide Tryd.prog W r b0 25 v) (hd : DataW.Trod enc Tryd.prog W base spare held 25 v d ps) :
    ∃ vs t, v = .agg vs.toArray ∧ RwR (snap W) t vs ∧ lensS t.labels ≤ 2 * Rows.uptoBulk d := by
  obtain ⟨cs, rfl, _⟩ := okWide_struct Tryd.underlying25 hval
  obtain ⟨fuel, hf⟩ := hd
  obtain ⟨n4, zs, zl, zx, hcl, zf⟩ := struct_open Tryd.underlying25 hf
  obtain ⟨z0, f0, g0⟩ := zf 0 _ rfl
  obtain ⟨z1, f1, g1⟩ := zf 1 _ rfl
  obtain ⟨cs⟩ := cs
  have hcl' : cs.length = 2 := (show cs.length = _ from hcl).trans (by kernel_rfl)
  match cs, hcl' with
  | [c4, c5], _ =>
  change DataW.trod enc Tryd.prog W base spare held n4 23 (([c4, c5].drop 0).take (Tryd.prog.cellsOf 23)) = some z0 at g0
  change DataW.trod enc Tryd.prog W base spare held n4 3 (([c4, c5].drop 1).take (Tryd.prog.cellsOf 3)) = some z1 at g1
  rw [show Tryd.prog.cellsOf 23 = 1 by kernel_rfl] at g0
  rw [show Tryd.prog.cellsOf 3 = 1 by kernel_rfl] at g1
  obtain ⟨ol, cl, ls, els, hls, hcls, bls⟩ := strs_open g0
  obtain ⟨rv, erv, hrv, brv⟩ := int_open Tryd.underlying3 g1
  have hzs : zs = [z0, z1] := by
    match zs, zl with
    | [a, b], _ => simp at f0 f1; subst f0 f1; rfl
  subst hzs
  simp only [List.map_cons, List.map_nil, Rows.uptoBulkAll] at zx
  simp only [List.drop_zero, List.take_succ_cons, List.take_zero, List.drop_succ_cons, List.cons.injEq, and_true] at els erv
  subst els erv
  exact ⟨_, ⟨ls, rv⟩, rfl, ⟨_, _, rfl, hls, hrv⟩, by simp only at zx ⊢; omega⟩

end Go.Proofs.YtembdjghbphcdaaDoor
