/-
  Types and rows, opened out of what is read. Conditions: those of each theorem.
-/
import Derived.Test.YtlidonjpgigocaaGreatShown7
import Derived.Test.YtlidonjpgigocaaGreatBulk
namespace Go.Proofs.YtlidonjpgigocaaGreat
set_option linter.all false
set_option maxRecDepth 4000
open Go.RowKit Go.WideShapes Go.ChangeShapes Go.Deep Go.WideElems Go.ChangeAt Go.ChangeMaps
theorem bulkTs_sum : ∀ (l : List Ty), bulkTs l = (l.map bulkT).sum
  | [] => rfl
  | t :: ts => by rw [bulkTs, bulkTs_sum ts]; simp
theorem strs_open {H : Type} {enc : TypeId × Value → H} {W : World} {base : Nat} {spare : Nat → Bool} {held : Bool} {n : Nat} {cs : List Value} {x : DataW H × List MemPlace} (h : DataW.trod enc Tryz.prog W base spare held n 41 cs = some x) :
    ∃ o c l, cs = [.slice o l.length c] ∧ Strs (snap W) o l.length c l ∧ c ≤ maxLen ∧ lensS l ≤ 2 * Rows.uptoBulk x.1 := by
  obtain ⟨o, q, c, l, el, hsl, hc, bl⟩ := sl_open (R := fun _ vs (x : Str) => vs = [S x]) (β := fun s => s.length + 1) (sz := 1) (Rows.uptoBulk x.1) Tryz.underlying41 (by kernel_rfl) (by omega)
    (fun n cs x _ ht _ => by obtain ⟨s, es, _, bs⟩ := str_open Tryz.underlying9 ht; exact ⟨s, es, by omega⟩) h (Nat.le_refl _)
  obtain rfl := hsl.len
  refine ⟨o, c, l, el, hsl, hc, ?_⟩
  have key : ∀ l : List Str, lensS l ≤ 2 * (l.map fun s => s.length + 1).sum := by
    intro l; unfold lensS
    induction l with
    | nil => simp
    | cons x xs ih => simp only [List.map_cons, List.sum_cons]; omega
  have := key l; omega
theorem ty_open {H : Type} {enc : TypeId × Value → H} {W : World} {base : Nat} {spare : Nat → Bool} {held : Bool} : ∀ (B n : Nat) (cs : List Value) (x : DataW H × List MemPlace), Rows.uptoBulk x.1 ≤ B →
    DataW.trod enc Tryz.prog W base spare held n 45 cs = some x → ∃ t : Ty, TyR (snap W) t cs ∧ bulkT t ≤ 2 * Rows.uptoBulk x.1 := by
  intro B
  induction B with
  | zero => intro n cs x hB h; exact absurd (one_bulk x.1) (by omega)
  | succ B ih =>
    intro n cs x hB h
    obtain ⟨n', ys, hl, hx, hcl, hf⟩ := struct_open Tryz.underlying45 h
    obtain ⟨y0, e0, h0⟩ := hf 0 _ rfl
    obtain ⟨y1, e1, h1⟩ := hf 1 _ rfl
    obtain ⟨y2, e2, h2⟩ := hf 2 _ rfl
    obtain ⟨y3, e3, h3⟩ := hf 3 _ rfl
    obtain ⟨y4, e4, h4⟩ := hf 4 _ rfl
    have hcl' : cs.length = 6 := hcl.trans (by kernel_rfl)
    match cs, hcl' with
    | [c0, c1, c2, c3, c4, c5], _ =>
    change DataW.trod enc Tryz.prog W base spare held n' 3 (([c0, c1, c2, c3, c4, c5].drop 0).take (Tryz.prog.cellsOf 3)) = some y0 at h0
    change DataW.trod enc Tryz.prog W base spare held n' 9 (([c0, c1, c2, c3, c4, c5].drop 1).take (Tryz.prog.cellsOf 9)) = some y1 at h1
    change DataW.trod enc Tryz.prog W base spare held n' 3 (([c0, c1, c2, c3, c4, c5].drop 2).take (Tryz.prog.cellsOf 3)) = some y2 at h2
    change DataW.trod enc Tryz.prog W base spare held n' 33 (([c0, c1, c2, c3, c4, c5].drop 3).take (Tryz.prog.cellsOf 33)) = some y3 at h3
    change DataW.trod enc Tryz.prog W base spare held n' 43 (([c0, c1, c2, c3, c4, c5].drop 4).take (Tryz.prog.cellsOf 43)) = some y4 at h4
    rw [show Tryz.prog.cellsOf 3 = 1 by kernel_rfl] at h0 h2
    rw [show Tryz.prog.cellsOf 9 = 1 by kernel_rfl] at h1
    rw [show Tryz.prog.cellsOf 33 = 1 by kernel_rfl] at h3
    rw [show Tryz.prog.cellsOf 43 = 2 by kernel_rfl] at h4
    obtain ⟨k, ek, hk, bk⟩ := int_open Tryz.underlying3 h0
    obtain ⟨s, es, hs, bs⟩ := str_open Tryz.underlying9 h1
    obtain ⟨v, ev, hv, bv⟩ := int_open Tryz.underlying3 h2
    obtain ⟨n4, zs, zl, zx, _, zf⟩ := struct_open Tryz.underlying43 h4
    obtain ⟨z0, f0, g0⟩ := zf 0 _ rfl
    obtain ⟨z1, f1, g1⟩ := zf 1 _ rfl
    change DataW.trod enc Tryz.prog W base spare held n4 41 (([c4, c5].drop 0).take (Tryz.prog.cellsOf 41)) = some z0 at g0
    change DataW.trod enc Tryz.prog W base spare held n4 3 (([c4, c5].drop 1).take (Tryz.prog.cellsOf 3)) = some z1 at g1
    rw [show Tryz.prog.cellsOf 41 = 1 by kernel_rfl] at g0
    rw [show Tryz.prog.cellsOf 3 = 1 by kernel_rfl] at g1
    obtain ⟨ol, cl, ls, els, hls, hcls, bls⟩ := strs_open g0
    obtain ⟨rv, erv, hrv, brv⟩ := int_open Tryz.underlying3 g1
    have hys : ys = [y0, y1, y2, y3, y4] := by
      match ys, hl with
      | [a, b, c, d, e], _ => simp at e0 e1 e2 e3 e4; subst e0 e1 e2 e3 e4; rfl
    have hzs : zs = [z0, z1] := by
      match zs, zl with
      | [a, b], _ => simp at f0 f1; subst f0 f1; rfl
    subst hys; subst hzs
    simp only [List.map_cons, List.map_nil, Rows.uptoBulkAll] at hx zx
    obtain ⟨o, q, c, l, el, hsl, hc, bl⟩ := sl_open (R := fun m vs t => TyR m t vs ∧ bulkT t ≤ 2 * Rows.uptoBulk y3.1 + 0 * vs.length) (β := fun t => (bulkT t + 1) / 2) (sz := 6) (Rows.uptoBulk y3.1) Tryz.underlying33 (by kernel_rfl) (by omega)
      (fun n cs x hx' ht _ => by obtain ⟨t, h1, h2⟩ := ih n cs x (by omega) ht; exact ⟨t, ⟨h1, by omega⟩, by omega⟩) h3 (Nat.le_refl _)
    obtain rfl := hsl.len
    have hsl' : Tys (snap W) o l.length c l := ⟨rfl, hsl.cap, hsl.big, fun i x hx => by obtain ⟨p, vs, a1, a2, a3, a4⟩ := hsl.at_ i x hx; exact ⟨p, vs, a1, a2, a3, a4.1⟩⟩
    have key : ∀ l : List Ty, bulkTs l ≤ 2 * (l.map fun t => (bulkT t + 1) / 2).sum := by
      intro l
      induction l with
      | nil => simp [bulkTs]
      | cons x xs ih => simp only [bulkTs, List.map_cons, List.sum_cons]; omega
    have hkey := key l
    simp only [List.drop_zero, List.take_succ_cons, List.take_zero, List.drop_succ_cons, List.cons.injEq, and_true] at ek es ev el els erv
    subst ek es ev el els erv
    exact ⟨⟨k, s, v, l, ls, rv⟩, TyR.build hsl' hls hk hv hrv, by rw [bulkT]; omega⟩
theorem open_Ty {H : Type} {enc : TypeId × Value → H} {W : World} {base : Nat} {spare : Nat → Bool} {held : Bool} {r : Reach} {b0 : Nat} {v : Value} {d : DataW H} {ps : List MemPlace} (hval : Value.okWide Tryz.prog W r b0 45 v) (hd : DataW.Trod enc Tryz.prog W base spare held 45 v d ps) :
    ∃ vs t, v = .agg vs.toArray ∧ TyR (snap W) t vs ∧ bulkT t ≤ 2 * Rows.uptoBulk d := by
  obtain ⟨cs, rfl, _⟩ := okWide_struct Tryz.underlying45 hval
  obtain ⟨fuel, hf⟩ := hd
  obtain ⟨t, h1, h2⟩ := ty_open _ _ _ _ (Nat.le_refl _) hf
  exact ⟨cs.toList, t, rfl, h1, h2⟩
theorem rw_open {H : Type} {enc : TypeId × Value → H} {W : World} {base : Nat} {spare : Nat → Bool} {held : Bool} {n : Nat} {cs : List Value} {x : DataW H × List MemPlace} (hf : DataW.trod enc Tryz.prog W base spare held n 43 cs = some x) :
    ∃ r, RwR (snap W) r cs ∧ lensS r.labels ≤ 2 * Rows.uptoBulk x.1 := by
  obtain ⟨n4, zs, zl, zx, hcl, zf⟩ := struct_open Tryz.underlying43 hf
  obtain ⟨z0, f0, g0⟩ := zf 0 _ rfl
  obtain ⟨z1, f1, g1⟩ := zf 1 _ rfl
  have hcl' : cs.length = 2 := (show cs.length = _ from hcl).trans (by kernel_rfl)
  match cs, hcl' with
  | [c4, c5], _ =>
  change DataW.trod enc Tryz.prog W base spare held n4 41 (([c4, c5].drop 0).take (Tryz.prog.cellsOf 41)) = some z0 at g0
  change DataW.trod enc Tryz.prog W base spare held n4 3 (([c4, c5].drop 1).take (Tryz.prog.cellsOf 3)) = some z1 at g1
  rw [show Tryz.prog.cellsOf 41 = 1 by kernel_rfl] at g0
  rw [show Tryz.prog.cellsOf 3 = 1 by kernel_rfl] at g1
  obtain ⟨ol, cl, ls, els, hls, hcls, bls⟩ := strs_open g0
  obtain ⟨rv, erv, hrv, brv⟩ := int_open Tryz.underlying3 g1
  have hzs : zs = [z0, z1] := by
    match zs, zl with
    | [a, b], _ => simp at f0 f1; subst f0 f1; rfl
  subst hzs
  simp only [List.map_cons, List.map_nil, Rows.uptoBulkAll] at zx
  simp only [List.drop_zero, List.take_succ_cons, List.take_zero, List.drop_succ_cons, List.cons.injEq, and_true] at els erv
  subst els erv
  exact ⟨⟨ls, rv⟩, ⟨_, _, rfl, hls, hrv⟩, by simp only at zx ⊢; omega⟩
theorem open_Rw {H : Type} {enc : TypeId × Value → H} {W : World} {base : Nat} {spare : Nat → Bool} {held : Bool} {r : Reach} {b0 : Nat} {v : Value} {d : DataW H} {ps : List MemPlace} (hval : Value.okWide Tryz.prog W r b0 43 v) (hd : DataW.Trod enc Tryz.prog W base spare held 43 v d ps) :
    ∃ vs t, v = .agg vs.toArray ∧ RwR (snap W) t vs ∧ lensS t.labels ≤ 2 * Rows.uptoBulk d := by
  obtain ⟨cs, rfl, _⟩ := okWide_struct Tryz.underlying43 hval
  obtain ⟨fuel, hf⟩ := hd
  obtain ⟨cs⟩ := cs
  obtain ⟨t, h1, h2⟩ := rw_open hf
  exact ⟨cs, t, rfl, h1, h2⟩
theorem TyR.toV {m : Mem} {t : Ty} {vs : List Value} (h : TyR m t vs) : ∃ y, vs = tyV t y := by obtain ⟨o, c, o2, c2, rfl, -⟩ := h.open_; exact ⟨((o, c), (o2, c2)), rfl⟩
theorem RwR.toV {m : Mem} {t : Rw} {vs : List Value} (h : RwR m t vs) : ∃ y, vs = rwV t y := by obtain ⟨o, c, rfl, -⟩ := h; exact ⟨(o, c), rfl⟩

end Go.Proofs.YtlidonjpgigocaaGreat
