/-
  What is to be said, opened out of what is read. Conditions: those of each theorem.
-/
import Derived.Test.YtlidonjpgigocaaGreatLawUnifyMost
import Derived.Test.YtlidonjpgigocaaGreatOpens7
namespace Go.Proofs.YtlidonjpgigocaaGreat
set_option linter.all false
set_option maxRecDepth 4000
open Go.RowKit Go.WideShapes Go.ChangeShapes Go.Deep Go.WideElems Go.ChangeAt Go.ChangeMaps
theorem say_one {H : Type} {enc : TypeId × Value → H} {W : World} {base : Nat} {spare : Nat → Bool} {held : Bool} {n : Nat} {cs : List Value} {x : DataW H × List MemPlace} (h : DataW.trod enc Tryz.prog W base spare held n 59 cs = some x) :
    ∃ a : Say, SayR (snap W) a cs ∧ bulkT a.ty ≤ 2 * Rows.uptoBulk x.1 ∧ a.row.labels.length ≤ 2 * Rows.uptoBulk x.1 := by
  obtain ⟨n4, ys, zl, hx, hcl, hf⟩ := struct_open Tryz.underlying59 h
  obtain ⟨y0, e0, h0⟩ := hf 0 _ rfl
  obtain ⟨y1, e1, h1⟩ := hf 1 _ rfl
  obtain ⟨y2, e2, h2⟩ := hf 2 _ rfl
  obtain ⟨y3, e3, h3⟩ := hf 3 _ rfl
  have hcl' : cs.length = 10 := hcl.trans (by kernel_rfl)
  match cs, hcl' with
  | [c0, c1, c2, c3, c4, c5, c6, c7, c8, c9], _ =>
  change DataW.trod enc Tryz.prog W base spare held n4 3 (([c0, c1, c2, c3, c4, c5, c6, c7, c8, c9].drop 0).take (Tryz.prog.cellsOf 3)) = some y0 at h0
  change DataW.trod enc Tryz.prog W base spare held n4 4 (([c0, c1, c2, c3, c4, c5, c6, c7, c8, c9].drop 1).take (Tryz.prog.cellsOf 4)) = some y1 at h1
  change DataW.trod enc Tryz.prog W base spare held n4 45 (([c0, c1, c2, c3, c4, c5, c6, c7, c8, c9].drop 2).take (Tryz.prog.cellsOf 45)) = some y2 at h2
  change DataW.trod enc Tryz.prog W base spare held n4 43 (([c0, c1, c2, c3, c4, c5, c6, c7, c8, c9].drop 8).take (Tryz.prog.cellsOf 43)) = some y3 at h3
  rw [show Tryz.prog.cellsOf 3 = 1 by kernel_rfl] at h0
  rw [show Tryz.prog.cellsOf 4 = 1 by kernel_rfl] at h1
  rw [show Tryz.prog.cellsOf 45 = 6 by kernel_rfl] at h2
  rw [show Tryz.prog.cellsOf 43 = 2 by kernel_rfl] at h3
  obtain ⟨k, ek, hk, bk⟩ := int_open Tryz.underlying3 h0
  obtain ⟨q, eq, _⟩ := DataW.trod_bool Tryz.underlying4 h1
  obtain ⟨t, ht, bt⟩ := ty_open _ _ _ _ (Nat.le_refl _) h2
  obtain ⟨r, hr, br⟩ := rw_open h3
  have hys : ys = [y0, y1, y2, y3] := by
    match ys, zl with
    | [a, b, c, d], _ => simp at e0 e1 e2 e3; subst e0 e1 e2 e3; rfl
  subst hys
  simp only [List.map_cons, List.map_nil, Rows.uptoBulkAll] at hx
  simp only [List.drop_zero, List.take_succ_cons, List.take_zero, List.drop_succ_cons, List.cons.injEq, and_true] at ek eq ht hr
  subst ek eq
  obtain ⟨y, ey⟩ := ht.toV
  obtain ⟨z, ez⟩ := hr.toV
  have hll := lensS_len r.labels
  refine ⟨⟨k, q, t, r⟩, ⟨y, z, ?_, hk, ey ▸ ht, ez ▸ hr⟩, by show bulkT t ≤ _; omega, by show r.labels.length ≤ _; omega⟩
  show _ = Value.int .i64 k :: Value.bool q :: (tyV t y ++ rwV r z)
  rw [← ey, ← ez]; rfl
theorem says_arg {H : Type} {enc : TypeId × Value → H} {W : World} {base : Nat} {spare : Nat → Bool} {held : Bool} {r : Reach} {b0 : Nat} {v : Value} {d : DataW H} {ps : List MemPlace} (hval : Value.okWide Tryz.prog W r b0 57 v) (hd : DataW.Trod enc Tryz.prog W base spare held 57 v d ps) :
    ∃ o c l, v = .slice o l.length c ∧ Says (snap W) o l.length c l ∧ ∀ x ∈ l, bulkT x.ty ≤ 2 * Rows.uptoBulk d ∧ x.row.labels.length ≤ 2 * Rows.uptoBulk d := by
  obtain ⟨o, n, c, rfl⟩ := okWide_slice Tryz.underlying57 hval
  obtain ⟨fuel, hf⟩ := hd
  obtain ⟨o', q, c', l, el, hsl, hc, bl⟩ := sl_open (R := fun m vs (a : Say) => SayR m a vs ∧ bulkT a.ty ≤ 2 * Rows.uptoBulk d ∧ a.row.labels.length ≤ 2 * Rows.uptoBulk d) (β := fun _ => 0) (sz := 10) (Rows.uptoBulk d) Tryz.underlying57 (by kernel_rfl) (by omega)
    (fun n cs x hx' ht _ => by obtain ⟨a, h1, h2, h3⟩ := say_one ht; exact ⟨a, ⟨h1, by omega, by omega⟩, Nat.zero_le _⟩) hf (Nat.le_refl _)
  obtain rfl := hsl.len
  simp only [Value.cells, List.cons.injEq, and_true] at el
  rw [el]
  refine ⟨o', c', l, rfl, ⟨rfl, hsl.cap, hsl.big, fun i x hx => by obtain ⟨p, vs, a1, a2, a3, a4⟩ := hsl.at_ i x hx; exact ⟨p, vs, a1, a2, a3, a4.1⟩⟩, fun x hx => ?_⟩
  obtain ⟨i, hi⟩ := List.mem_iff_getElem?.1 hx
  obtain ⟨p, vs, a1, a2, a3, a4⟩ := hsl.at_ i x hi
  exact a4.2

end Go.Proofs.YtlidonjpgigocaaGreat
