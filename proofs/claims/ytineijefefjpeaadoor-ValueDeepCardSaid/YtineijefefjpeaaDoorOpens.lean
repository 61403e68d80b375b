/-
  Values opened out of what is read. Conditions: those of each theorem.
-/
import Derived.Test.YtineijefefjpeaaDoorVtree
import Derived.Test.YtineijefefjpeaaDoorTexts
import Derived.Test.YtineijefefjpeaaDoorBulk
import Derived.SizedLaws
namespace Go.Proofs.YtineijefefjpeaaDoor
set_option linter.all false
open Go.RowKit Go.WideShapes Go.ChangeShapes Go.Deep Go.WideElems Go.ChangeAt Go.ChangeMaps
theorem bulkL_sum : ∀ (l : List VT), bulkL l = (l.map bulkV).sum
  | [] => rfl
  | t :: ts => by rw [bulkL, bulkL_sum ts]; simp
theorem vt_open {H : Type} {enc : TypeId × Value → H} {W : World} {base : Nat} {spare : Nat → Bool} {held : Bool} : ∀ (B n : Nat) (cs : List Value) (x : DataW H × List MemPlace), Rows.uptoBulk x.1 ≤ B →
    DataW.trod enc Tryd.prog W base spare held n 24 cs = some x → ∃ t : VT, VR (snap W) t cs ∧ bulkV t ≤ Rows.uptoBulk x.1 := by
  intro B
  induction B with
  | zero => intro n cs x hB h; exact absurd (one_bulk x.1) (by omega)
  | succ B ih =>
    intro n cs x hB h
    obtain ⟨n', ys, hl, hx, hcl, hf⟩ := struct_open Tryd.underlying24 h
    obtain ⟨y0, e0, h0⟩ := hf 0 _ rfl
    obtain ⟨y1, e1, h1⟩ := hf 1 _ rfl
    obtain ⟨y2, e2, h2⟩ := hf 2 _ rfl
    obtain ⟨y3, e3, h3⟩ := hf 3 _ rfl
    have hcl' : cs.length = 4 := hcl.trans (by kernel_rfl)
    match cs, hcl' with
    | [c0, c1, c2, c3], _ =>
    change DataW.trod enc Tryd.prog W base spare held n' 3 (([c0, c1, c2, c3].drop 0).take (Tryd.prog.cellsOf 3)) = some y0 at h0
    change DataW.trod enc Tryd.prog W base spare held n' 3 (([c0, c1, c2, c3].drop 1).take (Tryd.prog.cellsOf 3)) = some y1 at h1
    change DataW.trod enc Tryd.prog W base spare held n' 9 (([c0, c1, c2, c3].drop 2).take (Tryd.prog.cellsOf 9)) = some y2 at h2
    change DataW.trod enc Tryd.prog W base spare held n' 22 (([c0, c1, c2, c3].drop 3).take (Tryd.prog.cellsOf 22)) = some y3 at h3
    rw [show Tryd.prog.cellsOf 3 = 1 by kernel_rfl] at h0 h1
    rw [show Tryd.prog.cellsOf 9 = 1 by kernel_rfl] at h2
    rw [show Tryd.prog.cellsOf 22 = 1 by kernel_rfl] at h3
    obtain ⟨k, ek, hk, bk⟩ := int_open Tryd.underlying3 h0
    obtain ⟨m, em, hm, bm⟩ := int_open Tryd.underlying3 h1
    obtain ⟨s, es, hs, bs⟩ := str_open Tryd.underlying9 h2
    have hys : ys = [y0, y1, y2, y3] := by
      match ys, hl with
      | [a, b, c, d], _ => simp at e0 e1 e2 e3; subst e0 e1 e2 e3; rfl
    subst hys
    simp only [List.map_cons, List.map_nil, Rows.uptoBulkAll] at hx
    obtain ⟨o, q, c, l, el, hsl, hc, bl⟩ := sl_open (R := fun m vs t => VR m t vs) (β := bulkV) (sz := 4) (Rows.uptoBulk y3.1) Tryd.underlying22 (by kernel_rfl) (by omega)
      (fun n cs x hx' ht _ => ih n cs x (by omega) ht) h3 (Nat.le_refl _)
    obtain rfl := hsl.len
    simp only [List.drop_zero, List.take_succ_cons, List.take_zero, List.drop_succ_cons, List.cons.injEq, and_true] at ek em es el
    subst ek em es el
    exact ⟨⟨k, m, s, l⟩, VR.build hsl hk hm, by rw [bulkV, bulkL_sum]; omega⟩
theorem open_VT {H : Type} {enc : TypeId × Value → H} {W : World} {base : Nat} {spare : Nat → Bool} {held : Bool} {r : Reach} {b0 : Nat} {v : Value} {d : DataW H} {ps : List MemPlace} (hval : Value.okWide Tryd.prog W r b0 24 v) (hd : DataW.Trod enc Tryd.prog W base spare held 24 v d ps) :
    ∃ vs t, v = .agg vs.toArray ∧ VR (snap W) t vs ∧ bulkV t ≤ Rows.uptoBulk d := by
  obtain ⟨cs, rfl, _⟩ := okWide_struct Tryd.underlying24 hval
  obtain ⟨fuel, hf⟩ := hd
  obtain ⟨t, h1, h2⟩ := vt_open _ _ _ _ (Nat.le_refl _) hf
  exact ⟨cs.toList, t, rfl, h1, h2⟩
theorem open_Ks {H : Type} {enc : TypeId × Value → H} {W : World} {base : Nat} {spare : Nat → Bool} {held : Bool} {r : Reach} {b0 : Nat} {v : Value} {d : DataW H} {ps : List MemPlace} (hval : Value.okWide Tryd.prog W r b0 22 v) (hd : DataW.Trod enc Tryd.prog W base spare held 22 v d ps) :
    ∃ o c l, v = .slice o l.length c ∧ Kids (snap W) o l.length c l ∧ bulkL l ≤ Rows.uptoBulk d := by
  obtain ⟨o, n, c, rfl⟩ := okWide_slice Tryd.underlying22 hval
  obtain ⟨fuel, hf⟩ := hd
  obtain ⟨o', q, c', l, el, hsl, hc, bl⟩ := sl_open (R := fun m vs t => VR m t vs) (β := bulkV) (sz := 4) (Rows.uptoBulk d) Tryd.underlying22 (by kernel_rfl) (by omega) (fun n cs x _ ht _ => vt_open _ n cs x (Nat.le_refl _) ht) hf (Nat.le_refl _)
  obtain rfl := hsl.len
  simp only [Value.cells, List.cons.injEq, and_true] at el
  injection el with e1 e2 e3
  subst e1 e2 e3
  exact ⟨_, _, l, rfl, hsl, by rw [bulkL_sum]; simp only at bl; omega⟩
theorem weights_each {H : Type} {P : Program} : ∀ {ts : List TypeId} {ds : List (DataW H)} {j : Nat} {t : TypeId} {d : DataW H}, ts[j]? = some t → ds[j]? = some d → (DataW.weightsEach P ts ds).all (· ≤ reachBytes) = true → (d.weights P t).all (· ≤ reachBytes) = true
  | ts, ds, j, t, d, ht, hd, h => List.all_eq_true.2 fun n hn => List.all_eq_true.1 h n (DataW.weights_mem_each ht hd n hn)
/-- A value's name is no longer than a text may be. -/
theorem name_VT {H : Type} {enc : TypeId × Value → H} {W : World} {base : Nat} {spare : Nat → Bool} {held : Bool} {vs : List Value} {t : VT} {d : DataW H} {ps : List MemPlace} (hd : DataW.Trod enc Tryd.prog W base spare held 24 (.agg vs.toArray) d ps) (hv : VR (snap W) t vs)
    (hz : (d.weights Tryd.prog 24).all (· ≤ reachBytes) = true) : t.name.length ≤ reachBytes := by
  obtain ⟨fuel, hf⟩ := hd
  obtain ⟨xs, n, rfl, hx, hl, hlen, hfs⟩ := DataW.trod_struct Tryd.underlying24 hf
  obtain ⟨o, c, rfl, _⟩ := hv.open_
  have h2 := hfs 2 _ rfl
  match xs, hlen with
  | [y0, y1, y2, y3], _ =>
  change DataW.trod enc Tryd.prog W base spare held n 9 (([Value.int .i64 t.kind, .int .i64 t.n, S t.name, .slice o t.kids.length c].drop 2).take (Tryd.prog.cellsOf 9)) = some y2 at h2
  rw [show Tryd.prog.cellsOf 9 = 1 by kernel_rfl] at h2
  obtain ⟨s, es, rfl, hs⟩ := DataW.trod_string Tryd.underlying9 h2
  simp only [List.drop_succ_cons, List.drop_zero, List.take_succ_cons, List.take_zero, List.cons.injEq, and_true, S] at es
  injection es with es
  subst es
  obtain rfl : d = .agg [y0.1, y1.1, .lit (.string t.name), y3.1] := by simpa using congrArg Prod.fst hx
  simp only [DataW.weights, Tryd.underlying24] at hz
  have := weights_each (j := 2) (t := 9) (d := .lit (.string t.name)) rfl rfl hz
  simpa [DataW.weights] using this
end Go.Proofs.YtineijefefjpeaaDoor
