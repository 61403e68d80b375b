/-
  Code opened out of what is read. Conditions: those of each theorem.
-/
import Derived.Test.YtlihpgjabohebaaDoorCtext1
import Derived.Test.YtlihpgjabohebaaDoorBulk
import Derived.Lib.ItoaLen
import Derived.ChangeArms
namespace Go.Proofs.YtlihpgjabohebaaDoor
set_option linter.all false
set_option maxRecDepth 4000
open Go.RowKit Go.WideShapes Go.ChangeShapes Go.Deep Go.WideElems Go.ChangeAt Go.ChangeMaps
theorem sum_two (l : List Str) : (l.map fun x => x.length + 2).sum ≤ 2 * (l.map fun s => s.length + 1).sum := by
  induction l with
  | nil => simp
  | cons x xs ih => simp only [List.map_cons, List.sum_cons]; omega
theorem strs_open {H : Type} {enc : TypeId × Value → H} {W : World} {base : Nat} {spare : Nat → Bool} {held : Bool} {n : Nat} {cs : List Value} {x : DataW H × List MemPlace} (h : DataW.trod enc Tryd.prog W base spare held n 29 cs = some x) :
    ∃ o c l, cs = [.slice o l.length c] ∧ Strs (snap W) o l.length c l ∧ (l.map fun x => x.length + 2).sum ≤ 2 * Rows.uptoBulk x.1 := by
  obtain ⟨o, q, c, l, el, hsl, hc, bl⟩ := sl_open (R := fun _ vs (x : Str) => vs = [S x]) (β := fun s => s.length + 1) (sz := 1) (Rows.uptoBulk x.1) Tryd.underlying29 (by kernel_rfl) (by omega)
    (fun n cs x _ ht _ => by obtain ⟨s, es, _, bs⟩ := str_open Tryd.underlying9 ht; exact ⟨s, es, by omega⟩) h (Nat.le_refl _)
  obtain rfl := hsl.len
  exact ⟨o, c, l, el, hsl, by have := sum_two l; omega⟩
theorem itoa_len {n : Int} (h : InI64 n) : (Go.Lib.itoa n).length ≤ 21 := Go.Lib.itoa_length_le n h.1 h.2
theorem cd_open {H : Type} {enc : TypeId × Value → H} {W : World} {base : Nat} {spare : Nat → Bool} {held : Bool} : ∀ (B : Nat), (∀ (n : Nat) (cs : List Value) (x : DataW H × List MemPlace), Rows.uptoBulk x.1 ≤ B → DataW.trod enc Tryd.prog W base spare held n 25 cs = some x → ∃ t : Cd, CdR (snap W) t cs ∧ bulkC t ≤ 60 * Rows.uptoBulk x.1) ∧ (∀ (n : Nat) (cs : List Value) (x : DataW H × List MemPlace), Rows.uptoBulk x.1 ≤ B → DataW.trod enc Tryd.prog W base spare held n 35 cs = some x → ∃ a : Ca, CaR (snap W) a cs ∧ 30 + a.name.length + (a.vars.map fun x => x.length + 2).sum + bulkC a.body ≤ 60 * Rows.uptoBulk x.1) := by
  intro B
  induction B with
  | zero => exact ⟨fun n cs x hB h => absurd (one_bulk x.1) (by omega), fun n cs x hB h => absurd (one_bulk x.1) (by omega)⟩
  | succ B ih =>
    refine ⟨fun n cs x hB h => ?_, fun n cs x hB h => ?_⟩
    · obtain ⟨tn, tys, thl, hx, thcl, thf⟩ := struct_open Tryd.underlying25 h
      obtain ⟨ty0, te0, th0⟩ := thf 0 _ rfl
      obtain ⟨ty1, te1, th1⟩ := thf 1 _ rfl
      obtain ⟨ty2, te2, th2⟩ := thf 2 _ rfl
      obtain ⟨ty3, te3, th3⟩ := thf 3 _ rfl
      obtain ⟨ty4, te4, th4⟩ := thf 4 _ rfl
      obtain ⟨ty5, te5, th5⟩ := thf 5 _ rfl
      have thcl2 : (cs : List Value).length = 6 := thcl.trans (by kernel_rfl)
      obtain ⟨tc0, tc1, tc2, tc3, tc4, tc5, rfl⟩ : ∃ tc0 tc1 tc2 tc3 tc4 tc5, cs = [tc0, tc1, tc2, tc3, tc4, tc5] := by match cs, thcl2 with | [a0, a1, a2, a3, a4, a5], _ => exact ⟨_, _, _, _, _, _, rfl⟩
      change DataW.trod enc Tryd.prog W base spare held tn 3 (([tc0, tc1, tc2, tc3, tc4, tc5].drop 0).take (Tryd.prog.cellsOf 3)) = some ty0 at th0
      rw [show Tryd.prog.cellsOf 3 = 1 by kernel_rfl] at th0
      change DataW.trod enc Tryd.prog W base spare held tn 3 [tc0] = some ty0 at th0
      change DataW.trod enc Tryd.prog W base spare held tn 9 (([tc0, tc1, tc2, tc3, tc4, tc5].drop 1).take (Tryd.prog.cellsOf 9)) = some ty1 at th1
      rw [show Tryd.prog.cellsOf 9 = 1 by kernel_rfl] at th1
      change DataW.trod enc Tryd.prog W base spare held tn 9 [tc1] = some ty1 at th1
      change DataW.trod enc Tryd.prog W base spare held tn 9 (([tc0, tc1, tc2, tc3, tc4, tc5].drop 2).take (Tryd.prog.cellsOf 9)) = some ty2 at th2
      rw [show Tryd.prog.cellsOf 9 = 1 by kernel_rfl] at th2
      change DataW.trod enc Tryd.prog W base spare held tn 9 [tc2] = some ty2 at th2
      change DataW.trod enc Tryd.prog W base spare held tn 3 (([tc0, tc1, tc2, tc3, tc4, tc5].drop 3).take (Tryd.prog.cellsOf 3)) = some ty3 at th3
      rw [show Tryd.prog.cellsOf 3 = 1 by kernel_rfl] at th3
      change DataW.trod enc Tryd.prog W base spare held tn 3 [tc3] = some ty3 at th3
      change DataW.trod enc Tryd.prog W base spare held tn 22 (([tc0, tc1, tc2, tc3, tc4, tc5].drop 4).take (Tryd.prog.cellsOf 22)) = some ty4 at th4
      rw [show Tryd.prog.cellsOf 22 = 1 by kernel_rfl] at th4
      change DataW.trod enc Tryd.prog W base spare held tn 22 [tc4] = some ty4 at th4
      change DataW.trod enc Tryd.prog W base spare held tn 23 (([tc0, tc1, tc2, tc3, tc4, tc5].drop 5).take (Tryd.prog.cellsOf 23)) = some ty5 at th5
      rw [show Tryd.prog.cellsOf 23 = 1 by kernel_rfl] at th5
      change DataW.trod enc Tryd.prog W base spare held tn 23 [tc5] = some ty5 at th5
      have thys : tys = [ty0, ty1, ty2, ty3, ty4, ty5] := by
        match tys, thl with
        | [q0, q1, q2, q3, q4, q5], _ => simp at te0 te1 te2 te3 te4 te5; subst te0 te1 te2 te3 te4 te5; rfl
      subst thys; simp only [List.map_cons, List.map_nil, Rows.uptoBulkAll] at hx
      obtain ⟨k, e_k, h_k, b_k⟩ := int_open Tryd.underlying3 th0; injection e_k with e_k; subst e_k
      obtain ⟨s, e_s, h_s, b_s⟩ := str_open Tryd.underlying9 th1; injection e_s with e_s; subst e_s
      obtain ⟨p, e_p, h_p, b_p⟩ := str_open Tryd.underlying9 th2; injection e_p with e_p; subst e_p
      obtain ⟨nn, e_nn, h_nn, b_nn⟩ := int_open Tryd.underlying3 th3; injection e_nn with e_nn; subst e_nn
      obtain ⟨o, q, cc, l, el2, hsl, hc, bl⟩ := sl_open (R := fun m vs t => CdR m t vs ∧ bulkC t ≤ 60 * Rows.uptoBulk ty4.1) (β := fun t => (bulkC t + 59) / 60) (sz := 6) (Rows.uptoBulk ty4.1) Tryd.underlying22 (by kernel_rfl) (by omega)
        (fun n cs x hx9 ht _ => by obtain ⟨t, h1, h2⟩ := ih.1 n cs x (by omega) ht; exact ⟨t, ⟨h1, by omega⟩, by omega⟩) th4 (Nat.le_refl _)
      obtain rfl := hsl.len
      injection el2 with el2; subst el2
      have hsl2 : Cds (snap W) o l.length cc l := ⟨rfl, hsl.cap, hsl.big, fun i x hx => by obtain ⟨p, vs, a1, a2, a3, a4⟩ := hsl.at_ i x hx; exact ⟨p, vs, a1, a2, a3, a4.1⟩⟩
      obtain ⟨o4, q4, c4, l4, el4, hsl4, hc4, bl4⟩ := sl_open (R := fun m vs a => CaR m a vs ∧ 30 + a.name.length + (a.vars.map fun x => x.length + 2).sum + bulkC a.body ≤ 60 * Rows.uptoBulk ty5.1) (β := fun a => (30 + a.name.length + (a.vars.map fun x => x.length + 2).sum + bulkC a.body + 59) / 60) (sz := 9) (Rows.uptoBulk ty5.1) Tryd.underlying23 (by kernel_rfl) (by omega)
        (fun n cs x hx9 ht _ => by obtain ⟨t, h1, h2⟩ := ih.2 n cs x (by omega) ht; exact ⟨t, ⟨h1, by omega⟩, by omega⟩) th5 (Nat.le_refl _)
      obtain rfl := hsl4.len
      injection el4 with el4; subst el4
      have hsl5 : Cas (snap W) o4 l4.length c4 l4 := ⟨rfl, hsl4.cap, hsl4.big, fun i x hx => by obtain ⟨p, vs, a1, a2, a3, a4⟩ := hsl4.at_ i x hx; exact ⟨p, vs, a1, a2, a3, a4.1⟩⟩
      have key : ∀ l : List Cd, bulkKs l ≤ 60 * (l.map fun t => (bulkC t + 59) / 60).sum := by
        intro l
        induction l with
        | nil => simp [bulkKs]
        | cons x xs ih => simp only [bulkKs, List.map_cons, List.sum_cons]; omega
      have key2 : ∀ l : List Ca, bulkAs l ≤ 60 * (l.map fun a => (30 + a.name.length + (a.vars.map fun x => x.length + 2).sum + bulkC a.body + 59) / 60).sum := by
        intro l
        induction l with
        | nil => simp [bulkAs]
        | cons x xs ih => rw [bulkAs_cons, List.map_cons, List.sum_cons]; omega
      have hk := key l; have hk2 := key2 l4; have hit := itoa_len h_nn
      refine ⟨⟨k, s, p, nn, l, l4⟩, CdR.build (y := ⟨o, cc, o4, c4⟩) h_k h_nn hsl2 hsl5, ?_⟩
      rw [bulkC]; omega
    · obtain ⟨tn, tys, thl, hx, thcl, thf⟩ := struct_open Tryd.underlying35 h
      obtain ⟨ty0, te0, th0⟩ := thf 0 _ rfl
      obtain ⟨ty1, te1, th1⟩ := thf 1 _ rfl
      obtain ⟨ty2, te2, th2⟩ := thf 2 _ rfl
      obtain ⟨ty3, te3, th3⟩ := thf 3 _ rfl
      have thcl2 : (cs : List Value).length = 9 := thcl.trans (by kernel_rfl)
      obtain ⟨tc0, tc1, tc2, tc3, tc4, tc5, tc6, tc7, tc8, rfl⟩ : ∃ tc0 tc1 tc2 tc3 tc4 tc5 tc6 tc7 tc8, cs = [tc0, tc1, tc2, tc3, tc4, tc5, tc6, tc7, tc8] := by match cs, thcl2 with | [a0, a1, a2, a3, a4, a5, a6, a7, a8], _ => exact ⟨_, _, _, _, _, _, _, _, _, rfl⟩
      change DataW.trod enc Tryd.prog W base spare held tn 9 (([tc0, tc1, tc2, tc3, tc4, tc5, tc6, tc7, tc8].drop 0).take (Tryd.prog.cellsOf 9)) = some ty0 at th0
      rw [show Tryd.prog.cellsOf 9 = 1 by kernel_rfl] at th0
      change DataW.trod enc Tryd.prog W base spare held tn 9 [tc0] = some ty0 at th0
      change DataW.trod enc Tryd.prog W base spare held tn 29 (([tc0, tc1, tc2, tc3, tc4, tc5, tc6, tc7, tc8].drop 1).take (Tryd.prog.cellsOf 29)) = some ty1 at th1
      rw [show Tryd.prog.cellsOf 29 = 1 by kernel_rfl] at th1
      change DataW.trod enc Tryd.prog W base spare held tn 29 [tc1] = some ty1 at th1
      change DataW.trod enc Tryd.prog W base spare held tn 4 (([tc0, tc1, tc2, tc3, tc4, tc5, tc6, tc7, tc8].drop 2).take (Tryd.prog.cellsOf 4)) = some ty2 at th2
      rw [show Tryd.prog.cellsOf 4 = 1 by kernel_rfl] at th2
      change DataW.trod enc Tryd.prog W base spare held tn 4 [tc2] = some ty2 at th2
      change DataW.trod enc Tryd.prog W base spare held tn 25 (([tc0, tc1, tc2, tc3, tc4, tc5, tc6, tc7, tc8].drop 3).take (Tryd.prog.cellsOf 25)) = some ty3 at th3
      rw [show Tryd.prog.cellsOf 25 = 6 by kernel_rfl] at th3
      change DataW.trod enc Tryd.prog W base spare held tn 25 [tc3, tc4, tc5, tc6, tc7, tc8] = some ty3 at th3
      have thys : tys = [ty0, ty1, ty2, ty3] := by
        match tys, thl with
        | [q0, q1, q2, q3], _ => simp at te0 te1 te2 te3; subst te0 te1 te2 te3; rfl
      subst thys; simp only [List.map_cons, List.map_nil, Rows.uptoBulkAll] at hx
      obtain ⟨s, e_s, h_s, b_s⟩ := str_open Tryd.underlying9 th0; injection e_s with e_s; subst e_s
      obtain ⟨o, c, l, e1, hs, hb⟩ := strs_open th1; injection e1 with e1; subst e1
      obtain ⟨tl, e2, b2⟩ := DataW.trod_bool Tryd.underlying4 th2; injection e2 with e2; subst e2
      have ob2 := one_bulk ty2.1
      obtain ⟨b, hbt, hbb⟩ := ih.1 _ _ _ (by omega) th3
      exact ⟨⟨s, l, tl, b⟩, ⟨_, _, _, rfl, hs, hbt⟩, by simp only [Ca.name, Ca.vars, Ca.body]; omega⟩
theorem open_Cd {H : Type} {enc : TypeId × Value → H} {W : World} {base : Nat} {spare : Nat → Bool} {held : Bool} {r : Reach} {b0 : Nat} {v : Value} {d : DataW H} {ps : List MemPlace} (hval : Value.okWide Tryd.prog W r b0 25 v) (hd : DataW.Trod enc Tryd.prog W base spare held 25 v d ps) :
    ∃ vs t, v = .agg vs.toArray ∧ CdR (snap W) t vs ∧ bulkC t ≤ 60 * Rows.uptoBulk d := by
  obtain ⟨cs, rfl, _⟩ := okWide_struct Tryd.underlying25 hval
  obtain ⟨fuel, hf⟩ := hd
  obtain ⟨t, h1, h2⟩ := (cd_open _).1 _ _ _ (Nat.le_refl _) hf
  exact ⟨cs.toList, t, rfl, h1, h2⟩
theorem open_B {H : Type} {enc : TypeId × Value → H} {W : World} {base : Nat} {spare : Nat → Bool} {held : Bool} {r : Reach} {b0 : Nat} {t : TypeId} {v : Value} {d : DataW H} {ps : List MemPlace} (ht : Tryd.prog.underlying t = some .bool) (hval : Value.okWide Tryd.prog W r b0 t v) (hd : DataW.Trod enc Tryd.prog W base spare held t v d ps) : ∃ b : Bool, v = .bool b := by
  obtain ⟨b, rfl, _⟩ := open_bool ht hval hd
  exact ⟨b, rfl⟩
end Go.Proofs.YtlihpgjabohebaaDoor
