/-
  Programs opened out of what is read. Conditions: those of each theorem.
-/
import Derived.Test.YtppmbhjacjmfkaaCheck1
import Derived.Test.YtppmbhjacjmfkaaBulk
import Derived.Test.YtppmbhjacjmfkaaTmtree
namespace Go.Proofs.Ytppmbhjacjmfkaa
set_option linter.all false
set_option maxRecDepth 4000
open Go.RowKit Go.WideShapes Go.ChangeShapes Go.Deep Go.WideElems Go.ChangeAt Go.ChangeMaps
theorem sum_two (l : List Str) : (l.map fun x => x.length + 2).sum ≤ 2 * (l.map fun s => s.length + 1).sum := by
  induction l with
  | nil => simp
  | cons x xs ih => simp only [List.map_cons, List.sum_cons]; omega
theorem strs_open {H : Type} {enc : TypeId × Value → H} {W : World} {base : Nat} {spare : Nat → Bool} {held : Bool} {n : Nat} {cs : List Value} {x : DataW H × List MemPlace} (h : DataW.trod enc Try.prog W base spare held n 27 cs = some x) :
    ∃ o c l, cs = [.slice o l.length c] ∧ Strs (snap W) o l.length c l ∧ (l.map fun x => x.length + 2).sum ≤ 2 * Rows.uptoBulk x.1 := by
  obtain ⟨o, q, c, l, el, hsl, hc, bl⟩ := sl_open (R := fun _ vs (x : Str) => vs = [S x]) (β := fun s => s.length + 1) (sz := 1) (Rows.uptoBulk x.1) Try.underlying27 (by kernel_rfl) (by omega)
    (fun n cs x _ ht _ => by obtain ⟨s, es, _, bs⟩ := str_open Try.underlying9 ht; exact ⟨s, es, by omega⟩) h (Nat.le_refl _)
  obtain rfl := hsl.len
  exact ⟨o, c, l, el, hsl, by have := sum_two l; omega⟩
theorem bulkAs_c (a : Ar) (ts : List Ar) : bulkAs (a :: ts) = a.name.length + (a.vars.map fun x => x.length + 2).sum + bulkM a.body + bulkAs ts := by obtain ⟨s, l, b⟩ := a; rw [bulkAs]; rfl
theorem ones_sum {α : Type} (l : List α) : (l.map fun _ => 1).sum = l.length := by induction l with | nil => rfl | cons x xs ih => rw [List.map_cons, List.sum_cons, ih, List.length_cons, Nat.add_comm]
theorem zero_sum {α : Type} (l : List α) : (l.map fun _ => 0).sum = 0 := by induction l with | nil => rfl | cons x xs ih => simp [ih]
theorem rw_open {H : Type} {enc : TypeId × Value → H} {W : World} {base : Nat} {spare : Nat → Bool} {held : Bool} {n : Nat} {cs : List Value} {x : DataW H × List MemPlace} (h : DataW.trod enc Try.prog W base spare held n 29 cs = some x) : ∃ r : Rw, RwR (snap W) r cs := by
  obtain ⟨rn, rys, rhl, hx, rhcl, rhf⟩ := struct_open Try.underlying29 h
  obtain ⟨ry0, re0, rh0⟩ := rhf 0 _ rfl
  obtain ⟨ry1, re1, rh1⟩ := rhf 1 _ rfl
  have rhcl2 : (cs : List Value).length = 2 := rhcl.trans (by kernel_rfl)
  obtain ⟨rc0, rc1, rfl⟩ : ∃ rc0 rc1, cs = [rc0, rc1] := by match cs, rhcl2 with | [a0, a1], _ => exact ⟨_, _, rfl⟩
  change DataW.trod enc Try.prog W base spare held rn 27 (([rc0, rc1].drop 0).take (Try.prog.cellsOf 27)) = some ry0 at rh0
  rw [show Try.prog.cellsOf 27 = 1 by kernel_rfl] at rh0
  change DataW.trod enc Try.prog W base spare held rn 27 [rc0] = some ry0 at rh0
  change DataW.trod enc Try.prog W base spare held rn 3 (([rc0, rc1].drop 1).take (Try.prog.cellsOf 3)) = some ry1 at rh1
  rw [show Try.prog.cellsOf 3 = 1 by kernel_rfl] at rh1
  change DataW.trod enc Try.prog W base spare held rn 3 [rc1] = some ry1 at rh1
  have rhys : rys = [ry0, ry1] := by
    match rys, rhl with
    | [q0, q1], _ => simp at re0 re1; subst re0 re1; rfl
  subst rhys; simp only [List.map_cons, List.map_nil, Rows.uptoBulkAll] at hx
  obtain ⟨o, c, ls, e1, hs, _⟩ := strs_open rh0; injection e1 with e1; subst e1
  obtain ⟨v, e_v, h_v, b_v⟩ := int_open Try.underlying3 rh1; injection e_v with e_v; subst e_v
  exact ⟨⟨ls, v⟩, _, _, rfl, hs, h_v⟩
theorem ty_open {H : Type} {enc : TypeId × Value → H} {W : World} {base : Nat} {spare : Nat → Bool} {held : Bool} : ∀ (B n : Nat) (cs : List Value) (x : DataW H × List MemPlace), Rows.uptoBulk x.1 ≤ B → DataW.trod enc Try.prog W base spare held n 31 cs = some x → ∃ t : Ty, TyR (snap W) t cs := by
  intro B
  induction B with
  | zero => intro n cs x hB h; exact absurd (one_bulk x.1) (by omega)
  | succ B ih =>
    intro n cs x hB h
    obtain ⟨tn, tys, thl, hx, thcl, thf⟩ := struct_open Try.underlying31 h
    obtain ⟨ty0, te0, th0⟩ := thf 0 _ rfl
    obtain ⟨ty1, te1, th1⟩ := thf 1 _ rfl
    obtain ⟨ty2, te2, th2⟩ := thf 2 _ rfl
    obtain ⟨ty3, te3, th3⟩ := thf 3 _ rfl
    obtain ⟨ty4, te4, th4⟩ := thf 4 _ rfl
    have thcl2 : (cs : List Value).length = 6 := thcl.trans (by kernel_rfl)
    obtain ⟨tc0, tc1, tc2, tc3, tc4, tc5, rfl⟩ : ∃ tc0 tc1 tc2 tc3 tc4 tc5, cs = [tc0, tc1, tc2, tc3, tc4, tc5] := by match cs, thcl2 with | [a0, a1, a2, a3, a4, a5], _ => exact ⟨_, _, _, _, _, _, rfl⟩
    change DataW.trod enc Try.prog W base spare held tn 3 (([tc0, tc1, tc2, tc3, tc4, tc5].drop 0).take (Try.prog.cellsOf 3)) = some ty0 at th0
    rw [show Try.prog.cellsOf 3 = 1 by kernel_rfl] at th0
    change DataW.trod enc Try.prog W base spare held tn 3 [tc0] = some ty0 at th0
    change DataW.trod enc Try.prog W base spare held tn 9 (([tc0, tc1, tc2, tc3, tc4, tc5].drop 1).take (Try.prog.cellsOf 9)) = some ty1 at th1
    rw [show Try.prog.cellsOf 9 = 1 by kernel_rfl] at th1
    change DataW.trod enc Try.prog W base spare held tn 9 [tc1] = some ty1 at th1
    change DataW.trod enc Try.prog W base spare held tn 3 (([tc0, tc1, tc2, tc3, tc4, tc5].drop 2).take (Try.prog.cellsOf 3)) = some ty2 at th2
    rw [show Try.prog.cellsOf 3 = 1 by kernel_rfl] at th2
    change DataW.trod enc Try.prog W base spare held tn 3 [tc2] = some ty2 at th2
    change DataW.trod enc Try.prog W base spare held tn 26 (([tc0, tc1, tc2, tc3, tc4, tc5].drop 3).take (Try.prog.cellsOf 26)) = some ty3 at th3
    rw [show Try.prog.cellsOf 26 = 1 by kernel_rfl] at th3
    change DataW.trod enc Try.prog W base spare held tn 26 [tc3] = some ty3 at th3
    change DataW.trod enc Try.prog W base spare held tn 29 (([tc0, tc1, tc2, tc3, tc4, tc5].drop 4).take (Try.prog.cellsOf 29)) = some ty4 at th4
    rw [show Try.prog.cellsOf 29 = 2 by kernel_rfl] at th4
    change DataW.trod enc Try.prog W base spare held tn 29 [tc4, tc5] = some ty4 at th4
    have thys : tys = [ty0, ty1, ty2, ty3, ty4] := by
      match tys, thl with
      | [q0, q1, q2, q3, q4], _ => simp at te0 te1 te2 te3 te4; subst te0 te1 te2 te3 te4; rfl
    subst thys; simp only [List.map_cons, List.map_nil, Rows.uptoBulkAll] at hx
    obtain ⟨k, e_k, h_k, b_k⟩ := int_open Try.underlying3 th0; injection e_k with e_k; subst e_k
    obtain ⟨s, e_s, h_s, b_s⟩ := str_open Try.underlying9 th1; injection e_s with e_s; subst e_s
    obtain ⟨v, e_v, h_v, b_v⟩ := int_open Try.underlying3 th2; injection e_v with e_v; subst e_v
    obtain ⟨rn, rys, rhl, hx2, rhcl, rhf⟩ := struct_open Try.underlying29 th4
    obtain ⟨ry0, re0, rh0⟩ := rhf 0 _ rfl
    obtain ⟨ry1, re1, rh1⟩ := rhf 1 _ rfl
    have rhcl2 : ([tc4, tc5] : List Value).length = 2 := rhcl.trans (by kernel_rfl)
    change DataW.trod enc Try.prog W base spare held rn 27 (([tc4, tc5].drop 0).take (Try.prog.cellsOf 27)) = some ry0 at rh0
    rw [show Try.prog.cellsOf 27 = 1 by kernel_rfl] at rh0
    change DataW.trod enc Try.prog W base spare held rn 27 [tc4] = some ry0 at rh0
    change DataW.trod enc Try.prog W base spare held rn 3 (([tc4, tc5].drop 1).take (Try.prog.cellsOf 3)) = some ry1 at rh1
    rw [show Try.prog.cellsOf 3 = 1 by kernel_rfl] at rh1
    change DataW.trod enc Try.prog W base spare held rn 3 [tc5] = some ry1 at rh1
    have rhys : rys = [ry0, ry1] := by
      match rys, rhl with
      | [q0, q1], _ => simp at re0 re1; subst re0 re1; rfl
    subst rhys; simp only [List.map_cons, List.map_nil, Rows.uptoBulkAll] at hx2
    obtain ⟨ol, cl, ls, el, hls, _⟩ := strs_open rh0; injection el with el; subst el
    obtain ⟨rv, e_rv, h_rv, b_rv⟩ := int_open Try.underlying3 rh1; injection e_rv with e_rv; subst e_rv
    obtain ⟨o, q, c, l, el2, hsl, hc, bl⟩ := sl_open (R := fun m vs t => TyR m t vs) (β := fun _ => 0) (sz := 6) (Rows.uptoBulk ty3.1) Try.underlying26 (by kernel_rfl) (by omega)
      (fun n cs x hx9 ht _ => by obtain ⟨t, h1⟩ := ih n cs x (by omega) ht; exact ⟨t, h1, Nat.zero_le _⟩) th3 (Nat.le_refl _)
    obtain rfl := hsl.len
    injection el2 with el2; subst el2
    exact ⟨⟨k, s, v, l, ls, rv⟩, TyR.build hsl hls h_k h_v h_rv⟩
theorem os_open {H : Type} {enc : TypeId × Value → H} {W : World} {base : Nat} {spare : Nat → Bool} {held : Bool} {n : Nat} {cs : List Value} {x : DataW H × List MemPlace} (h : DataW.trod enc Try.prog W base spare held n 85 cs = some x) : ∃ r : Os, OsR (snap W) r cs := by
  obtain ⟨sn, sys, shl, hx, shcl, shf⟩ := struct_open Try.underlying85 h
  obtain ⟨sy0, se0, sh0⟩ := shf 0 _ rfl
  obtain ⟨sy1, se1, sh1⟩ := shf 1 _ rfl
  obtain ⟨sy2, se2, sh2⟩ := shf 2 _ rfl
  have shcl2 : (cs : List Value).length = 13 := shcl.trans (by kernel_rfl)
  obtain ⟨sc0, sc1, sc2, sc3, sc4, sc5, sc6, sc7, sc8, sc9, sc10, sc11, sc12, rfl⟩ : ∃ sc0 sc1 sc2 sc3 sc4 sc5 sc6 sc7 sc8 sc9 sc10 sc11 sc12, cs = [sc0, sc1, sc2, sc3, sc4, sc5, sc6, sc7, sc8, sc9, sc10, sc11, sc12] := by match cs, shcl2 with | [a0, a1, a2, a3, a4, a5, a6, a7, a8, a9, a10, a11, a12], _ => exact ⟨_, _, _, _, _, _, _, _, _, _, _, _, _, rfl⟩
  change DataW.trod enc Try.prog W base spare held sn 9 (([sc0, sc1, sc2, sc3, sc4, sc5, sc6, sc7, sc8, sc9, sc10, sc11, sc12].drop 0).take (Try.prog.cellsOf 9)) = some sy0 at sh0
  rw [show Try.prog.cellsOf 9 = 1 by kernel_rfl] at sh0
  change DataW.trod enc Try.prog W base spare held sn 9 [sc0] = some sy0 at sh0
  change DataW.trod enc Try.prog W base spare held sn 31 (([sc0, sc1, sc2, sc3, sc4, sc5, sc6, sc7, sc8, sc9, sc10, sc11, sc12].drop 1).take (Try.prog.cellsOf 31)) = some sy1 at sh1
  rw [show Try.prog.cellsOf 31 = 6 by kernel_rfl] at sh1
  change DataW.trod enc Try.prog W base spare held sn 31 [sc1, sc2, sc3, sc4, sc5, sc6] = some sy1 at sh1
  change DataW.trod enc Try.prog W base spare held sn 31 (([sc0, sc1, sc2, sc3, sc4, sc5, sc6, sc7, sc8, sc9, sc10, sc11, sc12].drop 7).take (Try.prog.cellsOf 31)) = some sy2 at sh2
  rw [show Try.prog.cellsOf 31 = 6 by kernel_rfl] at sh2
  change DataW.trod enc Try.prog W base spare held sn 31 [sc7, sc8, sc9, sc10, sc11, sc12] = some sy2 at sh2
  have shys : sys = [sy0, sy1, sy2] := by
    match sys, shl with
    | [q0, q1, q2], _ => simp at se0 se1 se2; subst se0 se1 se2; rfl
  subst shys; simp only [List.map_cons, List.map_nil, Rows.uptoBulkAll] at hx
  obtain ⟨s, e_s, h_s, b_s⟩ := str_open Try.underlying9 sh0; injection e_s with e_s; subst e_s
  obtain ⟨a, ha⟩ := (ty_open _ _ _ _ (Nat.le_refl _) sh1)
  obtain ⟨r, hr⟩ := (ty_open _ _ _ _ (Nat.le_refl _) sh2)
  exact ⟨⟨s, a, r⟩, _, _, rfl, ha, hr⟩
theorem ef_open {H : Type} {enc : TypeId × Value → H} {W : World} {base : Nat} {spare : Nat → Bool} {held : Bool} {n : Nat} {cs : List Value} {x : DataW H × List MemPlace} (h : DataW.trod enc Try.prog W base spare held n 83 cs = some x) : ∃ r : Ef, EfR (snap W) r cs ∧ r.ops.length ≤ Rows.uptoBulk x.1 := by
  obtain ⟨sn, sys, shl, hx, shcl, shf⟩ := struct_open Try.underlying83 h
  obtain ⟨sy0, se0, sh0⟩ := shf 0 _ rfl
  obtain ⟨sy1, se1, sh1⟩ := shf 1 _ rfl
  have shcl2 : (cs : List Value).length = 2 := shcl.trans (by kernel_rfl)
  obtain ⟨sc0, sc1, rfl⟩ : ∃ sc0 sc1, cs = [sc0, sc1] := by match cs, shcl2 with | [a0, a1], _ => exact ⟨_, _, rfl⟩
  change DataW.trod enc Try.prog W base spare held sn 9 (([sc0, sc1].drop 0).take (Try.prog.cellsOf 9)) = some sy0 at sh0
  rw [show Try.prog.cellsOf 9 = 1 by kernel_rfl] at sh0
  change DataW.trod enc Try.prog W base spare held sn 9 [sc0] = some sy0 at sh0
  change DataW.trod enc Try.prog W base spare held sn 81 (([sc0, sc1].drop 1).take (Try.prog.cellsOf 81)) = some sy1 at sh1
  rw [show Try.prog.cellsOf 81 = 1 by kernel_rfl] at sh1
  change DataW.trod enc Try.prog W base spare held sn 81 [sc1] = some sy1 at sh1
  have shys : sys = [sy0, sy1] := by
    match sys, shl with
    | [q0, q1], _ => simp at se0 se1; subst se0 se1; rfl
  subst shys; simp only [List.map_cons, List.map_nil, Rows.uptoBulkAll] at hx
  obtain ⟨s, e_s, h_s, b_s⟩ := str_open Try.underlying9 sh0; injection e_s with e_s; subst e_s
  obtain ⟨o, q, c, l, el2, hsl, hc, bl⟩ := sl_open (R := fun m vs t => OsR m t vs) (β := fun _ => 1) (sz := 13) (Rows.uptoBulk sy1.1) Try.underlying81 (by kernel_rfl) (by omega)
    (fun n cs x hx9 ht _ => by obtain ⟨t, h1⟩ := os_open ht; exact ⟨t, h1, one_bulk _⟩) sh1 (Nat.le_refl _)
  obtain rfl := hsl.len
  injection el2 with el2; subst el2
  have h1 := ones_sum l
  exact ⟨⟨s, l⟩, ⟨_, _, rfl, hsl⟩, by show l.length ≤ _; omega⟩
theorem cs_open {H : Type} {enc : TypeId × Value → H} {W : World} {base : Nat} {spare : Nat → Bool} {held : Bool} {n : Nat} {cs : List Value} {x : DataW H × List MemPlace} (h : DataW.trod enc Try.prog W base spare held n 91 cs = some x) : ∃ r : Cs, CsR (snap W) r cs ∧ r.fields.length ≤ Rows.uptoBulk x.1 := by
  obtain ⟨sn, sys, shl, hx, shcl, shf⟩ := struct_open Try.underlying91 h
  obtain ⟨sy0, se0, sh0⟩ := shf 0 _ rfl
  obtain ⟨sy1, se1, sh1⟩ := shf 1 _ rfl
  have shcl2 : (cs : List Value).length = 2 := shcl.trans (by kernel_rfl)
  obtain ⟨sc0, sc1, rfl⟩ : ∃ sc0 sc1, cs = [sc0, sc1] := by match cs, shcl2 with | [a0, a1], _ => exact ⟨_, _, rfl⟩
  change DataW.trod enc Try.prog W base spare held sn 9 (([sc0, sc1].drop 0).take (Try.prog.cellsOf 9)) = some sy0 at sh0
  rw [show Try.prog.cellsOf 9 = 1 by kernel_rfl] at sh0
  change DataW.trod enc Try.prog W base spare held sn 9 [sc0] = some sy0 at sh0
  change DataW.trod enc Try.prog W base spare held sn 26 (([sc0, sc1].drop 1).take (Try.prog.cellsOf 26)) = some sy1 at sh1
  rw [show Try.prog.cellsOf 26 = 1 by kernel_rfl] at sh1
  change DataW.trod enc Try.prog W base spare held sn 26 [sc1] = some sy1 at sh1
  have shys : sys = [sy0, sy1] := by
    match sys, shl with
    | [q0, q1], _ => simp at se0 se1; subst se0 se1; rfl
  subst shys; simp only [List.map_cons, List.map_nil, Rows.uptoBulkAll] at hx
  obtain ⟨s, e_s, h_s, b_s⟩ := str_open Try.underlying9 sh0; injection e_s with e_s; subst e_s
  obtain ⟨o, q, c, l, el2, hsl, hc, bl⟩ := sl_open (R := fun m vs t => TyR m t vs) (β := fun _ => 1) (sz := 6) (Rows.uptoBulk sy1.1) Try.underlying26 (by kernel_rfl) (by omega)
    (fun n cs x hx9 ht _ => by obtain ⟨t, h1⟩ := (ty_open _ _ _ _ (Nat.le_refl _) ht); exact ⟨t, h1, one_bulk _⟩) sh1 (Nat.le_refl _)
  obtain rfl := hsl.len
  injection el2 with el2; subst el2
  have h1 := ones_sum l
  exact ⟨⟨s, l⟩, ⟨_, _, rfl, hsl⟩, by show l.length ≤ _; omega⟩
theorem da_open {H : Type} {enc : TypeId × Value → H} {W : World} {base : Nat} {spare : Nat → Bool} {held : Bool} {n : Nat} {cs : List Value} {x : DataW H × List MemPlace} (h : DataW.trod enc Try.prog W base spare held n 89 cs = some x) : ∃ r : Da, DaR (snap W) r cs ∧ r.cons.length ≤ Rows.uptoBulk x.1 := by
  obtain ⟨sn, sys, shl, hx, shcl, shf⟩ := struct_open Try.underlying89 h
  obtain ⟨sy0, se0, sh0⟩ := shf 0 _ rfl
  obtain ⟨sy1, se1, sh1⟩ := shf 1 _ rfl
  have shcl2 : (cs : List Value).length = 2 := shcl.trans (by kernel_rfl)
  obtain ⟨sc0, sc1, rfl⟩ : ∃ sc0 sc1, cs = [sc0, sc1] := by match cs, shcl2 with | [a0, a1], _ => exact ⟨_, _, rfl⟩
  change DataW.trod enc Try.prog W base spare held sn 9 (([sc0, sc1].drop 0).take (Try.prog.cellsOf 9)) = some sy0 at sh0
  rw [show Try.prog.cellsOf 9 = 1 by kernel_rfl] at sh0
  change DataW.trod enc Try.prog W base spare held sn 9 [sc0] = some sy0 at sh0
  change DataW.trod enc Try.prog W base spare held sn 87 (([sc0, sc1].drop 1).take (Try.prog.cellsOf 87)) = some sy1 at sh1
  rw [show Try.prog.cellsOf 87 = 1 by kernel_rfl] at sh1
  change DataW.trod enc Try.prog W base spare held sn 87 [sc1] = some sy1 at sh1
  have shys : sys = [sy0, sy1] := by
    match sys, shl with
    | [q0, q1], _ => simp at se0 se1; subst se0 se1; rfl
  subst shys; simp only [List.map_cons, List.map_nil, Rows.uptoBulkAll] at hx
  obtain ⟨s, e_s, h_s, b_s⟩ := str_open Try.underlying9 sh0; injection e_s with e_s; subst e_s
  obtain ⟨o, q, c, l, el2, hsl, hc, bl⟩ := sl_open (R := fun m vs t => CsR m t vs) (β := fun _ => 1) (sz := 2) (Rows.uptoBulk sy1.1) Try.underlying87 (by kernel_rfl) (by omega)
    (fun n cs x hx9 ht _ => by obtain ⟨t, h1, _⟩ := cs_open ht; exact ⟨t, h1, one_bulk _⟩) sh1 (Nat.le_refl _)
  obtain rfl := hsl.len
  injection el2 with el2; subst el2
  have h1 := ones_sum l
  exact ⟨⟨s, l⟩, ⟨_, _, rfl, hsl⟩, by show l.length ≤ _; omega⟩
theorem tm_open {H : Type} {enc : TypeId × Value → H} {W : World} {base : Nat} {spare : Nat → Bool} {held : Bool} : ∀ (B : Nat), (∀ (n : Nat) (cs : List Value) (x : DataW H × List MemPlace), Rows.uptoBulk x.1 ≤ B → DataW.trod enc Try.prog W base spare held n 33 cs = some x → ∃ t : Tm, TmR (snap W) t cs ∧ bulkM t ≤ 2 * Rows.uptoBulk x.1) ∧ (∀ (n : Nat) (cs : List Value) (x : DataW H × List MemPlace), Rows.uptoBulk x.1 ≤ B → DataW.trod enc Try.prog W base spare held n 40 cs = some x → ∃ a : Ar, ArR (snap W) a cs ∧ a.name.length + (a.vars.map fun x => x.length + 2).sum + bulkM a.body ≤ 2 * Rows.uptoBulk x.1) := by
  intro B
  induction B with
  | zero => exact ⟨fun n cs x hB h => absurd (one_bulk x.1) (by omega), fun n cs x hB h => absurd (one_bulk x.1) (by omega)⟩
  | succ B ih =>
    refine ⟨fun n cs x hB h => ?_, fun n cs x hB h => ?_⟩
    · obtain ⟨tn, tys, thl, hx, thcl, thf⟩ := struct_open Try.underlying33 h
      obtain ⟨ty0, te0, th0⟩ := thf 0 _ rfl
      obtain ⟨ty1, te1, th1⟩ := thf 1 _ rfl
      obtain ⟨ty2, te2, th2⟩ := thf 2 _ rfl
      obtain ⟨ty3, te3, th3⟩ := thf 3 _ rfl
      obtain ⟨ty4, te4, th4⟩ := thf 4 _ rfl
      obtain ⟨ty5, te5, th5⟩ := thf 5 _ rfl
      obtain ⟨ty6, te6, th6⟩ := thf 6 _ rfl
      obtain ⟨ty7, te7, th7⟩ := thf 7 _ rfl
      obtain ⟨ty8, te8, th8⟩ := thf 8 _ rfl
      obtain ⟨ty9, te9, th9⟩ := thf 9 _ rfl
      have thcl2 : (cs : List Value).length = 21 := thcl.trans (by kernel_rfl)
      obtain ⟨tc0, tc1, tc2, tc3, tc4, tc5, tc6, tc7, tc8, tc9, tc10, tc11, tc12, tc13, tc14, tc15, tc16, tc17, tc18, tc19, tc20, rfl⟩ : ∃ tc0 tc1 tc2 tc3 tc4 tc5 tc6 tc7 tc8 tc9 tc10 tc11 tc12 tc13 tc14 tc15 tc16 tc17 tc18 tc19 tc20, cs = [tc0, tc1, tc2, tc3, tc4, tc5, tc6, tc7, tc8, tc9, tc10, tc11, tc12, tc13, tc14, tc15, tc16, tc17, tc18, tc19, tc20] := by match cs, thcl2 with | [a0, a1, a2, a3, a4, a5, a6, a7, a8, a9, a10, a11, a12, a13, a14, a15, a16, a17, a18, a19, a20], _ => exact ⟨_, _, _, _, _, _, _, _, _, _, _, _, _, _, _, _, _, _, _, _, _, rfl⟩
      change DataW.trod enc Try.prog W base spare held tn 3 (([tc0, tc1, tc2, tc3, tc4, tc5, tc6, tc7, tc8, tc9, tc10, tc11, tc12, tc13, tc14, tc15, tc16, tc17, tc18, tc19, tc20].drop 0).take (Try.prog.cellsOf 3)) = some ty0 at th0
      rw [show Try.prog.cellsOf 3 = 1 by kernel_rfl] at th0
      change DataW.trod enc Try.prog W base spare held tn 3 [tc0] = some ty0 at th0
      change DataW.trod enc Try.prog W base spare held tn 3 (([tc0, tc1, tc2, tc3, tc4, tc5, tc6, tc7, tc8, tc9, tc10, tc11, tc12, tc13, tc14, tc15, tc16, tc17, tc18, tc19, tc20].drop 1).take (Try.prog.cellsOf 3)) = some ty1 at th1
      rw [show Try.prog.cellsOf 3 = 1 by kernel_rfl] at th1
      change DataW.trod enc Try.prog W base spare held tn 3 [tc1] = some ty1 at th1
      change DataW.trod enc Try.prog W base spare held tn 9 (([tc0, tc1, tc2, tc3, tc4, tc5, tc6, tc7, tc8, tc9, tc10, tc11, tc12, tc13, tc14, tc15, tc16, tc17, tc18, tc19, tc20].drop 2).take (Try.prog.cellsOf 9)) = some ty2 at th2
      rw [show Try.prog.cellsOf 9 = 1 by kernel_rfl] at th2
      change DataW.trod enc Try.prog W base spare held tn 9 [tc2] = some ty2 at th2
      change DataW.trod enc Try.prog W base spare held tn 9 (([tc0, tc1, tc2, tc3, tc4, tc5, tc6, tc7, tc8, tc9, tc10, tc11, tc12, tc13, tc14, tc15, tc16, tc17, tc18, tc19, tc20].drop 3).take (Try.prog.cellsOf 9)) = some ty3 at th3
      rw [show Try.prog.cellsOf 9 = 1 by kernel_rfl] at th3
      change DataW.trod enc Try.prog W base spare held tn 9 [tc3] = some ty3 at th3
      change DataW.trod enc Try.prog W base spare held tn 3 (([tc0, tc1, tc2, tc3, tc4, tc5, tc6, tc7, tc8, tc9, tc10, tc11, tc12, tc13, tc14, tc15, tc16, tc17, tc18, tc19, tc20].drop 4).take (Try.prog.cellsOf 3)) = some ty4 at th4
      rw [show Try.prog.cellsOf 3 = 1 by kernel_rfl] at th4
      change DataW.trod enc Try.prog W base spare held tn 3 [tc4] = some ty4 at th4
      change DataW.trod enc Try.prog W base spare held tn 24 (([tc0, tc1, tc2, tc3, tc4, tc5, tc6, tc7, tc8, tc9, tc10, tc11, tc12, tc13, tc14, tc15, tc16, tc17, tc18, tc19, tc20].drop 5).take (Try.prog.cellsOf 24)) = some ty5 at th5
      rw [show Try.prog.cellsOf 24 = 1 by kernel_rfl] at th5
      change DataW.trod enc Try.prog W base spare held tn 24 [tc5] = some ty5 at th5
      change DataW.trod enc Try.prog W base spare held tn 25 (([tc0, tc1, tc2, tc3, tc4, tc5, tc6, tc7, tc8, tc9, tc10, tc11, tc12, tc13, tc14, tc15, tc16, tc17, tc18, tc19, tc20].drop 6).take (Try.prog.cellsOf 25)) = some ty6 at th6
      rw [show Try.prog.cellsOf 25 = 1 by kernel_rfl] at th6
      change DataW.trod enc Try.prog W base spare held tn 25 [tc6] = some ty6 at th6
      change DataW.trod enc Try.prog W base spare held tn 31 (([tc0, tc1, tc2, tc3, tc4, tc5, tc6, tc7, tc8, tc9, tc10, tc11, tc12, tc13, tc14, tc15, tc16, tc17, tc18, tc19, tc20].drop 7).take (Try.prog.cellsOf 31)) = some ty7 at th7
      rw [show Try.prog.cellsOf 31 = 6 by kernel_rfl] at th7
      change DataW.trod enc Try.prog W base spare held tn 31 [tc7, tc8, tc9, tc10, tc11, tc12] = some ty7 at th7
      change DataW.trod enc Try.prog W base spare held tn 29 (([tc0, tc1, tc2, tc3, tc4, tc5, tc6, tc7, tc8, tc9, tc10, tc11, tc12, tc13, tc14, tc15, tc16, tc17, tc18, tc19, tc20].drop 13).take (Try.prog.cellsOf 29)) = some ty8 at th8
      rw [show Try.prog.cellsOf 29 = 2 by kernel_rfl] at th8
      change DataW.trod enc Try.prog W base spare held tn 29 [tc13, tc14] = some ty8 at th8
      change DataW.trod enc Try.prog W base spare held tn 31 (([tc0, tc1, tc2, tc3, tc4, tc5, tc6, tc7, tc8, tc9, tc10, tc11, tc12, tc13, tc14, tc15, tc16, tc17, tc18, tc19, tc20].drop 15).take (Try.prog.cellsOf 31)) = some ty9 at th9
      rw [show Try.prog.cellsOf 31 = 6 by kernel_rfl] at th9
      change DataW.trod enc Try.prog W base spare held tn 31 [tc15, tc16, tc17, tc18, tc19, tc20] = some ty9 at th9
      have thys : tys = [ty0, ty1, ty2, ty3, ty4, ty5, ty6, ty7, ty8, ty9] := by
        match tys, thl with
        | [q0, q1, q2, q3, q4, q5, q6, q7, q8, q9], _ => simp at te0 te1 te2 te3 te4 te5 te6 te7 te8 te9; subst te0 te1 te2 te3 te4 te5 te6 te7 te8 te9; rfl
      subst thys; simp only [List.map_cons, List.map_nil, Rows.uptoBulkAll] at hx
      obtain ⟨k, e_k, h_k, b_k⟩ := int_open Try.underlying3 th0; injection e_k with e_k; subst e_k
      obtain ⟨a, e_a, h_a, b_a⟩ := int_open Try.underlying3 th1; injection e_a with e_a; subst e_a
      obtain ⟨s, e_s, h_s, b_s⟩ := str_open Try.underlying9 th2; injection e_s with e_s; subst e_s
      obtain ⟨p, e_p, h_p, b_p⟩ := str_open Try.underlying9 th3; injection e_p with e_p; subst e_p
      obtain ⟨nn, e_nn, h_nn, b_nn⟩ := int_open Try.underlying3 th4; injection e_nn with e_nn; subst e_nn
      obtain ⟨ty, hty⟩ := (ty_open _ _ _ _ (Nat.le_refl _) th7)
      obtain ⟨rr, hrr⟩ := rw_open th8
      obtain ⟨tz, htz⟩ := (ty_open _ _ _ _ (Nat.le_refl _) th9)
      obtain ⟨o, q, cc, l, el2, hsl, hc, bl⟩ := sl_open (R := fun m vs t => TmR m t vs ∧ bulkM t ≤ 2 * Rows.uptoBulk ty5.1) (β := fun t => (bulkM t + 1) / 2) (sz := 21) (Rows.uptoBulk ty5.1) Try.underlying24 (by kernel_rfl) (by omega)
        (fun n cs x hx9 ht _ => by obtain ⟨t, h1, h2⟩ := ih.1 n cs x (by omega) ht; exact ⟨t, ⟨h1, by omega⟩, by omega⟩) th5 (Nat.le_refl _)
      obtain rfl := hsl.len
      injection el2 with el2; subst el2
      have hsl2 : Tms (snap W) o l.length cc l := ⟨rfl, hsl.cap, hsl.big, fun i x hx => by obtain ⟨p, vs, a1, a2, a3, a4⟩ := hsl.at_ i x hx; exact ⟨p, vs, a1, a2, a3, a4.1⟩⟩
      obtain ⟨o4, q4, c4, l4, el4, hsl4, hc4, bl4⟩ := sl_open (R := fun m vs a => ArR m a vs ∧ a.name.length + (a.vars.map fun x => x.length + 2).sum + bulkM a.body ≤ 2 * Rows.uptoBulk ty6.1) (β := fun a => (a.name.length + (a.vars.map fun x => x.length + 2).sum + bulkM a.body + 1) / 2) (sz := 23) (Rows.uptoBulk ty6.1) Try.underlying25 (by kernel_rfl) (by omega)
        (fun n cs x hx9 ht _ => by obtain ⟨t, h1, h2⟩ := ih.2 n cs x (by omega) ht; exact ⟨t, ⟨h1, by omega⟩, by omega⟩) th6 (Nat.le_refl _)
      obtain rfl := hsl4.len
      injection el4 with el4; subst el4
      have hsl5 : Ars (snap W) o4 l4.length c4 l4 := ⟨rfl, hsl4.cap, hsl4.big, fun i x hx => by obtain ⟨p, vs, a1, a2, a3, a4⟩ := hsl4.at_ i x hx; exact ⟨p, vs, a1, a2, a3, a4.1⟩⟩
      have key : ∀ l : List Tm, bulkKs l ≤ 2 * (l.map fun t => (bulkM t + 1) / 2).sum := by
        intro l
        induction l with
        | nil => simp [bulkKs]
        | cons x xs ih => simp only [bulkKs, List.map_cons, List.sum_cons]; omega
      have key2 : ∀ l : List Ar, bulkAs l ≤ 2 * (l.map fun a => (a.name.length + (a.vars.map fun x => x.length + 2).sum + bulkM a.body + 1) / 2).sum := by
        intro l
        induction l with
        | nil => simp [bulkAs]
        | cons x xs ih => rw [bulkAs_c, List.map_cons, List.sum_cons]; omega
      have hk := key l; have hk2 := key2 l4
      obtain ⟨o3, c3, e3, hs3, hv3⟩ := hrr
      simp only [List.cons.injEq, and_true] at e3
      obtain ⟨e3a, e3b⟩ := e3; subst e3a e3b
      have hone1 := RepR.one (R := fun m vs t => TyR m t vs) hty; have hone2 := RepR.one (R := fun m vs t => TyR m t vs) htz
      refine ⟨⟨k, a, s, p, nn, l, l4, rr⟩, TmR.build (y := ⟨o, cc, o4, c4, o3, c3, tc7, tc8, tc9, tc10, tc11, tc12, tc15, tc16, tc17, tc18, tc19, tc20⟩) ?_ hsl2 hsl5 ⟨_, _, rfl, hs3, hv3⟩, ?_⟩
      · unfold TmY.one
        simp only [List.all_cons, List.all_nil, Bool.and_true, Bool.and_eq_true] at hone1 hone2 ⊢
        exact ⟨hone1.1, hone1.2.1, hone1.2.2.1, hone1.2.2.2.1, hone1.2.2.2.2.1, hone1.2.2.2.2.2, hone2.1, hone2.2.1, hone2.2.2.1, hone2.2.2.2.1, hone2.2.2.2.2.1, hone2.2.2.2.2.2⟩
      · have e1 := one_bulk (H := H) ty0.1; rw [bulkM]; omega
    · obtain ⟨tn, tys, thl, hx, thcl, thf⟩ := struct_open Try.underlying40 h
      obtain ⟨ty0, te0, th0⟩ := thf 0 _ rfl
      obtain ⟨ty1, te1, th1⟩ := thf 1 _ rfl
      obtain ⟨ty2, te2, th2⟩ := thf 2 _ rfl
      have thcl2 : (cs : List Value).length = 23 := thcl.trans (by kernel_rfl)
      obtain ⟨tc0, tc1, tc2, tc3, tc4, tc5, tc6, tc7, tc8, tc9, tc10, tc11, tc12, tc13, tc14, tc15, tc16, tc17, tc18, tc19, tc20, tc21, tc22, rfl⟩ : ∃ tc0 tc1 tc2 tc3 tc4 tc5 tc6 tc7 tc8 tc9 tc10 tc11 tc12 tc13 tc14 tc15 tc16 tc17 tc18 tc19 tc20 tc21 tc22, cs = [tc0, tc1, tc2, tc3, tc4, tc5, tc6, tc7, tc8, tc9, tc10, tc11, tc12, tc13, tc14, tc15, tc16, tc17, tc18, tc19, tc20, tc21, tc22] := by match cs, thcl2 with | [a0, a1, a2, a3, a4, a5, a6, a7, a8, a9, a10, a11, a12, a13, a14, a15, a16, a17, a18, a19, a20, a21, a22], _ => exact ⟨_, _, _, _, _, _, _, _, _, _, _, _, _, _, _, _, _, _, _, _, _, _, _, rfl⟩
      change DataW.trod enc Try.prog W base spare held tn 9 (([tc0, tc1, tc2, tc3, tc4, tc5, tc6, tc7, tc8, tc9, tc10, tc11, tc12, tc13, tc14, tc15, tc16, tc17, tc18, tc19, tc20, tc21, tc22].drop 0).take (Try.prog.cellsOf 9)) = some ty0 at th0
      rw [show Try.prog.cellsOf 9 = 1 by kernel_rfl] at th0
      change DataW.trod enc Try.prog W base spare held tn 9 [tc0] = some ty0 at th0
      change DataW.trod enc Try.prog W base spare held tn 27 (([tc0, tc1, tc2, tc3, tc4, tc5, tc6, tc7, tc8, tc9, tc10, tc11, tc12, tc13, tc14, tc15, tc16, tc17, tc18, tc19, tc20, tc21, tc22].drop 1).take (Try.prog.cellsOf 27)) = some ty1 at th1
      rw [show Try.prog.cellsOf 27 = 1 by kernel_rfl] at th1
      change DataW.trod enc Try.prog W base spare held tn 27 [tc1] = some ty1 at th1
      change DataW.trod enc Try.prog W base spare held tn 33 (([tc0, tc1, tc2, tc3, tc4, tc5, tc6, tc7, tc8, tc9, tc10, tc11, tc12, tc13, tc14, tc15, tc16, tc17, tc18, tc19, tc20, tc21, tc22].drop 2).take (Try.prog.cellsOf 33)) = some ty2 at th2
      rw [show Try.prog.cellsOf 33 = 21 by kernel_rfl] at th2
      change DataW.trod enc Try.prog W base spare held tn 33 [tc2, tc3, tc4, tc5, tc6, tc7, tc8, tc9, tc10, tc11, tc12, tc13, tc14, tc15, tc16, tc17, tc18, tc19, tc20, tc21, tc22] = some ty2 at th2
      have thys : tys = [ty0, ty1, ty2] := by
        match tys, thl with
        | [q0, q1, q2], _ => simp at te0 te1 te2; subst te0 te1 te2; rfl
      subst thys; simp only [List.map_cons, List.map_nil, Rows.uptoBulkAll] at hx
      obtain ⟨s, e_s, h_s, b_s⟩ := str_open Try.underlying9 th0; injection e_s with e_s; subst e_s
      obtain ⟨o, c, l, e1, hs, hb⟩ := strs_open th1; injection e1 with e1; subst e1
      obtain ⟨b, hbt, hbb⟩ := ih.1 _ _ _ (by omega) th2
      exact ⟨⟨s, l, b⟩, ⟨_, _, _, rfl, hs, hbt⟩, by simp only [Ar.name, Ar.vars, Ar.body]; omega⟩
theorem pg_open {H : Type} {enc : TypeId × Value → H} {W : World} {base : Nat} {spare : Nat → Bool} {held : Bool} {n : Nat} {cs : List Value} {x : DataW H × List MemPlace} (h : DataW.trod enc Try.prog W base spare held n 35 cs = some x) : ∃ p : Pg, PgR (snap W) p cs ∧ opsN p.effects ≤ Rows.uptoBulk x.1 ∧ consN p.datas ≤ Rows.uptoBulk x.1 ∧ p.datas.length ≤ Rows.uptoBulk x.1 ∧ bulkM p.body ≤ 2 * Rows.uptoBulk x.1 := by
  obtain ⟨tn, tys, thl, hx, thcl, thf⟩ := struct_open Try.underlying35 h
  obtain ⟨ty0, te0, th0⟩ := thf 0 _ rfl
  obtain ⟨ty1, te1, th1⟩ := thf 1 _ rfl
  obtain ⟨ty2, te2, th2⟩ := thf 2 _ rfl
  have thcl2 : (cs : List Value).length = 23 := thcl.trans (by kernel_rfl)
  obtain ⟨tc0, tc1, tc2, tc3, tc4, tc5, tc6, tc7, tc8, tc9, tc10, tc11, tc12, tc13, tc14, tc15, tc16, tc17, tc18, tc19, tc20, tc21, tc22, rfl⟩ : ∃ tc0 tc1 tc2 tc3 tc4 tc5 tc6 tc7 tc8 tc9 tc10 tc11 tc12 tc13 tc14 tc15 tc16 tc17 tc18 tc19 tc20 tc21 tc22, cs = [tc0, tc1, tc2, tc3, tc4, tc5, tc6, tc7, tc8, tc9, tc10, tc11, tc12, tc13, tc14, tc15, tc16, tc17, tc18, tc19, tc20, tc21, tc22] := by match cs, thcl2 with | [a0, a1, a2, a3, a4, a5, a6, a7, a8, a9, a10, a11, a12, a13, a14, a15, a16, a17, a18, a19, a20, a21, a22], _ => exact ⟨_, _, _, _, _, _, _, _, _, _, _, _, _, _, _, _, _, _, _, _, _, _, _, rfl⟩
  change DataW.trod enc Try.prog W base spare held tn 22 (([tc0, tc1, tc2, tc3, tc4, tc5, tc6, tc7, tc8, tc9, tc10, tc11, tc12, tc13, tc14, tc15, tc16, tc17, tc18, tc19, tc20, tc21, tc22].drop 0).take (Try.prog.cellsOf 22)) = some ty0 at th0
  rw [show Try.prog.cellsOf 22 = 1 by kernel_rfl] at th0
  change DataW.trod enc Try.prog W base spare held tn 22 [tc0] = some ty0 at th0
  change DataW.trod enc Try.prog W base spare held tn 23 (([tc0, tc1, tc2, tc3, tc4, tc5, tc6, tc7, tc8, tc9, tc10, tc11, tc12, tc13, tc14, tc15, tc16, tc17, tc18, tc19, tc20, tc21, tc22].drop 1).take (Try.prog.cellsOf 23)) = some ty1 at th1
  rw [show Try.prog.cellsOf 23 = 1 by kernel_rfl] at th1
  change DataW.trod enc Try.prog W base spare held tn 23 [tc1] = some ty1 at th1
  change DataW.trod enc Try.prog W base spare held tn 33 (([tc0, tc1, tc2, tc3, tc4, tc5, tc6, tc7, tc8, tc9, tc10, tc11, tc12, tc13, tc14, tc15, tc16, tc17, tc18, tc19, tc20, tc21, tc22].drop 2).take (Try.prog.cellsOf 33)) = some ty2 at th2
  rw [show Try.prog.cellsOf 33 = 21 by kernel_rfl] at th2
  change DataW.trod enc Try.prog W base spare held tn 33 [tc2, tc3, tc4, tc5, tc6, tc7, tc8, tc9, tc10, tc11, tc12, tc13, tc14, tc15, tc16, tc17, tc18, tc19, tc20, tc21, tc22] = some ty2 at th2
  have thys : tys = [ty0, ty1, ty2] := by
    match tys, thl with
    | [q0, q1, q2], _ => simp at te0 te1 te2; subst te0 te1 te2; rfl
  subst thys; simp only [List.map_cons, List.map_nil, Rows.uptoBulkAll] at hx
  obtain ⟨o, q, cc, l, el2, hsl, hc, bl⟩ := sl_open (R := fun m vs t => EfR m t vs) (β := fun e => e.ops.length) (sz := 2) (Rows.uptoBulk ty0.1) Try.underlying22 (by kernel_rfl) (by omega) (fun n cs x hx9 ht _ => ef_open ht) th0 (Nat.le_refl _)
  obtain rfl := hsl.len
  injection el2 with el2; subst el2
  obtain ⟨o4, q4, c4, l4, el4, hsl4, hc4, bl4⟩ := sl_open (R := fun m vs t => DaR m t vs) (β := fun e => e.cons.length) (sz := 2) (Rows.uptoBulk ty1.1) Try.underlying23 (by kernel_rfl) (by omega) (fun n cs x hx9 ht _ => da_open ht) th1 (Nat.le_refl _)
  obtain rfl := hsl4.len
  injection el4 with el4; subst el4
  obtain ⟨o5, q5, c5, l5, el5, hsl5, hc5, bl5⟩ := sl_open (R := fun m vs (t : Unit) => True) (β := fun _ => 1) (sz := 2) (Rows.uptoBulk ty1.1) Try.underlying23 (by kernel_rfl) (by omega) (fun n cs x hx9 ht _ => ⟨(), trivial, one_bulk _⟩) th1 (Nat.le_refl _)
  have h5 := ones_sum l5
  have h6 : l5.length = l4.length := by have e := hsl5.len; injection el5 with el5 _; injection el5 with _ e2 _; omega
  obtain ⟨b, hbt, hbb⟩ := (tm_open _).1 _ _ _ (Nat.le_refl _) th2
  exact ⟨⟨l, l4, b⟩, ⟨_, _, _, _, _, rfl, hsl, hsl4, hbt⟩, by show (l.map fun e => e.ops.length).sum ≤ _; omega, by show (l4.map fun e => e.cons.length).sum ≤ _; omega, by show l4.length ≤ _; omega, by show bulkM b ≤ _; omega⟩
theorem open_Pg {H : Type} {enc : TypeId × Value → H} {W : World} {base : Nat} {spare : Nat → Bool} {held : Bool} {r : Reach} {b0 : Nat} {v : Value} {d : DataW H} {ps : List MemPlace} (hval : Value.okWide Try.prog W r b0 35 v) (hd : DataW.Trod enc Try.prog W base spare held 35 v d ps) :
    ∃ vs p, v = .agg vs.toArray ∧ PgR (snap W) p vs ∧ opsN p.effects ≤ Rows.uptoBulk d ∧ consN p.datas ≤ Rows.uptoBulk d ∧ p.datas.length ≤ Rows.uptoBulk d ∧ bulkM p.body ≤ 2 * Rows.uptoBulk d := by
  obtain ⟨cs, rfl, _⟩ := okWide_struct Try.underlying35 hval
  obtain ⟨fuel, hf⟩ := hd
  obtain ⟨p, h1, h2⟩ := pg_open hf
  exact ⟨cs.toList, p, rfl, h1, h2⟩
theorem open_U8 {H : Type} {enc : TypeId × Value → H} {W : World} {base : Nat} {spare : Nat → Bool} {held : Bool} {r : Reach} {b0 : Nat} {t : TypeId} {v : Value} {d : DataW H} {ps : List MemPlace} (ht : Try.prog.underlying t = some (.int .u8)) (hval : Value.okWide Try.prog W r b0 t v) (hd : DataW.Trod enc Try.prog W base spare held t v d ps) : ∃ b : UInt8, v = .int .u8 (b.toNat : Int) := by
  obtain ⟨n, rfl, _, _, hs⟩ := open_int ht hval hd
  simp only [Lit.wf, Bool.and_eq_true, decide_eq_true_eq] at hs
  have h1 : IntKind.u8.min = 0 := by decide
  have h2 : IntKind.u8.max = 255 := by decide
  refine ⟨UInt8.ofNat n.toNat, congrArg (Value.int .u8) ?_⟩
  have h3 : (UInt8.ofNat n.toNat).toNat = n.toNat := by rw [UInt8.toNat_ofNat']; omega
  rw [h3]; omega
theorem open_B {H : Type} {enc : TypeId × Value → H} {W : World} {base : Nat} {spare : Nat → Bool} {held : Bool} {r : Reach} {b0 : Nat} {t : TypeId} {v : Value} {d : DataW H} {ps : List MemPlace} (ht : Try.prog.underlying t = some .bool) (hval : Value.okWide Try.prog W r b0 t v) (hd : DataW.Trod enc Try.prog W base spare held t v d ps) : ∃ b : Bool, v = .bool b := by
  obtain ⟨b, rfl, _⟩ := open_bool ht hval hd
  exact ⟨b, rfl⟩
end Go.Proofs.Ytppmbhjacjmfkaa
