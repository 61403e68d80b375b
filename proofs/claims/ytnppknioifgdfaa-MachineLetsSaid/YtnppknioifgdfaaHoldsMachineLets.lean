/-
  The law's proof, whole. Conditions: those of each theorem.
-/
import Derived.Test.YtnppknioifgdfaaSqE
import Derived.Lib.ItoaLen
import Derived.ChangeArms
import Derived.LaidSub
import Derived.MakeChecks
import Derived.LaidLaws
import Derived.Lib.LaidTab
import Derived.OpenShut
import Derived.Deep.DeepHandedRow
namespace Go.Proofs.Ytnppknioifgdfaa
open Go.Proofs.Try
set_option linter.all false
set_option maxRecDepth 4000
open Go.RowKit Go.WideShapes Go.ChangeShapes Go.Deep Go.WideElems Go.ChangeAt Go.ChangeMaps
theorem sum_two (l : List Str) : (l.map fun x => x.length + 2).sum ≤ 2 * (l.map fun s => s.length + 1).sum := by
 induction l with
 | nil => simp
 | cons x xs ih => simp only [List.map_cons, List.sum_cons]; omega
theorem strs_open {H : Type} {enc : TypeId × Value → H} {W : World} {base : Nat} {spare : Nat → Bool} {held : Bool} {n : Nat} {cs : List Value} {x : DataW H × List MemPlace} (h : DataW.trod enc Try.prog W base spare held n 45 cs = some x) :
  ∃ o c l, cs = [.slice o l.length c] ∧ Strs (zBF W) o l.length c l ∧ (l.map fun x => x.length + 2).sum ≤ 2 * Rows.uptoBulk x.1 := by
 obtain ⟨o, q, c, l, el, hsl, hc, bl⟩ := sl_open (R := fun _ vs (x : Str) => vs = [S x]) (β := fun s => s.length + 1) (sz := 1) (Rows.uptoBulk x.1) underlying45 (by kernel_rfl) (by omega)
  (fun n cs x _ ht _ => by obtain ⟨s, es, _, bs⟩ := zDN underlying9 ht; exact ⟨s, es, by omega⟩) h (Nat.le_refl _)
 obtain rfl := hsl.len
 exact ⟨o, c, l, el, hsl, by have := sum_two l; omega⟩
theorem itoa_len {n : Int} (h : zo n) : (Go.Lib.itoa n).length ≤ 21 := Go.Lib.itoa_length_le n h.1 h.2
theorem cd_open {H : Type} {enc : TypeId × Value → H} {W : World} {base : Nat} {spare : Nat → Bool} {held : Bool} : ∀ (B : Nat), (∀ (n : Nat) (cs : List Value) (x : DataW H × List MemPlace), Rows.uptoBulk x.1 ≤ B → DataW.trod enc Try.prog W base spare held n 25 cs = some x → ∃ t : Cd, CdR (zBF W) t cs ∧ zBX t ≤ 60 * Rows.uptoBulk x.1) ∧ (∀ (n : Nat) (cs : List Value) (x : DataW H × List MemPlace), Rows.uptoBulk x.1 ≤ B → DataW.trod enc Try.prog W base spare held n 47 cs = some x → ∃ a : Ca, CaR (zBF W) a cs ∧ 30 + a.name.length + (a.vars.map fun x => x.length + 2).sum + zBX a.body ≤ 60 * Rows.uptoBulk x.1) := by
 intro B
 induction B with
 | zero => exact ⟨fun n cs x hB h => absurd (zEg x.1) (by omega), fun n cs x hB h => absurd (zEg x.1) (by omega)⟩
 | succ B ih =>
  refine ⟨fun n cs x hB h => ?_, fun n cs x hB h => ?_⟩
  ·obtain ⟨tn, tys, thl, hx, thcl, thf⟩ := zDp underlying25 h
   obtain ⟨ty0, te0, th0⟩ := thf 0 _ rfl
   obtain ⟨ty1, te1, th1⟩ := thf 1 _ rfl
   obtain ⟨ty2, te2, th2⟩ := thf 2 _ rfl
   obtain ⟨ty3, te3, th3⟩ := thf 3 _ rfl
   obtain ⟨ty4, te4, th4⟩ := thf 4 _ rfl
   obtain ⟨ty5, te5, th5⟩ := thf 5 _ rfl
   have thcl2 : (cs : List Value).length = 6 := thcl.trans (by kernel_rfl)
   obtain ⟨tc0, tc1, tc2, tc3, tc4, tc5, rfl⟩ : ∃ tc0 tc1 tc2 tc3 tc4 tc5, cs = [tc0, tc1, tc2, tc3, tc4, tc5] := by match cs, thcl2 with | [a0, a1, a2, a3, a4, a5], _ => exact ⟨_, _, _, _, _, _, rfl⟩
   change DataW.trod enc Try.prog W base spare held tn 3 (([tc0, tc1, tc2, tc3, tc4, tc5].drop 0).take (Try.prog.cellsOf 3)) = some ty0 at th0
   rw [show Try.prog.cellsOf 3 = 1 by kernel_rfl] at th0
   change DataW.trod enc Try.prog W base spare held tn 3 [tc0] = some ty0 at th0
   change DataW.trod enc Try.prog W base spare held tn 9 (([tc0, tc1, tc2, tc3, tc4, tc5].drop 1).take (Try.prog.cellsOf 9)) = some ty1 at th1
   rw [show Try.prog.cellsOf 9 = 1 by kernel_rfl] at th1
   change DataW.trod enc Try.prog W base spare held tn 9 [tc1] = some ty1 at th1
   change DataW.trod enc Try.prog W base spare held tn 9 (([tc0, tc1, tc2, tc3, tc4, tc5].drop 2).take (Try.prog.cellsOf 9)) = some ty2 at th2
   rw [show Try.prog.cellsOf 9 = 1 by kernel_rfl] at th2
   change DataW.trod enc Try.prog W base spare held tn 9 [tc2] = some ty2 at th2
   change DataW.trod enc Try.prog W base spare held tn 3 (([tc0, tc1, tc2, tc3, tc4, tc5].drop 3).take (Try.prog.cellsOf 3)) = some ty3 at th3
   rw [show Try.prog.cellsOf 3 = 1 by kernel_rfl] at th3
   change DataW.trod enc Try.prog W base spare held tn 3 [tc3] = some ty3 at th3
   change DataW.trod enc Try.prog W base spare held tn 22 (([tc0, tc1, tc2, tc3, tc4, tc5].drop 4).take (Try.prog.cellsOf 22)) = some ty4 at th4
   rw [show Try.prog.cellsOf 22 = 1 by kernel_rfl] at th4
   change DataW.trod enc Try.prog W base spare held tn 22 [tc4] = some ty4 at th4
   change DataW.trod enc Try.prog W base spare held tn 23 (([tc0, tc1, tc2, tc3, tc4, tc5].drop 5).take (Try.prog.cellsOf 23)) = some ty5 at th5
   rw [show Try.prog.cellsOf 23 = 1 by kernel_rfl] at th5
   change DataW.trod enc Try.prog W base spare held tn 23 [tc5] = some ty5 at th5
   have thys : tys = [ty0, ty1, ty2, ty3, ty4, ty5] := by
    match tys, thl with
    | [q0, q1, q2, q3, q4, q5], _ => simp at te0 te1 te2 te3 te4 te5; subst te0 te1 te2 te3 te4 te5; rfl
   subst thys; simp only [List.map_cons, List.map_nil, Rows.uptoBulkAll] at hx
   obtain ⟨k, e_k, h_k, b_k⟩ := zEh underlying3 th0; injection e_k with e_k; subst e_k
   obtain ⟨s, e_s, h_s, b_s⟩ := zDN underlying9 th1; injection e_s with e_s; subst e_s
   obtain ⟨p, e_p, h_p, b_p⟩ := zDN underlying9 th2; injection e_p with e_p; subst e_p
   obtain ⟨nn, e_nn, h_nn, b_nn⟩ := zEh underlying3 th3; injection e_nn with e_nn; subst e_nn
   obtain ⟨o, q, cc, l, el2, hsl, hc, bl⟩ := sl_open (R := fun m vs t => CdR m t vs ∧ zBX t ≤ 60 * Rows.uptoBulk ty4.1) (β := fun t => (zBX t + 59) / 60) (sz := 6) (Rows.uptoBulk ty4.1) underlying22 (by kernel_rfl) (by omega)
    (fun n cs x hx9 ht _ => by obtain ⟨t, h1, h2⟩ := ih.1 n cs x (by omega) ht; exact ⟨t, ⟨h1, by omega⟩, by omega⟩) th4 (Nat.le_refl _)
   obtain rfl := hsl.len
   injection el2 with el2; subst el2
   have hsl2 : Cds (zBF W) o l.length cc l := ⟨rfl, hsl.cap, hsl.big, fun i x hx => by obtain ⟨p, vs, a1, a2, a3, a4⟩ := hsl.at_ i x hx; exact ⟨p, vs, a1, a2, a3, a4.1⟩⟩
   obtain ⟨o4, q4, c4, l4, el4, hsl4, hc4, bl4⟩ := sl_open (R := fun m vs a => CaR m a vs ∧ 30 + a.name.length + (a.vars.map fun x => x.length + 2).sum + zBX a.body ≤ 60 * Rows.uptoBulk ty5.1) (β := fun a => (30 + a.name.length + (a.vars.map fun x => x.length + 2).sum + zBX a.body + 59) / 60) (sz := 9) (Rows.uptoBulk ty5.1) underlying23 (by kernel_rfl) (by omega)
    (fun n cs x hx9 ht _ => by obtain ⟨t, h1, h2⟩ := ih.2 n cs x (by omega) ht; exact ⟨t, ⟨h1, by omega⟩, by omega⟩) th5 (Nat.le_refl _)
   obtain rfl := hsl4.len
   injection el4 with el4; subst el4
   have hsl5 : Cas (zBF W) o4 l4.length c4 l4 := ⟨rfl, hsl4.cap, hsl4.big, fun i x hx => by obtain ⟨p, vs, a1, a2, a3, a4⟩ := hsl4.at_ i x hx; exact ⟨p, vs, a1, a2, a3, a4.1⟩⟩
   have key : ∀ l : List Cd, zEm l ≤ 60 * (l.map fun t => (zBX t + 59) / 60).sum := by
    intro l
    induction l with
    | nil => simp [zEm]
    | cons x xs ih => simp only [zEm, List.map_cons, List.sum_cons]; omega
   have key2 : ∀ l : List Ca, zCj l ≤ 60 * (l.map fun a => (30 + a.name.length + (a.vars.map fun x => x.length + 2).sum + zBX a.body + 59) / 60).sum := by
    intro l
    induction l with
    | nil => simp [zCj]
    | cons x xs ih => rw [bulkAs_cons, List.map_cons, List.sum_cons]; omega
   have hk := key l; have hk2 := key2 l4; have hit := itoa_len h_nn
   refine ⟨⟨k, s, p, nn, l, l4⟩, CdR.build (y := ⟨o, cc, o4, c4⟩) h_k h_nn hsl2 hsl5, ?_⟩
   rw [zBX]; omega
  ·obtain ⟨tn, tys, thl, hx, thcl, thf⟩ := zDp underlying47 h
   obtain ⟨ty0, te0, th0⟩ := thf 0 _ rfl
   obtain ⟨ty1, te1, th1⟩ := thf 1 _ rfl
   obtain ⟨ty2, te2, th2⟩ := thf 2 _ rfl
   obtain ⟨ty3, te3, th3⟩ := thf 3 _ rfl
   have thcl2 : (cs : List Value).length = 9 := thcl.trans (by kernel_rfl)
   obtain ⟨tc0, tc1, tc2, tc3, tc4, tc5, tc6, tc7, tc8, rfl⟩ : ∃ tc0 tc1 tc2 tc3 tc4 tc5 tc6 tc7 tc8, cs = [tc0, tc1, tc2, tc3, tc4, tc5, tc6, tc7, tc8] := by match cs, thcl2 with | [a0, a1, a2, a3, a4, a5, a6, a7, a8], _ => exact ⟨_, _, _, _, _, _, _, _, _, rfl⟩
   change DataW.trod enc Try.prog W base spare held tn 9 (([tc0, tc1, tc2, tc3, tc4, tc5, tc6, tc7, tc8].drop 0).take (Try.prog.cellsOf 9)) = some ty0 at th0
   rw [show Try.prog.cellsOf 9 = 1 by kernel_rfl] at th0
   change DataW.trod enc Try.prog W base spare held tn 9 [tc0] = some ty0 at th0
   change DataW.trod enc Try.prog W base spare held tn 45 (([tc0, tc1, tc2, tc3, tc4, tc5, tc6, tc7, tc8].drop 1).take (Try.prog.cellsOf 45)) = some ty1 at th1
   rw [show Try.prog.cellsOf 45 = 1 by kernel_rfl] at th1
   change DataW.trod enc Try.prog W base spare held tn 45 [tc1] = some ty1 at th1
   change DataW.trod enc Try.prog W base spare held tn 4 (([tc0, tc1, tc2, tc3, tc4, tc5, tc6, tc7, tc8].drop 2).take (Try.prog.cellsOf 4)) = some ty2 at th2
   rw [show Try.prog.cellsOf 4 = 1 by kernel_rfl] at th2
   change DataW.trod enc Try.prog W base spare held tn 4 [tc2] = some ty2 at th2
   change DataW.trod enc Try.prog W base spare held tn 25 (([tc0, tc1, tc2, tc3, tc4, tc5, tc6, tc7, tc8].drop 3).take (Try.prog.cellsOf 25)) = some ty3 at th3
   rw [show Try.prog.cellsOf 25 = 6 by kernel_rfl] at th3
   change DataW.trod enc Try.prog W base spare held tn 25 [tc3, tc4, tc5, tc6, tc7, tc8] = some ty3 at th3
   have thys : tys = [ty0, ty1, ty2, ty3] := by
    match tys, thl with
    | [q0, q1, q2, q3], _ => simp at te0 te1 te2 te3; subst te0 te1 te2 te3; rfl
   subst thys; simp only [List.map_cons, List.map_nil, Rows.uptoBulkAll] at hx
   obtain ⟨s, e_s, h_s, b_s⟩ := zDN underlying9 th0; injection e_s with e_s; subst e_s
   obtain ⟨o, c, l, e1, hs, hb⟩ := strs_open th1; injection e1 with e1; subst e1
   obtain ⟨tl, e2, b2⟩ := DataW.trod_bool underlying4 th2; injection e2 with e2; subst e2
   have ob2 := zEg ty2.1
   obtain ⟨b, hbt, hbb⟩ := ih.1 _ _ _ (by omega) th3
   exact ⟨⟨s, l, tl, b⟩, ⟨_, _, _, rfl, hs, hbt⟩, by simp only [Ca.name, Ca.vars, Ca.body]; omega⟩
theorem open_Cd {H : Type} {enc : TypeId × Value → H} {W : World} {base : Nat} {spare : Nat → Bool} {held : Bool} {r : Reach} {b0 : Nat} {v : Value} {d : DataW H} {ps : List MemPlace} (hval : Value.okWide Try.prog W r b0 25 v) (hd : DataW.Trod enc Try.prog W base spare held 25 v d ps) :
  ∃ vs t, v = .agg vs.toArray ∧ CdR (zBF W) t vs ∧ zBX t ≤ 60 * Rows.uptoBulk d := by
 obtain ⟨cs, rfl, _⟩ := okWide_struct underlying25 hval
 obtain ⟨fuel, hf⟩ := hd
 obtain ⟨t, h1, h2⟩ := (cd_open _).1 _ _ _ (Nat.le_refl _) hf
 exact ⟨cs.toList, t, rfl, h1, h2⟩
end Go.Proofs.Ytnppknioifgdfaa
namespace Go.Proofs.Ytnppknioifgdfaa
open Go.Proofs.Try
set_option linter.all false
set_option maxRecDepth 4000
open Go.ChangeShapes Go.WideShapes Go.ChangeAt Go.RowKit Go.Deep
theorem machineLets_own : ownKnob Try.prog.godebug = none := by kernel_rfl
theorem machineLets_laid : laidOutB Try.prog = true := by kernel_rfl
set_option maxRecDepth 100000 in
theorem machineLets_contract (H : Type) (enc : TypeId × Value → H) (W : World) (base : Nat) (args : Array Value) (ds gs : List (DataW H)) (before : List MemPlace)
  (hval : ∀ (j : Nat) t v, Try.f11.params[j]? = some t → args[j]? = some v → Value.okWide Try.prog W .any base t v)
  (hW : DataW.Whole enc Try.prog Try.f11.params.toList Rows.machineLetsSpec.vars false W args.toList ds gs before) (hc : ∀ k, (OpenSpec.ofChange Rows.machineLetsSpec).cond = some k → k H (ds ++ gs) = true) (hL : laidMetH Try.prog Rows.machineLetsRow.laid W) :
  Calls Try.prog 11 args W fun e W' => ∃ v, e = .returned v ∧ Rows.machineLetsSpec.post enc Try.prog Try.f11 false true false false W args v W' := by
 have hW' := hW
 obtain ⟨p, q, hA0, hV, rfl, hfz, hnd⟩ := hW
 have hA : DataW.TrodAll enc Try.prog W 0 (fun _ => true) true Try.f11.params.toList args.toList ds p := hA0
 rw [Try.params11] at hA hval
 obtain ⟨v0, vs0, d0, ds0, p0, q0, e0, rfl, rfl, h0, hA0⟩ := trodAll_cons hA
 obtain ⟨v1, vs1, d1, ds1, p1, q1, e1, rfl, rfl, h1, hA1⟩ := trodAll_cons hA0
 obtain ⟨v2, vs2, d2, ds2, p2, q2, e2, rfl, rfl, h2, hA2⟩ := trodAll_cons hA1
 obtain ⟨e3, rfl, rfl⟩ := trodAll_nil hA2
 subst e3 e2 e1
 obtain rfl : args = #[v0, v1, v2] := Array.toList_inj.1 e0
 obtain ⟨rfl, rfl⟩ := trodVars_none hV
 obtain ⟨vs_c, c, rfl, hv_c, hq_c⟩ := open_Cd (hval 0 25 v0 rfl rfl) h0
 obtain ⟨o_l, c_l, l, rfl, hs_l, hi_l⟩ := ints_arg (hval 1 26 v1 rfl rfl) h1
 obtain ⟨n, rfl, hn_⟩ := open_I underlying3 (hval 2 3 v2 rfl rfl) h2
 have hA0 := agree_snap W
 refine Calls.mono (machineLets_c hA0 hv_c hs_l hi_l hn_) fun e W' ⟨v, m', he, hx, hv⟩ => ?_
 subst hv
 exact ⟨_, he, post_law machineLets_laid (by kernel_rfl) rfl rfl underlying4 rfl hW' hx⟩
theorem machineLets_laidmet (os : Go.Os) : laidMetH Try.prog Rows.machineLetsRow.laid (((World.holding Try.prog os ⟨#[], #[], []⟩)).forCall (fun _ _ => 0) ⟨#[], #[.agg #[.int .i64 0, .string ⟨#[]⟩, .string ⟨#[]⟩, .int .i64 0, .slice none 0 0, .slice none 0 0], .slice none 0 0, .int .i64 0], []⟩).memory :=
 laidMet_of_run' 8 (by kernel_rfl) (by kernel_rfl)
theorem machineLets_reads (os : Go.Os) {H : Type} (enc : TypeId × Value → H) : ∃ places, DataW.whole enc Try.prog (((World.holding Try.prog os ⟨#[], #[], []⟩)).forCall (fun _ _ => 0) ⟨#[], #[.agg #[.int .i64 0, .string ⟨#[]⟩, .string ⟨#[]⟩, .int .i64 0, .slice none 0 0, .slice none 0 0], .slice none 0 0, .int .i64 0], []⟩).memory Try.f11.params.toList Rows.machineLetsSpec.vars false #[.agg #[.int .i64 0, .string ⟨#[]⟩, .string ⟨#[]⟩, .int .i64 0, .slice none 0 0, .slice none 0 0], .slice none 0 0, .int .i64 0].toList 12 = some ([.agg [.lit (.int .i64 0), .lit (.string []), .lit (.string []), .lit (.int .i64 0), .nil, .nil], .nil, .lit (.int .i64 0)], [], places) :=
 ⟨[], by kernel_rfl⟩
set_option maxRecDepth 100000 in
theorem machineLets_lifted (os : Go.Os) (started : os.Started) (H : Type) (enc : TypeId × Value → H) (F : Stop.Interp) :
  ReturnsInHanded {} Try.checked os 11 .any ((OpenSpec.ofChange Rows.machineLetsSpec).preRow enc Try.prog Try.f11 Rows.machineLetsRow.domain false Rows.machineLetsRow.laid) (((OpenSpec.ofChange Rows.machineLetsSpec).at F).post enc Try.prog Try.f11 false true false false) := by
 obtain ⟨places, hx⟩ := machineLets_reads os enc
 refine returnsInHanded_of_row (C := Try.checked) (s := (OpenSpec.ofChange Rows.machineLetsSpec)) machineLets_own started (by kernel_rfl) func11
  (witness_row_at (enc := enc) (C := Try.checked) false ((World.holding Try.prog os ⟨#[], #[], []⟩)) #[.agg #[.int .i64 0, .string ⟨#[]⟩, .string ⟨#[]⟩, .int .i64 0, .slice none 0 0, .slice none 0 0], .slice none 0 0, .int .i64 0] rfl (by kernel_rfl) (by kernel_rfl) (by kernel_rfl)
   (OpenSpec.preRow_of_cond 12 hx (by kernel_rfl) (fun k hk => by cases hk) (by kernel_rfl) (machineLets_laidmet os))) ?_
 intro W base args ds gs before hval hW _ hc _ hL _ _
 exact machineLets_contract H enc W base args ds gs before hval hW hc hL
theorem machineLets_holds : Rows.MachineLetsSaid :=
 OpenClaim.holds_of_cond 11 Try.f11 rfl rfl rfl rfl rfl rfl rfl ⟨rfl, rfl, rfl, rfl, rfl⟩ rfl rfl rfl rfl rfl (by kernel_rfl) func11 (by kernel_rfl)
  (of_decide_eq_true (by kernel_rfl)) (by unfold Func.isWrapper; first | (rw [if_pos (by decide +kernel)]; kernel_rfl) | (rw [if_neg (by decide +kernel)]; exact ⟨rfl, rfl⟩))
  (fun os started H enc _ F => by rw [OpenClaim.pre_eq_preRow]; exact machineLets_lifted os started H enc F)
end Go.Proofs.Ytnppknioifgdfaa
