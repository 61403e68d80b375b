/-
  'brocade: SubstLast': the given statement (full form), from the walk. Conditions: none.
-/
import Derived.Test.YtfphefkfbhjfdaaLawSubstLast
import Derived.Test.YtfphefkfbhjfdaaOpens5
import Derived.LaidSub
import Derived.MakeChecks
import Derived.LaidLaws
import Derived.Lib.LaidTab
import Derived.OpenShut
import Derived.Deep.DeepHandedRow
namespace Go.Proofs.Ytfphefkfbhjfdaa
set_option linter.all false
set_option maxRecDepth 4000
open Go.ChangeShapes Go.WideShapes Go.ChangeAt Go.RowKit Go.Deep

theorem substLast_own : ownKnob Try.prog.godebug = none := by kernel_rfl
theorem substLast_laid : laidOutB Try.prog = true := by kernel_rfl
set_option maxRecDepth 100000 in
theorem substLast_contract (H : Type) (enc : TypeId × Value → H) (W : World) (base : Nat) (args : Array Value) (ds gs : List (DataW H)) (before : List MemPlace)
    (hval : ∀ (j : Nat) t v, Try.f3.params[j]? = some t → args[j]? = some v → Value.okWide Try.prog W .any base t v)
    (hW : DataW.Whole enc Try.prog Try.f3.params.toList Rows.substLastSpec.vars false W args.toList ds gs before) (hc : ∀ k, (OpenSpec.ofChange Rows.substLastSpec).cond = some k → k H (ds ++ gs) = true) (hz : (DataW.weightsEach Try.prog (Try.f3.params.toList ++ (OpenSpec.ofChange Rows.substLastSpec).bare.plain.varTypes Try.prog) (ds ++ gs)).all (· ≤ reachBytes) = true) (hL : laidMetH Try.prog Rows.substLastRow.laid W) :
    Calls Try.prog 3 args W fun e W' => ∃ v, e = .returned v ∧ Rows.substLastSpec.post enc Try.prog Try.f3 false true false false W args v W' := by
  have hW' := hW
  obtain ⟨p, q, hA0, hV, rfl, hfz, hnd⟩ := hW
  have hA : DataW.TrodAll enc Try.prog W 0 (fun _ => true) true Try.f3.params.toList args.toList ds p := hA0
  rw [Try.params3] at hA hval
  obtain ⟨v0, vs0, d0, ds0, p0, q0, e0, rfl, rfl, h0, hA0⟩ := trodAll_cons hA
  obtain ⟨v1, vs1, d1, ds1, p1, q1, e1, rfl, rfl, h1, hA1⟩ := trodAll_cons hA0
  obtain ⟨v2, vs2, d2, ds2, p2, q2, e2, rfl, rfl, h2, hA2⟩ := trodAll_cons hA1
  obtain ⟨v3, vs3, d3, ds3, p3, q3, e3, rfl, rfl, h3, hA3⟩ := trodAll_cons hA2
  obtain ⟨v4, vs4, d4, ds4, p4, q4, e4, rfl, rfl, h4, hA4⟩ := trodAll_cons hA3
  obtain ⟨e5, rfl, rfl⟩ := trodAll_nil hA4
  subst e5 e4 e3 e2 e1
  obtain rfl : args = #[v0, v1, v2, v3, v4] := Array.toList_inj.1 e0
  obtain ⟨rfl, rfl⟩ := trodVars_none hV
  obtain ⟨o_l, c_l, l, rfl, hs_l, hbk_l⟩ := says_argF (hval 0 22 v0 rfl rfl) h0 (fits_each (j := 0) (t := 22) (d := d0) (by rw [Try.params3]; rfl) rfl hz)
  obtain ⟨n, rfl, hn_⟩ := open_I Try.underlying3 (hval 1 3 v1 rfl rfl) h1
  obtain ⟨k, rfl, hk_⟩ := open_I Try.underlying3 (hval 2 3 v2 rfl rfl) h2
  obtain ⟨vs_t, t, rfl, hv_t, hbk_t⟩ := open_TyF (hval 3 28 v3 rfl rfl) h3 (fits_each (j := 3) (t := 28) (d := d3) (by rw [Try.params3]; rfl) rfl hz)
  obtain ⟨vs_r, r, rfl, hv_r, hbk_r⟩ := open_Rw (hval 4 26 v4 rfl rfl) h4
  have hA0 := agree_snap W

  refine Calls.mono (substLast_c (n := n) (k := k) hA0 hs_l hv_t hv_r (fun x hx => by have h1 := hbk_l x hx; omega) (by omega)) fun e W' ⟨v, m', he, hx, hv⟩ => ?_
  subst hv
  exact ⟨_, he, post_law substLast_laid (by kernel_rfl) rfl rfl Try.underlying4 rfl hW' hx⟩
theorem substLast_laidmet (os : Go.Os) : laidMetH Try.prog Rows.substLastRow.laid (((World.holding Try.prog os ⟨#[], #[], []⟩)).forCall (fun _ _ => 0) ⟨#[], #[.slice none 0 0, .int .i64 0, .int .i64 0, .agg #[.int .i64 0, .string ⟨#[]⟩, .int .i64 0, .slice none 0 0, .slice none 0 0, .int .i64 0], .agg #[.slice none 0 0, .int .i64 0]], []⟩).memory :=
  laidMet_of_run' 8 (by kernel_rfl) (by kernel_rfl)
theorem substLast_reads (os : Go.Os) {H : Type} (enc : TypeId × Value → H) : ∃ places, DataW.whole enc Try.prog (((World.holding Try.prog os ⟨#[], #[], []⟩)).forCall (fun _ _ => 0) ⟨#[], #[.slice none 0 0, .int .i64 0, .int .i64 0, .agg #[.int .i64 0, .string ⟨#[]⟩, .int .i64 0, .slice none 0 0, .slice none 0 0, .int .i64 0], .agg #[.slice none 0 0, .int .i64 0]], []⟩).memory Try.f3.params.toList Rows.substLastSpec.vars false #[.slice none 0 0, .int .i64 0, .int .i64 0, .agg #[.int .i64 0, .string ⟨#[]⟩, .int .i64 0, .slice none 0 0, .slice none 0 0, .int .i64 0], .agg #[.slice none 0 0, .int .i64 0]].toList 12 = some ([.nil, .lit (.int .i64 0), .lit (.int .i64 0), .agg [.lit (.int .i64 0), .lit (.string []), .lit (.int .i64 0), .nil, .agg [.nil, .lit (.int .i64 0)]], .agg [.nil, .lit (.int .i64 0)]], [], places) :=
  ⟨[], by kernel_rfl⟩
set_option maxRecDepth 100000 in
theorem substLast_lifted (os : Go.Os) (started : os.Started) (H : Type) (enc : TypeId × Value → H) (F : Stop.Interp) :
    ReturnsInHanded {} Try.checked os 3 .any ((OpenSpec.ofChange Rows.substLastSpec).preRow enc Try.prog Try.f3 Rows.substLastRow.domain false Rows.substLastRow.laid) (((OpenSpec.ofChange Rows.substLastSpec).at F).post enc Try.prog Try.f3 false true false false) := by
  obtain ⟨places, hx⟩ := substLast_reads os enc
  refine returnsInHanded_of_row (C := Try.checked) (s := (OpenSpec.ofChange Rows.substLastSpec)) substLast_own started (by kernel_rfl) Try.func3
    (witness_row_at (enc := enc) (C := Try.checked) false ((World.holding Try.prog os ⟨#[], #[], []⟩)) #[.slice none 0 0, .int .i64 0, .int .i64 0, .agg #[.int .i64 0, .string ⟨#[]⟩, .int .i64 0, .slice none 0 0, .slice none 0 0, .int .i64 0], .agg #[.slice none 0 0, .int .i64 0]] rfl (by kernel_rfl) (by kernel_rfl) (by kernel_rfl)
      (OpenSpec.preRow_of_cond 12 hx (by kernel_rfl) (fun k hk => by cases hk) (by kernel_rfl) (substLast_laidmet os))) ?_
  intro W base args ds gs before hval hW _ hc hz hL _ _
  exact substLast_contract H enc W base args ds gs before hval hW hc hz hL
theorem substLast_holds : Rows.SubstLastSaid :=
  OpenClaim.holds_of_cond 3 Try.f3 rfl rfl rfl rfl rfl rfl rfl ⟨rfl, rfl, rfl, rfl, rfl⟩ rfl rfl rfl rfl rfl (by kernel_rfl) Try.func3 (by kernel_rfl)
    (of_decide_eq_true (by kernel_rfl)) (by unfold Func.isWrapper; first | (rw [if_pos (by decide +kernel)]; kernel_rfl) | (rw [if_neg (by decide +kernel)]; exact ⟨rfl, rfl⟩))
    (fun os started H enc _ F => by rw [OpenClaim.pre_eq_preRow]; exact substLast_lifted os started H enc F)
end Go.Proofs.Ytfphefkfbhjfdaa
