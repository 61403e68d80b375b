/-
  'brocade: SchemeInstances': the given statement, where what is read is of bulk at most 1048576, from the walk. Conditions: none.
-/
import Derived.Test.YtmpponcnohakdaaLawSchemeInstances
import Derived.Test.YtmpponcnohakdaaOpens8
import Derived.LaidSub
import Derived.MakeChecks
import Derived.LaidLaws
import Derived.Lib.LaidTab
import Derived.OpenShut
import Derived.Deep.DeepHandedRow
namespace Go.Proofs.Ytmpponcnohakdaa
set_option linter.all false
set_option maxRecDepth 4000
open Go.ChangeShapes Go.WideShapes Go.ChangeAt Go.RowKit Go.Deep

theorem schemeInstances_own : ownKnob Try.prog.godebug = none := by kernel_rfl
theorem schemeInstances_laid : laidOutB Try.prog = true := by kernel_rfl
set_option maxRecDepth 100000 in
theorem schemeInstances_contract (H : Type) (enc : TypeId × Value → H) (W : World) (base : Nat) (args : Array Value) (ds gs : List (DataW H)) (before : List MemPlace)
    (hval : ∀ (j : Nat) t v, Try.f3.params[j]? = some t → args[j]? = some v → Value.okWide Try.prog W .any base t v)
    (hW : DataW.Whole enc Try.prog Try.f3.params.toList Rows.schemeInstancesSpec.vars false W args.toList ds gs before) (hc : ∀ k, (Rows.OpenSpec.upto Rows.schemeInstancesSpec).cond = some k → k H (ds ++ gs) = true) (hL : laidMetH Try.prog Rows.schemeInstancesUptoRow.laid W) :
    Calls Try.prog 3 args W fun e W' => ∃ v, e = .returned v ∧ Rows.schemeInstancesSpec.post enc Try.prog Try.f3 false true false false W args v W' := by
  have hW' := hW
  obtain ⟨p, q, hA0, hV, rfl, hfz, hnd⟩ := hW
  have hA : DataW.TrodAll enc Try.prog W 0 (fun _ => true) true Try.f3.params.toList args.toList ds p := hA0
  rw [Try.params3] at hA hval
  obtain ⟨v0, vs0, d0, ds0, p0, q0, e0, rfl, rfl, h0, hA0⟩ := trodAll_cons hA
  obtain ⟨v1, vs1, d1, ds1, p1, q1, e1, rfl, rfl, h1, hA1⟩ := trodAll_cons hA0
  obtain ⟨v2, vs2, d2, ds2, p2, q2, e2, rfl, rfl, h2, hA2⟩ := trodAll_cons hA1
  obtain ⟨v3, vs3, d3, ds3, p3, q3, e3, rfl, rfl, h3, hA3⟩ := trodAll_cons hA2
  obtain ⟨e4, rfl, rfl⟩ := trodAll_nil hA3
  subst e4 e3 e2 e1
  obtain rfl : args = #[v0, v1, v2, v3] := Array.toList_inj.1 e0
  obtain ⟨rfl, rfl⟩ := trodVars_none hV
  have hbulk : Rows.uptoBulkAll [d0, d1, d2, d3] ≤ 1048576 := by have := hc _ rfl; simpa [Rows.uptoSmall] using this
  obtain ⟨o_env, c_env, env, rfl, hs_env, hbk_env⟩ := tys_arg (hval 0 22 v0 rfl rfl) h0
  obtain ⟨vs_t, t, rfl, hv_t, hbk_t⟩ := open_Ty (hval 1 27 v1 rfl rfl) h1
  obtain ⟨vs_i, i, rfl, hv_i, hbk_i⟩ := open_Ty (hval 2 27 v2 rfl rfl) h2
  obtain ⟨vs_r, r, rfl, hv_r, hbk_r⟩ := open_Rw (hval 3 25 v3 rfl rfl) h3
  have hA0 := agree_snap W
  simp only [Rows.uptoBulkAll] at hbulk

  refine Calls.mono (schemeInstances_c hA0 hs_env hv_t hv_i hv_r (fun x hx => by have h1 := hbk_env x hx; have h2 := wd_bulk x; have h3 := cnt_bulk x; exact ⟨by omega, by omega⟩) (by have h2 := wd_bulk t; omega) (by have h3 := cnt_bulk t; omega) (by have h2 := wd_bulk i; omega) (by have h3 := cnt_bulk i; omega)) fun e W' ⟨v, m', he, hx, hv⟩ => ?_
  subst hv
  exact ⟨_, he, post_law schemeInstances_laid (by kernel_rfl) rfl rfl Try.underlying4 rfl hW' hx⟩
theorem schemeInstances_laidmet (os : Go.Os) : laidMetH Try.prog Rows.schemeInstancesUptoRow.laid (((World.holding Try.prog os ⟨#[], #[], []⟩)).forCall (fun _ _ => 0) ⟨#[], #[.slice none 0 0, .agg #[.int .i64 0, .string ⟨#[]⟩, .int .i64 0, .slice none 0 0, .slice none 0 0, .int .i64 0], .agg #[.int .i64 0, .string ⟨#[]⟩, .int .i64 0, .slice none 0 0, .slice none 0 0, .int .i64 0], .agg #[.slice none 0 0, .int .i64 0]], []⟩).memory :=
  laidMet_of_run' 8 (by kernel_rfl) (by kernel_rfl)
theorem schemeInstances_reads (os : Go.Os) {H : Type} (enc : TypeId × Value → H) : ∃ places, DataW.whole enc Try.prog (((World.holding Try.prog os ⟨#[], #[], []⟩)).forCall (fun _ _ => 0) ⟨#[], #[.slice none 0 0, .agg #[.int .i64 0, .string ⟨#[]⟩, .int .i64 0, .slice none 0 0, .slice none 0 0, .int .i64 0], .agg #[.int .i64 0, .string ⟨#[]⟩, .int .i64 0, .slice none 0 0, .slice none 0 0, .int .i64 0], .agg #[.slice none 0 0, .int .i64 0]], []⟩).memory Try.f3.params.toList Rows.schemeInstancesSpec.vars false #[.slice none 0 0, .agg #[.int .i64 0, .string ⟨#[]⟩, .int .i64 0, .slice none 0 0, .slice none 0 0, .int .i64 0], .agg #[.int .i64 0, .string ⟨#[]⟩, .int .i64 0, .slice none 0 0, .slice none 0 0, .int .i64 0], .agg #[.slice none 0 0, .int .i64 0]].toList 12 = some ([.nil, .agg [.lit (.int .i64 0), .lit (.string []), .lit (.int .i64 0), .nil, .agg [.nil, .lit (.int .i64 0)]], .agg [.lit (.int .i64 0), .lit (.string []), .lit (.int .i64 0), .nil, .agg [.nil, .lit (.int .i64 0)]], .agg [.nil, .lit (.int .i64 0)]], [], places) :=
  ⟨[], by kernel_rfl⟩
set_option maxRecDepth 100000 in
theorem schemeInstances_lifted (os : Go.Os) (started : os.Started) (H : Type) (enc : TypeId × Value → H) (F : Stop.Interp) :
    ReturnsInHanded {} Try.checked os 3 .any ((Rows.OpenSpec.upto Rows.schemeInstancesSpec).preRow enc Try.prog Try.f3 Rows.schemeInstancesUptoRow.domain false Rows.schemeInstancesUptoRow.laid) (((Rows.OpenSpec.upto Rows.schemeInstancesSpec).at F).post enc Try.prog Try.f3 false true false false) := by
  obtain ⟨places, hx⟩ := schemeInstances_reads os enc
  refine returnsInHanded_of_row (C := Try.checked) (s := (Rows.OpenSpec.upto Rows.schemeInstancesSpec)) schemeInstances_own started (by kernel_rfl) Try.func3
    (witness_row_at (enc := enc) (C := Try.checked) false ((World.holding Try.prog os ⟨#[], #[], []⟩)) #[.slice none 0 0, .agg #[.int .i64 0, .string ⟨#[]⟩, .int .i64 0, .slice none 0 0, .slice none 0 0, .int .i64 0], .agg #[.int .i64 0, .string ⟨#[]⟩, .int .i64 0, .slice none 0 0, .slice none 0 0, .int .i64 0], .agg #[.slice none 0 0, .int .i64 0]] rfl (by kernel_rfl) (by kernel_rfl) (by kernel_rfl)
      (OpenSpec.preRow_of_cond 12 hx (by kernel_rfl) (fun k hk => by cases hk; kernel_rfl) (by kernel_rfl) (schemeInstances_laidmet os))) ?_
  intro W base args ds gs before hval hW _ hc _ hL _ _
  exact schemeInstances_contract H enc W base args ds gs before hval hW hc hL
theorem schemeInstances_holds : Rows.SchemeInstancesUptoSaid :=
  OpenClaim.holds_of_cond 3 Try.f3 rfl rfl rfl rfl rfl rfl rfl ⟨rfl, rfl, rfl, rfl, rfl⟩ rfl rfl rfl rfl rfl (by kernel_rfl) Try.func3 (by kernel_rfl)
    (of_decide_eq_true (by kernel_rfl)) (by unfold Func.isWrapper; first | (rw [if_pos (by decide +kernel)]; kernel_rfl) | (rw [if_neg (by decide +kernel)]; exact ⟨rfl, rfl⟩))
    (fun os started H enc _ F => by rw [OpenClaim.pre_eq_preRow]; exact schemeInstances_lifted os started H enc F)
end Go.Proofs.Ytmpponcnohakdaa
