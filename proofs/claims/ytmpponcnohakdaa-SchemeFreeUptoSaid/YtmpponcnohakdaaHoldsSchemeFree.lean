/-
  'brocade: SchemeFree': the given statement, where what is read is of bulk at most 1048576, from the walk. Conditions: none.
-/
import Derived.Test.YtmpponcnohakdaaLawSchemeFree
import Derived.Test.YtmpponcnohakdaaOpens8
import Derived.LaidSub
import Derived.MakeChecks
import Derived.LaidLaws
import Derived.Lib.LaidTab
import Derived.OpenShut
import Derived.Deep.DeepHandedRow
namespace Go.Proofs.Ytmpponcnohakdaa
set_option linter.all false
set_option maxRecDepth 4000
open Go.ChangeShapes Go.WideShapes Go.ChangeAt Go.RowKit Go.Deep

theorem schemeFree_own : ownKnob Try.prog.godebug = none := by kernel_rfl
theorem schemeFree_laid : laidOutB Try.prog = true := by kernel_rfl
set_option maxRecDepth 100000 in
theorem schemeFree_contract (H : Type) (enc : TypeId × Value → H) (W : World) (base : Nat) (args : Array Value) (ds gs : List (DataW H)) (before : List MemPlace)
    (hval : ∀ (j : Nat) t v, Try.f4.params[j]? = some t → args[j]? = some v → Value.okWide Try.prog W .any base t v)
    (hW : DataW.Whole enc Try.prog Try.f4.params.toList Rows.schemeFreeSpec.vars false W args.toList ds gs before) (hc : ∀ k, (Rows.OpenSpec.upto Rows.schemeFreeSpec).cond = some k → k H (ds ++ gs) = true) (hL : laidMetH Try.prog Rows.schemeFreeUptoRow.laid W) :
    Calls Try.prog 4 args W fun e W' => ∃ v, e = .returned v ∧ Rows.schemeFreeSpec.post enc Try.prog Try.f4 false true false false W args v W' := by
  have hW' := hW
  obtain ⟨p, q, hA0, hV, rfl, hfz, hnd⟩ := hW
  have hA : DataW.TrodAll enc Try.prog W 0 (fun _ => true) true Try.f4.params.toList args.toList ds p := hA0
  rw [Try.params4] at hA hval
  obtain ⟨v0, vs0, d0, ds0, p0, q0, e0, rfl, rfl, h0, hA0⟩ := trodAll_cons hA
  obtain ⟨v1, vs1, d1, ds1, p1, q1, e1, rfl, rfl, h1, hA1⟩ := trodAll_cons hA0
  obtain ⟨v2, vs2, d2, ds2, p2, q2, e2, rfl, rfl, h2, hA2⟩ := trodAll_cons hA1
  obtain ⟨e3, rfl, rfl⟩ := trodAll_nil hA2
  subst e3 e2 e1
  obtain rfl : args = #[v0, v1, v2] := Array.toList_inj.1 e0
  obtain ⟨rfl, rfl⟩ := trodVars_none hV
  have hbulk : Rows.uptoBulkAll [d0, d1, d2] ≤ 1048576 := by have := hc _ rfl; simpa [Rows.uptoSmall] using this
  obtain ⟨o_env, c_env, env, rfl, hs_env, hbk_env⟩ := tys_arg (hval 0 22 v0 rfl rfl) h0
  obtain ⟨vs_t, t, rfl, hv_t, hbk_t⟩ := open_Ty (hval 1 27 v1 rfl rfl) h1
  obtain ⟨vs_o, o, rfl, hv_o, hbk_o⟩ := open_Ty (hval 2 27 v2 rfl rfl) h2
  have hA0 := agree_snap W
  simp only [Rows.uptoBulkAll] at hbulk

  refine Calls.mono (schemeFree_c hA0 hs_env hv_t hv_o (fun x hx => by have h1 := hbk_env x hx; have h2 := wd_bulk x; have h3 := cnt_bulk x; exact ⟨by omega, by omega⟩) (by have h2 := wd_bulk t; omega) (by have h3 := cnt_bulk t; omega) (by have h2 := wd_bulk o; omega) (by have h3 := cnt_bulk o; omega)) fun e W' ⟨v, m', he, hx, hv⟩ => ?_
  subst hv
  exact ⟨_, he, post_law schemeFree_laid (by kernel_rfl) rfl rfl Try.underlying4 rfl hW' hx⟩
theorem schemeFree_laidmet (os : Go.Os) : laidMetH Try.prog Rows.schemeFreeUptoRow.laid (((World.holding Try.prog os ⟨#[], #[], []⟩)).forCall (fun _ _ => 0) ⟨#[], #[.slice none 0 0, .agg #[.int .i64 0, .string ⟨#[]⟩, .int .i64 0, .slice none 0 0, .slice none 0 0, .int .i64 0], .agg #[.int .i64 0, .string ⟨#[]⟩, .int .i64 0, .slice none 0 0, .slice none 0 0, .int .i64 0]], []⟩).memory :=
  laidMet_of_run' 8 (by kernel_rfl) (by kernel_rfl)
theorem schemeFree_reads (os : Go.Os) {H : Type} (enc : TypeId × Value → H) : ∃ places, DataW.whole enc Try.prog (((World.holding Try.prog os ⟨#[], #[], []⟩)).forCall (fun _ _ => 0) ⟨#[], #[.slice none 0 0, .agg #[.int .i64 0, .string ⟨#[]⟩, .int .i64 0, .slice none 0 0, .slice none 0 0, .int .i64 0], .agg #[.int .i64 0, .string ⟨#[]⟩, .int .i64 0, .slice none 0 0, .slice none 0 0, .int .i64 0]], []⟩).memory Try.f4.params.toList Rows.schemeFreeSpec.vars false #[.slice none 0 0, .agg #[.int .i64 0, .string ⟨#[]⟩, .int .i64 0, .slice none 0 0, .slice none 0 0, .int .i64 0], .agg #[.int .i64 0, .string ⟨#[]⟩, .int .i64 0, .slice none 0 0, .slice none 0 0, .int .i64 0]].toList 12 = some ([.nil, .agg [.lit (.int .i64 0), .lit (.string []), .lit (.int .i64 0), .nil, .agg [.nil, .lit (.int .i64 0)]], .agg [.lit (.int .i64 0), .lit (.string []), .lit (.int .i64 0), .nil, .agg [.nil, .lit (.int .i64 0)]]], [], places) :=
  ⟨[], by kernel_rfl⟩
set_option maxRecDepth 100000 in
theorem schemeFree_lifted (os : Go.Os) (started : os.Started) (H : Type) (enc : TypeId × Value → H) (F : Stop.Interp) :
    ReturnsInHanded {} Try.checked os 4 .any ((Rows.OpenSpec.upto Rows.schemeFreeSpec).preRow enc Try.prog Try.f4 Rows.schemeFreeUptoRow.domain false Rows.schemeFreeUptoRow.laid) (((Rows.OpenSpec.upto Rows.schemeFreeSpec).at F).post enc Try.prog Try.f4 false true false false) := by
  obtain ⟨places, hx⟩ := schemeFree_reads os enc
  refine returnsInHanded_of_row (C := Try.checked) (s := (Rows.OpenSpec.upto Rows.schemeFreeSpec)) schemeFree_own started (by kernel_rfl) Try.func4
    (witness_row_at (enc := enc) (C := Try.checked) false ((World.holding Try.prog os ⟨#[], #[], []⟩)) #[.slice none 0 0, .agg #[.int .i64 0, .string ⟨#[]⟩, .int .i64 0, .slice none 0 0, .slice none 0 0, .int .i64 0], .agg #[.int .i64 0, .string ⟨#[]⟩, .int .i64 0, .slice none 0 0, .slice none 0 0, .int .i64 0]] rfl (by kernel_rfl) (by kernel_rfl) (by kernel_rfl)
      (OpenSpec.preRow_of_cond 12 hx (by kernel_rfl) (fun k hk => by cases hk; kernel_rfl) (by kernel_rfl) (schemeFree_laidmet os))) ?_
  intro W base args ds gs before hval hW _ hc _ hL _ _
  exact schemeFree_contract H enc W base args ds gs before hval hW hc hL
theorem schemeFree_holds : Rows.SchemeFreeUptoSaid :=
  OpenClaim.holds_of_cond 4 Try.f4 rfl rfl rfl rfl rfl rfl rfl ⟨rfl, rfl, rfl, rfl, rfl⟩ rfl rfl rfl rfl rfl (by kernel_rfl) Try.func4 (by kernel_rfl)
    (of_decide_eq_true (by kernel_rfl)) (by unfold Func.isWrapper; first | (rw [if_pos (by decide +kernel)]; kernel_rfl) | (rw [if_neg (by decide +kernel)]; exact ⟨rfl, rfl⟩))
    (fun os started H enc _ F => by rw [OpenClaim.pre_eq_preRow]; exact schemeFree_lifted os started H enc F)
end Go.Proofs.Ytmpponcnohakdaa
