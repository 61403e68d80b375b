/-
  'brocade: UnifySame': the given statement, where what is read is of bulk at most 1048576, from the walk. Conditions: none.
-/
import Derived.Test.YtlidonjpgigocaaGreatLawUnifySame
import Derived.Test.YtlidonjpgigocaaGreatOpens7
import Derived.LaidSub
import Derived.MakeChecks
import Derived.LaidLaws
import Derived.Lib.LaidTab
import Derived.OpenShut
import Derived.Deep.DeepHandedRow
namespace Go.Proofs.YtlidonjpgigocaaGreat
set_option linter.all false
set_option maxRecDepth 4000
open Go.ChangeShapes Go.WideShapes Go.ChangeAt Go.RowKit Go.Deep

theorem unifySame_own : ownKnob Tryz.prog.godebug = none := by kernel_rfl
theorem unifySame_laid : laidOutB Tryz.prog = true := by kernel_rfl
set_option maxRecDepth 100000 in
theorem unifySame_contract (H : Type) (enc : TypeId × Value → H) (W : World) (base : Nat) (args : Array Value) (ds gs : List (DataW H)) (before : List MemPlace)
    (hval : ∀ (j : Nat) t v, Tryz.f4.params[j]? = some t → args[j]? = some v → Value.okWide Tryz.prog W .any base t v)
    (hW : DataW.Whole enc Tryz.prog Tryz.f4.params.toList Rows.unifySameSpec.vars false W args.toList ds gs before) (hc : ∀ k, (Rows.OpenSpec.upto Rows.unifySameSpec).cond = some k → k H (ds ++ gs) = true) (hL : laidMetH Tryz.prog Rows.unifySameUptoRow.laid W) :
    Calls Tryz.prog 4 args W fun e W' => ∃ v, e = .returned v ∧ Rows.unifySameSpec.post enc Tryz.prog Tryz.f4 false true false false W args v W' := by
  have hW' := hW
  obtain ⟨p, q, hA0, hV, rfl, hfz, hnd⟩ := hW
  have hA : DataW.TrodAll enc Tryz.prog W 0 (fun _ => true) true Tryz.f4.params.toList args.toList ds p := hA0
  rw [Tryz.params4] at hA hval
  obtain ⟨v0, vs0, d0, ds0, p0, q0, e0, rfl, rfl, h0, hA0⟩ := trodAll_cons hA
  obtain ⟨v1, vs1, d1, ds1, p1, q1, e1, rfl, rfl, h1, hA1⟩ := trodAll_cons hA0
  obtain ⟨e2, rfl, rfl⟩ := trodAll_nil hA1
  subst e2 e1
  obtain rfl : args = #[v0, v1] := Array.toList_inj.1 e0
  obtain ⟨rfl, rfl⟩ := trodVars_none hV
  have hbulk : Rows.uptoBulkAll [d0, d1] ≤ 1048576 := by have := hc _ rfl; simpa [Rows.uptoSmall] using this
  obtain ⟨vs_a, a, rfl, hv_a, hbk_a⟩ := open_Ty (hval 0 45 v0 rfl rfl) h0
  obtain ⟨vs_b, b, rfl, hv_b, hbk_b⟩ := open_Ty (hval 1 45 v1 rfl rfl) h1
  have hA0 := agree_snap W
  simp only [Rows.uptoBulkAll] at hbulk

  refine Calls.mono (unifySame_c hA0 hv_a hv_b (by have h2 := wd_bulk a; omega) (by have h3 := cnt_bulk a; omega) (by have h2 := wd_bulk b; omega) (by have h3 := cnt_bulk b; omega)) fun e W' ⟨v, m', he, hx, hv⟩ => ?_
  subst hv
  exact ⟨_, he, post_law unifySame_laid (by kernel_rfl) rfl rfl Tryz.underlying4 rfl hW' hx⟩
theorem unifySame_laidmet (os : Go.Os) : laidMetH Tryz.prog Rows.unifySameUptoRow.laid (((World.holding Tryz.prog os ⟨#[], #[], []⟩)).forCall (fun _ _ => 0) ⟨#[], #[.agg #[.int .i64 0, .string ⟨#[]⟩, .int .i64 0, .slice none 0 0, .slice none 0 0, .int .i64 0], .agg #[.int .i64 0, .string ⟨#[]⟩, .int .i64 0, .slice none 0 0, .slice none 0 0, .int .i64 0]], []⟩).memory :=
  laidMet_of_run' 8 (by kernel_rfl) (by kernel_rfl)
theorem unifySame_reads (os : Go.Os) {H : Type} (enc : TypeId × Value → H) : ∃ places, DataW.whole enc Tryz.prog (((World.holding Tryz.prog os ⟨#[], #[], []⟩)).forCall (fun _ _ => 0) ⟨#[], #[.agg #[.int .i64 0, .string ⟨#[]⟩, .int .i64 0, .slice none 0 0, .slice none 0 0, .int .i64 0], .agg #[.int .i64 0, .string ⟨#[]⟩, .int .i64 0, .slice none 0 0, .slice none 0 0, .int .i64 0]], []⟩).memory Tryz.f4.params.toList Rows.unifySameSpec.vars false #[.agg #[.int .i64 0, .string ⟨#[]⟩, .int .i64 0, .slice none 0 0, .slice none 0 0, .int .i64 0], .agg #[.int .i64 0, .string ⟨#[]⟩, .int .i64 0, .slice none 0 0, .slice none 0 0, .int .i64 0]].toList 12 = some ([.agg [.lit (.int .i64 0), .lit (.string []), .lit (.int .i64 0), .nil, .agg [.nil, .lit (.int .i64 0)]], .agg [.lit (.int .i64 0), .lit (.string []), .lit (.int .i64 0), .nil, .agg [.nil, .lit (.int .i64 0)]]], [], places) :=
  ⟨[], by kernel_rfl⟩
set_option maxRecDepth 100000 in
theorem unifySame_lifted (os : Go.Os) (started : os.Started) (H : Type) (enc : TypeId × Value → H) (F : Stop.Interp) :
    ReturnsInHanded {} Tryz.checked os 4 .any ((Rows.OpenSpec.upto Rows.unifySameSpec).preRow enc Tryz.prog Tryz.f4 Rows.unifySameUptoRow.domain false Rows.unifySameUptoRow.laid) (((Rows.OpenSpec.upto Rows.unifySameSpec).at F).post enc Tryz.prog Tryz.f4 false true false false) := by
  obtain ⟨places, hx⟩ := unifySame_reads os enc
  refine returnsInHanded_of_row (C := Tryz.checked) (s := (Rows.OpenSpec.upto Rows.unifySameSpec)) unifySame_own started (by kernel_rfl) Tryz.func4
    (witness_row_at (enc := enc) (C := Tryz.checked) false ((World.holding Tryz.prog os ⟨#[], #[], []⟩)) #[.agg #[.int .i64 0, .string ⟨#[]⟩, .int .i64 0, .slice none 0 0, .slice none 0 0, .int .i64 0], .agg #[.int .i64 0, .string ⟨#[]⟩, .int .i64 0, .slice none 0 0, .slice none 0 0, .int .i64 0]] rfl (by kernel_rfl) (by kernel_rfl) (by kernel_rfl)
      (OpenSpec.preRow_of_cond 12 hx (by kernel_rfl) (fun k hk => by cases hk; kernel_rfl) (by kernel_rfl) (unifySame_laidmet os))) ?_
  intro W base args ds gs before hval hW _ hc _ hL _ _
  exact unifySame_contract H enc W base args ds gs before hval hW hc hL
theorem unifySame_holds : Rows.UnifySameUptoSaid :=
  OpenClaim.holds_of_cond 4 Tryz.f4 rfl rfl rfl rfl rfl rfl rfl ⟨rfl, rfl, rfl, rfl, rfl⟩ rfl rfl rfl rfl rfl (by kernel_rfl) Tryz.func4 (by kernel_rfl)
    (of_decide_eq_true (by kernel_rfl)) (by unfold Func.isWrapper; first | (rw [if_pos (by decide +kernel)]; kernel_rfl) | (rw [if_neg (by decide +kernel)]; exact ⟨rfl, rfl⟩))
    (fun os started H enc _ F => by rw [OpenClaim.pre_eq_preRow]; exact unifySame_lifted os started H enc F)
end Go.Proofs.YtlidonjpgigocaaGreat
