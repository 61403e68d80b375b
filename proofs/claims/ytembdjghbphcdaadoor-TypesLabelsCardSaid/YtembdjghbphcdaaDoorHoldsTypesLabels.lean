/-
  'brocade: TypesLabels': the given statement, from the walk. Conditions: none.
-/
import Derived.Test.YtembdjghbphcdaaDoorLawTypesLabels
import Derived.Test.YtembdjghbphcdaaDoorLaid1
import Derived.Test.YtembdjghbphcdaaDoorCards
import Derived.Test.YtembdjghbphcdaaDoorTie
import Derived.OpenShut
import Derived.Deep.DeepHandedRow
namespace Go.Proofs.YtembdjghbphcdaaDoor
set_option linter.all false
set_option maxRecDepth 4000
open Go.ChangeShapes Go.WideShapes Go.ChangeAt Go.RowKit Go.Deep

theorem typesLabels_own : ownKnob Tryd.prog.godebug = none := by kernel_rfl
theorem typesLabels_laid : laidOutB Tryd.prog = true := by kernel_rfl
set_option maxRecDepth 100000 in
theorem typesLabels_contract (H : Type) (enc : TypeId × Value → H) (W : World) (base : Nat) (args : Array Value) (ds gs : List (DataW H)) (before : List MemPlace)
    (hval : ∀ (j : Nat) t v, Tryd.f9.params[j]? = some t → args[j]? = some v → Value.okWide Tryd.prog W .any base t v)
    (hW : DataW.Whole enc Tryd.prog Tryd.f9.params.toList Rows.typesLabelsSpec.vars false W args.toList ds gs before) (hc : ∀ k, (OpenSpec.ofChange Rows.typesLabelsSpec).cond = some k → k H (ds ++ gs) = true) (hL : laidMetH Tryd.prog Rows.typesLabelsRow.laid W) :
    Calls Tryd.prog 9 args W fun e W' => ∃ v, e = .returned v ∧ Rows.typesLabelsSpec.post enc Tryd.prog Tryd.f9 false true false false W args v W' := by
  have hW' := hW
  obtain ⟨p, q, hA0, hV, rfl, hfz, hnd⟩ := hW
  have hA : DataW.TrodAll enc Tryd.prog W 0 (fun _ => true) true Tryd.f9.params.toList args.toList ds p := hA0
  rw [Tryd.params9] at hA hval
  obtain ⟨v0, vs0, d0, ds0, p0, q0, e0, rfl, rfl, h0, hA0⟩ := trodAll_cons hA
  obtain ⟨v1, vs1, d1, ds1, p1, q1, e1, rfl, rfl, h1, hA1⟩ := trodAll_cons hA0
  obtain ⟨e2, rfl, rfl⟩ := trodAll_nil hA1
  subst e2 e1
  obtain rfl : args = #[v0, v1] := Array.toList_inj.1 e0
  obtain ⟨rfl, rfl⟩ := trodVars_none hV
  obtain ⟨vs_r, r, rfl, hv_r, hbk_r⟩ := open_Rw (hval 0 25 v0 rfl rfl) h0
  obtain ⟨s, rfl, hs_, hbs_⟩ := open_Sb Tryd.underlying9 (hval 1 9 v1 rfl rfl) h1
  have hA0 := agree_snap W
  have hT : Tab W := table hL

  refine Calls.mono (typesLabels_c hA0 hv_r hT) fun e W' ⟨v, m', he, hx, hv⟩ => ?_
  subst hv
  exact ⟨_, he, post_law typesLabels_laid (by kernel_rfl) rfl rfl Tryd.underlying4 rfl hW' hx⟩
theorem typesLabels_laidmet (os : Os) : laidMetH Tryd.prog Rows.typesLabelsRow.laid ((laidWorld os).forCall (fun _ _ => 0) ⟨#[], #[.agg #[.slice none 0 0, .int .i64 0], .string ⟨#[]⟩], []⟩).memory :=
  laidMet_of_run' 8 (by kernel_rfl) (by kernel_rfl)
theorem typesLabels_reads (os : Os) {H : Type} (enc : TypeId × Value → H) : ∃ places, DataW.whole enc Tryd.prog ((laidWorld os).forCall (fun _ _ => 0) ⟨#[], #[.agg #[.slice none 0 0, .int .i64 0], .string ⟨#[]⟩], []⟩).memory Tryd.f9.params.toList Rows.typesLabelsSpec.vars false #[.agg #[.slice none 0 0, .int .i64 0], .string ⟨#[]⟩].toList 12 = some ([.agg [.nil, .lit (.int .i64 0)], .lit (.string [])], [], places) :=
  ⟨[], by kernel_rfl⟩
set_option maxRecDepth 100000 in
theorem typesLabels_lifted (os : Os) (started : os.Started) (H : Type) (enc : TypeId × Value → H) (F : Stop.Interp) :
    ReturnsInHanded {} Tryd.checked os 9 .any ((OpenSpec.ofChange Rows.typesLabelsSpec).preRow enc Tryd.prog Tryd.f9 Rows.typesLabelsRow.domain false Rows.typesLabelsRow.laid) (((OpenSpec.ofChange Rows.typesLabelsSpec).at F).post enc Tryd.prog Tryd.f9 false true false false) := by
  obtain ⟨places, hx⟩ := typesLabels_reads os enc
  refine returnsInHanded_of_row (C := Tryd.checked) (s := (OpenSpec.ofChange Rows.typesLabelsSpec)) typesLabels_own started (by kernel_rfl) Tryd.func9
    (witness_row_at (enc := enc) (C := Tryd.checked) false (laidWorld os) #[.agg #[.slice none 0 0, .int .i64 0], .string ⟨#[]⟩] rfl (by kernel_rfl) (by kernel_rfl) (by kernel_rfl)
      (OpenSpec.preRow_of_cond 12 hx (by kernel_rfl) (fun k hk => by cases hk) (by kernel_rfl) (typesLabels_laidmet os))) ?_
  intro W base args ds gs before hval hW _ hc _ hL _ _
  exact typesLabels_contract H enc W base args ds gs before hval hW hc hL
theorem typesLabels_said : Rows.TypesLabelsSaid :=
  OpenClaim.holds_of_cond 9 Tryd.f9 rfl rfl rfl rfl rfl rfl rfl ⟨rfl, rfl, rfl, rfl, rfl⟩ rfl rfl rfl rfl rfl (by kernel_rfl) Tryd.func9 (by kernel_rfl)
    (of_decide_eq_true (by kernel_rfl)) (by unfold Func.isWrapper; first | (rw [if_pos (by decide +kernel)]; kernel_rfl) | (rw [if_neg (by decide +kernel)]; exact ⟨rfl, rfl⟩))
    (fun os started H enc _ F => by rw [OpenClaim.pre_eq_preRow]; exact typesLabels_lifted os started H enc F)
theorem typesLabels_plain (f : FuncId) (fn : Func) (hf : Tryd.pinned.checked.prog.funcNamed "brocade/brocadelaw04.TypesLabels" = some f) (hfn : Tryd.pinned.checked.prog.funcs[f]? = some fn) :
    false = Tryd.pinned.checked.prog.looks [] ∧ ∀ (j : Nat) t, fn.params[j]? = some t → Tryd.pinned.checked.prog.wantsStandIn t = false := by
  obtain rfl : f = 9 := Option.some.inj ((show Tryd.prog.funcNamed "brocade/brocadelaw04.TypesLabels" = some 9 by kernel_rfl).symm.trans hf) |>.symm
  obtain rfl : fn = Tryd.f9 := (Option.some.inj (Tryd.func9.symm.trans hfn)).symm
  refine ⟨by kernel_rfl, fun j t ht => ?_⟩
  rw [Tryd.params9] at ht
  have hm : t ∈ [25, 9] := by simpa using Array.mem_of_getElem? ht
  have hall : ([25, 9].all fun u => !Tryd.prog.wantsStandIn u) = true := by kernel_rfl
  exact (show Tryd.prog.wantsStandIn t = false by simpa using List.all_eq_true.1 hall t hm)
theorem typesLabels_holds : Rows.TypesLabelsCardSaid :=
  Claim7.holds_tied_plain_at .later [] _ _ _ _ typesLabels_said (fun _ h => by cases h) (by kernel_rfl) (fun _ h => by cases h) typesLabels_row_tie rfl ⟨rfl, rfl⟩ (by kernel_rfl) rfl typesLabels_plain (by kernel_rfl)
end Go.Proofs.YtembdjghbphcdaaDoor
