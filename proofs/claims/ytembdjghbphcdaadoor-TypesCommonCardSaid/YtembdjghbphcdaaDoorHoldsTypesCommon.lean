/-
  'brocade: TypesCommon': the given statement, from the walk. Conditions: none.
-/
import Derived.Test.YtembdjghbphcdaaDoorLawTypesCommon
import Derived.Test.YtembdjghbphcdaaDoorLaid1
import Derived.Test.YtembdjghbphcdaaDoorCards
import Derived.Test.YtembdjghbphcdaaDoorTie
import Derived.OpenShut
import Derived.Deep.DeepHandedRow
namespace Go.Proofs.YtembdjghbphcdaaDoor
set_option linter.all false
set_option maxRecDepth 4000
open Go.ChangeShapes Go.WideShapes Go.ChangeAt Go.RowKit Go.Deep

theorem typesCommon_own : ownKnob Tryd.prog.godebug = none := by kernel_rfl
theorem typesCommon_laid : laidOutB Tryd.prog = true := by kernel_rfl
set_option maxRecDepth 100000 in
theorem typesCommon_contract (H : Type) (enc : TypeId × Value → H) (W : World) (base : Nat) (args : Array Value) (ds gs : List (DataW H)) (before : List MemPlace)
    (hval : ∀ (j : Nat) t v, Tryd.f10.params[j]? = some t → args[j]? = some v → Value.okWide Tryd.prog W .any base t v)
    (hW : DataW.Whole enc Tryd.prog Tryd.f10.params.toList Rows.typesCommonSpec.vars false W args.toList ds gs before) (hc : ∀ k, (OpenSpec.ofChange Rows.typesCommonSpec).cond = some k → k H (ds ++ gs) = true) (hL : laidMetH Tryd.prog Rows.typesCommonRow.laid W) :
    Calls Tryd.prog 10 args W fun e W' => ∃ v, e = .returned v ∧ Rows.typesCommonSpec.post enc Tryd.prog Tryd.f10 false true false false W args v W' := by
  have hW' := hW
  obtain ⟨p, q, hA0, hV, rfl, hfz, hnd⟩ := hW
  have hA : DataW.TrodAll enc Tryd.prog W 0 (fun _ => true) true Tryd.f10.params.toList args.toList ds p := hA0
  rw [Tryd.params10] at hA hval
  obtain ⟨v0, vs0, d0, ds0, p0, q0, e0, rfl, rfl, h0, hA0⟩ := trodAll_cons hA
  obtain ⟨v1, vs1, d1, ds1, p1, q1, e1, rfl, rfl, h1, hA1⟩ := trodAll_cons hA0
  obtain ⟨v2, vs2, d2, ds2, p2, q2, e2, rfl, rfl, h2, hA2⟩ := trodAll_cons hA1
  obtain ⟨e3, rfl, rfl⟩ := trodAll_nil hA2
  subst e3 e2 e1
  obtain rfl : args = #[v0, v1, v2] := Array.toList_inj.1 e0
  obtain ⟨rfl, rfl⟩ := trodVars_none hV
  obtain ⟨vs_r, r, rfl, hv_r, hbk_r⟩ := open_Rw (hval 0 25 v0 rfl rfl) h0
  obtain ⟨a, rfl, ha_, hba_⟩ := open_Sb Tryd.underlying9 (hval 1 9 v1 rfl rfl) h1
  obtain ⟨b, rfl, hb_, hbb_⟩ := open_Sb Tryd.underlying9 (hval 2 9 v2 rfl rfl) h2
  have hA0 := agree_snap W
  have hT : Tab W := table hL

  refine Calls.mono (typesCommon_c hA0 hv_r hT) fun e W' ⟨v, m', he, hx, hv⟩ => ?_
  subst hv
  exact ⟨_, he, post_law typesCommon_laid (by kernel_rfl) rfl rfl Tryd.underlying4 rfl hW' hx⟩
theorem typesCommon_laidmet (os : Os) : laidMetH Tryd.prog Rows.typesCommonRow.laid ((laidWorld os).forCall (fun _ _ => 0) ⟨#[], #[.agg #[.slice none 0 0, .int .i64 0], .string ⟨#[]⟩, .string ⟨#[]⟩], []⟩).memory :=
  laidMet_of_run' 8 (by kernel_rfl) (by kernel_rfl)
theorem typesCommon_reads (os : Os) {H : Type} (enc : TypeId × Value → H) : ∃ places, DataW.whole enc Tryd.prog ((laidWorld os).forCall (fun _ _ => 0) ⟨#[], #[.agg #[.slice none 0 0, .int .i64 0], .string ⟨#[]⟩, .string ⟨#[]⟩], []⟩).memory Tryd.f10.params.toList Rows.typesCommonSpec.vars false #[.agg #[.slice none 0 0, .int .i64 0], .string ⟨#[]⟩, .string ⟨#[]⟩].toList 12 = some ([.agg [.nil, .lit (.int .i64 0)], .lit (.string []), .lit (.string [])], [], places) :=
  ⟨[], by kernel_rfl⟩
set_option maxRecDepth 100000 in
theorem typesCommon_lifted (os : Os) (started : os.Started) (H : Type) (enc : TypeId × Value → H) (F : Stop.Interp) :
    ReturnsInHanded {} Tryd.checked os 10 .any ((OpenSpec.ofChange Rows.typesCommonSpec).preRow enc Tryd.prog Tryd.f10 Rows.typesCommonRow.domain false Rows.typesCommonRow.laid) (((OpenSpec.ofChange Rows.typesCommonSpec).at F).post enc Tryd.prog Tryd.f10 false true false false) := by
  obtain ⟨places, hx⟩ := typesCommon_reads os enc
  refine returnsInHanded_of_row (C := Tryd.checked) (s := (OpenSpec.ofChange Rows.typesCommonSpec)) typesCommon_own started (by kernel_rfl) Tryd.func10
    (witness_row_at (enc := enc) (C := Tryd.checked) false (laidWorld os) #[.agg #[.slice none 0 0, .int .i64 0], .string ⟨#[]⟩, .string ⟨#[]⟩] rfl (by kernel_rfl) (by kernel_rfl) (by kernel_rfl)
      (OpenSpec.preRow_of_cond 12 hx (by kernel_rfl) (fun k hk => by cases hk) (by kernel_rfl) (typesCommon_laidmet os))) ?_
  intro W base args ds gs before hval hW _ hc _ hL _ _
  exact typesCommon_contract H enc W base args ds gs before hval hW hc hL
theorem typesCommon_said : Rows.TypesCommonSaid :=
  OpenClaim.holds_of_cond 10 Tryd.f10 rfl rfl rfl rfl rfl rfl rfl ⟨rfl, rfl, rfl, rfl, rfl⟩ rfl rfl rfl rfl rfl (by kernel_rfl) Tryd.func10 (by kernel_rfl)
    (of_decide_eq_true (by kernel_rfl)) (by unfold Func.isWrapper; first | (rw [if_pos (by decide +kernel)]; kernel_rfl) | (rw [if_neg (by decide +kernel)]; exact ⟨rfl, rfl⟩))
    (fun os started H enc _ F => by rw [OpenClaim.pre_eq_preRow]; exact typesCommon_lifted os started H enc F)
theorem typesCommon_plain (f : FuncId) (fn : Func) (hf : Tryd.pinned.checked.prog.funcNamed "brocade/brocadelaw04.TypesCommon" = some f) (hfn : Tryd.pinned.checked.prog.funcs[f]? = some fn) :
    false = Tryd.pinned.checked.prog.looks [] ∧ ∀ (j : Nat) t, fn.params[j]? = some t → Tryd.pinned.checked.prog.wantsStandIn t = false := by
  obtain rfl : f = 10 := Option.some.inj ((show Tryd.prog.funcNamed "brocade/brocadelaw04.TypesCommon" = some 10 by kernel_rfl).symm.trans hf) |>.symm
  obtain rfl : fn = Tryd.f10 := (Option.some.inj (Tryd.func10.symm.trans hfn)).symm
  refine ⟨by kernel_rfl, fun j t ht => ?_⟩
  rw [Tryd.params10] at ht
  have hm : t ∈ [25, 9, 9] := by simpa using Array.mem_of_getElem? ht
  have hall : ([25, 9, 9].all fun u => !Tryd.prog.wantsStandIn u) = true := by kernel_rfl
  exact (show Tryd.prog.wantsStandIn t = false by simpa using List.all_eq_true.1 hall t hm)
theorem typesCommon_holds : Rows.TypesCommonCardSaid :=
  Claim7.holds_tied_plain_at .later [] _ _ _ _ typesCommon_said (fun _ h => by cases h) (by kernel_rfl) (fun _ h => by cases h) typesCommon_row_tie rfl ⟨rfl, rfl⟩ (by kernel_rfl) rfl typesCommon_plain (by kernel_rfl)
end Go.Proofs.YtembdjghbphcdaaDoor
