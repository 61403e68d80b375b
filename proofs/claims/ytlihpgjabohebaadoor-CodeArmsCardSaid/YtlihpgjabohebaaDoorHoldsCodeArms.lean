/-
  'brocade: CodeArms': the given statement (full form), from the walk. Conditions: none.
-/
import Derived.Test.YtlihpgjabohebaaDoorLawCodeArms
import Derived.Test.YtlihpgjabohebaaDoorLaid1
import Derived.Test.YtlihpgjabohebaaDoorCards
import Derived.Test.YtlihpgjabohebaaDoorTie
import Derived.OpenShut
import Derived.Deep.DeepHandedRow
namespace Go.Proofs.YtlihpgjabohebaaDoor
set_option linter.all false
set_option maxRecDepth 4000
open Go.ChangeShapes Go.WideShapes Go.ChangeAt Go.RowKit Go.Deep

theorem codeArms_own : ownKnob Tryd.prog.godebug = none := by kernel_rfl
theorem codeArms_laid : laidOutB Tryd.prog = true := by kernel_rfl
set_option maxRecDepth 100000 in
theorem codeArms_contract (H : Type) (enc : TypeId × Value → H) (W : World) (base : Nat) (args : Array Value) (ds gs : List (DataW H)) (before : List MemPlace)
    (hval : ∀ (j : Nat) t v, Tryd.f4.params[j]? = some t → args[j]? = some v → Value.okWide Tryd.prog W .any base t v)
    (hW : DataW.Whole enc Tryd.prog Tryd.f4.params.toList Rows.codeArmsSpec.vars false W args.toList ds gs before) (hc : ∀ k, (OpenSpec.ofChange Rows.codeArmsSpec).cond = some k → k H (ds ++ gs) = true) (hL : laidMetH Tryd.prog Rows.codeArmsRow.laid W) :
    Calls Tryd.prog 4 args W fun e W' => ∃ v, e = .returned v ∧ Rows.codeArmsSpec.post enc Tryd.prog Tryd.f4 false true false false W args v W' := by
  have hW' := hW
  obtain ⟨p, q, hA0, hV, rfl, hfz, hnd⟩ := hW
  have hA : DataW.TrodAll enc Tryd.prog W 0 (fun _ => true) true Tryd.f4.params.toList args.toList ds p := hA0
  rw [Tryd.params4] at hA hval
  obtain ⟨v0, vs0, d0, ds0, p0, q0, e0, rfl, rfl, h0, hA0⟩ := trodAll_cons hA
  obtain ⟨v1, vs1, d1, ds1, p1, q1, e1, rfl, rfl, h1, hA1⟩ := trodAll_cons hA0
  obtain ⟨v2, vs2, d2, ds2, p2, q2, e2, rfl, rfl, h2, hA2⟩ := trodAll_cons hA1
  obtain ⟨v3, vs3, d3, ds3, p3, q3, e3, rfl, rfl, h3, hA3⟩ := trodAll_cons hA2
  obtain ⟨e4, rfl, rfl⟩ := trodAll_nil hA3
  subst e4 e3 e2 e1
  obtain rfl : args = #[v0, v1, v2, v3] := Array.toList_inj.1 e0
  obtain ⟨rfl, rfl⟩ := trodVars_none hV
  obtain ⟨a, rfl, ha_⟩ := open_I Tryd.underlying3 (hval 0 3 v0 rfl rfl) h0
  obtain ⟨b, rfl, hb_⟩ := open_I Tryd.underlying3 (hval 1 3 v1 rfl rfl) h1
  obtain ⟨tl, rfl⟩ := open_B Tryd.underlying4 (hval 2 4 v2 rfl rfl) h2
  obtain ⟨c, rfl, hc_⟩ := open_I Tryd.underlying3 (hval 3 3 v3 rfl rfl) h3
  have hA0 := agree_snap W
  have hT : Tab W := table hL
  refine Calls.mono (codeArms_c (a := a) (b := b) (tl := tl) (c := c) hA0 hT) fun e W' ⟨v, m', he, hx, hv⟩ => ?_
  subst hv
  exact ⟨_, he, post_law codeArms_laid (by kernel_rfl) rfl rfl Tryd.underlying4 rfl hW' hx⟩
theorem codeArms_laidmet (os : Go.Os) : laidMetH Tryd.prog Rows.codeArmsRow.laid ((laidWorld os).forCall (fun _ _ => 0) ⟨#[], #[.int .i64 0, .int .i64 0, .bool false, .int .i64 0], []⟩).memory :=
  laidMet_of_run' 8 (by kernel_rfl) (by kernel_rfl)
theorem codeArms_reads (os : Go.Os) {H : Type} (enc : TypeId × Value → H) : ∃ places, DataW.whole enc Tryd.prog ((laidWorld os).forCall (fun _ _ => 0) ⟨#[], #[.int .i64 0, .int .i64 0, .bool false, .int .i64 0], []⟩).memory Tryd.f4.params.toList Rows.codeArmsSpec.vars false #[.int .i64 0, .int .i64 0, .bool false, .int .i64 0].toList 30 = some ([.lit (.int .i64 0), .lit (.int .i64 0), .lit (.bool false), .lit (.int .i64 0)], [], places) :=
  ⟨[], by kernel_rfl⟩
set_option maxRecDepth 100000 in
theorem codeArms_lifted (os : Go.Os) (started : os.Started) (H : Type) (enc : TypeId × Value → H) (F : Stop.Interp) :
    ReturnsInHanded {} Tryd.checked os 4 .any ((OpenSpec.ofChange Rows.codeArmsSpec).preRow enc Tryd.prog Tryd.f4 Rows.codeArmsRow.domain false Rows.codeArmsRow.laid) (((OpenSpec.ofChange Rows.codeArmsSpec).at F).post enc Tryd.prog Tryd.f4 false true false false) := by
  obtain ⟨places, hx⟩ := codeArms_reads os enc
  refine returnsInHanded_of_row (C := Tryd.checked) (s := (OpenSpec.ofChange Rows.codeArmsSpec)) codeArms_own started (by kernel_rfl) Tryd.func4
    (witness_row_at (enc := enc) (C := Tryd.checked) false (laidWorld os) #[.int .i64 0, .int .i64 0, .bool false, .int .i64 0] rfl (by kernel_rfl) (by kernel_rfl) (by kernel_rfl)
      (OpenSpec.preRow_of_cond 30 hx (by kernel_rfl) (fun k hk => by cases hk) (by kernel_rfl) (codeArms_laidmet os))) ?_
  intro W base args ds gs before hval hW _ hc _ hL _ _
  exact codeArms_contract H enc W base args ds gs before hval hW hc hL
theorem codeArms_said : Rows.CodeArmsSaid :=
  OpenClaim.holds_of_cond 4 Tryd.f4 rfl rfl rfl rfl rfl rfl rfl ⟨rfl, rfl, rfl, rfl, rfl⟩ rfl rfl rfl rfl rfl (by kernel_rfl) Tryd.func4 (by kernel_rfl)
    (of_decide_eq_true (by kernel_rfl)) (by unfold Func.isWrapper; first | (rw [if_pos (by decide +kernel)]; kernel_rfl) | (rw [if_neg (by decide +kernel)]; exact ⟨rfl, rfl⟩))
    (fun os started H enc _ F => by rw [OpenClaim.pre_eq_preRow]; exact codeArms_lifted os started H enc F)
theorem codeArms_plain (f : FuncId) (fn : Func) (hf : Tryd.pinned.checked.prog.funcNamed "brocade/brocadelaw15.CodeArms" = some f) (hfn : Tryd.pinned.checked.prog.funcs[f]? = some fn) :
    false = Tryd.pinned.checked.prog.looks [] ∧ ∀ (j : Nat) t, fn.params[j]? = some t → Tryd.pinned.checked.prog.wantsStandIn t = false := by
  obtain rfl : f = 4 := Option.some.inj ((show Tryd.prog.funcNamed "brocade/brocadelaw15.CodeArms" = some 4 by kernel_rfl).symm.trans hf) |>.symm
  obtain rfl : fn = Tryd.f4 := (Option.some.inj (Tryd.func4.symm.trans hfn)).symm
  refine ⟨by kernel_rfl, fun j t ht => ?_⟩
  rw [Tryd.params4] at ht
  have hm : t ∈ [3, 3, 4, 3] := by simpa using Array.mem_of_getElem? ht
  have hall : ([3, 3, 4, 3].all fun u => !Tryd.prog.wantsStandIn u) = true := by kernel_rfl
  exact (show Tryd.prog.wantsStandIn t = false by simpa using List.all_eq_true.1 hall t hm)
theorem codeArms_holds : Rows.CodeArmsCardSaid :=
  Claim7.holds_tied_plain_at .later [] _ _ _ _ codeArms_said (fun _ h => by cases h) (by kernel_rfl) (fun _ h => by cases h) codeArms_row_tie rfl ⟨rfl, rfl⟩ (by kernel_rfl) rfl codeArms_plain (by kernel_rfl)
end Go.Proofs.YtlihpgjabohebaaDoor
