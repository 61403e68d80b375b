/-
  'brocade: CodeBinds': the given statement (full form), from the walk. Conditions: none.
-/
import Derived.Test.YtlihpgjabohebaaDoorLawCodeBinds
import Derived.Test.YtlihpgjabohebaaDoorLaid1
import Derived.Test.YtlihpgjabohebaaDoorCards
import Derived.Test.YtlihpgjabohebaaDoorTie
import Derived.OpenShut
import Derived.Deep.DeepHandedRow
namespace Go.Proofs.YtlihpgjabohebaaDoor
set_option linter.all false
set_option maxRecDepth 4000
open Go.ChangeShapes Go.WideShapes Go.ChangeAt Go.RowKit Go.Deep

theorem codeBinds_own : ownKnob Tryd.prog.godebug = none := by kernel_rfl
theorem codeBinds_laid : laidOutB Tryd.prog = true := by kernel_rfl
set_option maxRecDepth 100000 in
theorem codeBinds_contract (H : Type) (enc : TypeId × Value → H) (W : World) (base : Nat) (args : Array Value) (ds gs : List (DataW H)) (before : List MemPlace)
    (hval : ∀ (j : Nat) t v, Tryd.f7.params[j]? = some t → args[j]? = some v → Value.okWide Tryd.prog W .any base t v)
    (hW : DataW.Whole enc Tryd.prog Tryd.f7.params.toList Rows.codeBindsSpec.vars false W args.toList ds gs before) (hc : ∀ k, (OpenSpec.ofChange Rows.codeBindsSpec).cond = some k → k H (ds ++ gs) = true) (hL : laidMetH Tryd.prog Rows.codeBindsRow.laid W) :
    Calls Tryd.prog 7 args W fun e W' => ∃ v, e = .returned v ∧ Rows.codeBindsSpec.post enc Tryd.prog Tryd.f7 false true false false W args v W' := by
  have hW' := hW
  obtain ⟨p, q, hA0, hV, rfl, hfz, hnd⟩ := hW
  have hA : DataW.TrodAll enc Tryd.prog W 0 (fun _ => true) true Tryd.f7.params.toList args.toList ds p := hA0
  rw [Tryd.params7] at hA hval
  obtain ⟨v0, vs0, d0, ds0, p0, q0, e0, rfl, rfl, h0, hA0⟩ := trodAll_cons hA
  obtain ⟨v1, vs1, d1, ds1, p1, q1, e1, rfl, rfl, h1, hA1⟩ := trodAll_cons hA0
  obtain ⟨e2, rfl, rfl⟩ := trodAll_nil hA1
  subst e2 e1
  obtain rfl : args = #[v0, v1] := Array.toList_inj.1 e0
  obtain ⟨rfl, rfl⟩ := trodVars_none hV
  obtain ⟨vs_t, t, rfl, hv_t, hq_t⟩ := open_Cd (hval 0 25 v0 rfl rfl) h0
  obtain ⟨s, rfl, hs_, hbs_⟩ := open_Sb Tryd.underlying9 (hval 1 9 v1 rfl rfl) h1
  have hA0 := agree_snap W
  have hT : Tab W := table hL
  refine Calls.mono (codeBinds_c (s := s) hA0 hv_t hT) fun e W' ⟨v, m', he, hx, hv⟩ => ?_
  subst hv
  exact ⟨_, he, post_law codeBinds_laid (by kernel_rfl) rfl rfl Tryd.underlying4 rfl hW' hx⟩
theorem codeBinds_laidmet (os : Go.Os) : laidMetH Tryd.prog Rows.codeBindsRow.laid ((laidWorld os).forCall (fun _ _ => 0) ⟨#[], #[.agg #[.int .i64 0, .string ⟨#[]⟩, .string ⟨#[]⟩, .int .i64 0, .slice none 0 0, .slice none 0 0], .string ⟨#[]⟩], []⟩).memory :=
  laidMet_of_run' 8 (by kernel_rfl) (by kernel_rfl)
theorem codeBinds_reads (os : Go.Os) {H : Type} (enc : TypeId × Value → H) : ∃ places, DataW.whole enc Tryd.prog ((laidWorld os).forCall (fun _ _ => 0) ⟨#[], #[.agg #[.int .i64 0, .string ⟨#[]⟩, .string ⟨#[]⟩, .int .i64 0, .slice none 0 0, .slice none 0 0], .string ⟨#[]⟩], []⟩).memory Tryd.f7.params.toList Rows.codeBindsSpec.vars false #[.agg #[.int .i64 0, .string ⟨#[]⟩, .string ⟨#[]⟩, .int .i64 0, .slice none 0 0, .slice none 0 0], .string ⟨#[]⟩].toList 30 = some ([.agg [.lit (.int .i64 0), .lit (.string []), .lit (.string []), .lit (.int .i64 0), .nil, .nil], .lit (.string [])], [], places) :=
  ⟨[], by kernel_rfl⟩
set_option maxRecDepth 100000 in
theorem codeBinds_lifted (os : Go.Os) (started : os.Started) (H : Type) (enc : TypeId × Value → H) (F : Stop.Interp) :
    ReturnsInHanded {} Tryd.checked os 7 .any ((OpenSpec.ofChange Rows.codeBindsSpec).preRow enc Tryd.prog Tryd.f7 Rows.codeBindsRow.domain false Rows.codeBindsRow.laid) (((OpenSpec.ofChange Rows.codeBindsSpec).at F).post enc Tryd.prog Tryd.f7 false true false false) := by
  obtain ⟨places, hx⟩ := codeBinds_reads os enc
  refine returnsInHanded_of_row (C := Tryd.checked) (s := (OpenSpec.ofChange Rows.codeBindsSpec)) codeBinds_own started (by kernel_rfl) Tryd.func7
    (witness_row_at (enc := enc) (C := Tryd.checked) false (laidWorld os) #[.agg #[.int .i64 0, .string ⟨#[]⟩, .string ⟨#[]⟩, .int .i64 0, .slice none 0 0, .slice none 0 0], .string ⟨#[]⟩] rfl (by kernel_rfl) (by kernel_rfl) (by kernel_rfl)
      (OpenSpec.preRow_of_cond 30 hx (by kernel_rfl) (fun k hk => by cases hk) (by kernel_rfl) (codeBinds_laidmet os))) ?_
  intro W base args ds gs before hval hW _ hc _ hL _ _
  exact codeBinds_contract H enc W base args ds gs before hval hW hc hL
theorem codeBinds_said : Rows.CodeBindsSaid :=
  OpenClaim.holds_of_cond 7 Tryd.f7 rfl rfl rfl rfl rfl rfl rfl ⟨rfl, rfl, rfl, rfl, rfl⟩ rfl rfl rfl rfl rfl (by kernel_rfl) Tryd.func7 (by kernel_rfl)
    (of_decide_eq_true (by kernel_rfl)) (by unfold Func.isWrapper; first | (rw [if_pos (by decide +kernel)]; kernel_rfl) | (rw [if_neg (by decide +kernel)]; exact ⟨rfl, rfl⟩))
    (fun os started H enc _ F => by rw [OpenClaim.pre_eq_preRow]; exact codeBinds_lifted os started H enc F)
theorem codeBinds_plain (f : FuncId) (fn : Func) (hf : Tryd.pinned.checked.prog.funcNamed "brocade/brocadelaw15.CodeBinds" = some f) (hfn : Tryd.pinned.checked.prog.funcs[f]? = some fn) :
    false = Tryd.pinned.checked.prog.looks [] ∧ ∀ (j : Nat) t, fn.params[j]? = some t → Tryd.pinned.checked.prog.wantsStandIn t = false := by
  obtain rfl : f = 7 := Option.some.inj ((show Tryd.prog.funcNamed "brocade/brocadelaw15.CodeBinds" = some 7 by kernel_rfl).symm.trans hf) |>.symm
  obtain rfl : fn = Tryd.f7 := (Option.some.inj (Tryd.func7.symm.trans hfn)).symm
  refine ⟨by kernel_rfl, fun j t ht => ?_⟩
  rw [Tryd.params7] at ht
  have hm : t ∈ [25, 9] := by simpa using Array.mem_of_getElem? ht
  have hall : ([25, 9].all fun u => !Tryd.prog.wantsStandIn u) = true := by kernel_rfl
  exact (show Tryd.prog.wantsStandIn t = false by simpa using List.all_eq_true.1 hall t hm)
theorem codeBinds_holds : Rows.CodeBindsCardSaid :=
  Claim7.holds_tied_plain_at .later [] _ _ _ _ codeBinds_said (fun _ h => by cases h) (by kernel_rfl) (fun _ h => by cases h) codeBinds_row_tie rfl ⟨rfl, rfl⟩ (by kernel_rfl) rfl codeBinds_plain (by kernel_rfl)
end Go.Proofs.YtlihpgjabohebaaDoor
