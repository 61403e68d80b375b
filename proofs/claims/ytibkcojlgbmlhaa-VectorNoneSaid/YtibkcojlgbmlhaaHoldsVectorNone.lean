/-
  'brocadelaw: VectorNone': the given statement, from the walk. Conditions: none.
-/
import Derived.Test.YtibkcojlgbmlhaaFrame
import Derived.Test.YtibkcojlgbmlhaaLawNone
namespace Go.Proofs.Ytibkcojlgbmlhaa
open Go.ChangeShapes Go.WideShapes Go.ChangeAt Go.RowKit Go.Deep

theorem vectorNone_own : ownKnob Try.prog.godebug = none := by kernel_rfl
theorem vectorNone_laid : laidOutB Try.prog = true := by kernel_rfl
set_option maxRecDepth 100000 in
theorem vectorNone_lifted (os : Os) (started : os.Started) (H : Type) (enc : TypeId × Value → H) :
    ReturnsInHanded {} Try.checked os 7 .any (Rows.vectorNoneSpec.pre6 enc Try.prog Try.f7 Rows.vectorNoneRow.domain false) (Rows.vectorNoneSpec.post enc Try.prog Try.f7 false true false false) := by
  refine returnsInHanded_of_change (C := Try.checked) vectorNone_own started (by kernel_rfl) Try.func7
    (ChangeSpec.witness6 (enc := enc) (C := Try.checked) false ⟨#[], #[.string ⟨#[]⟩, .int .i64 0, .int .i64 0], []⟩ 8 (by kernel_rfl) (by kernel_rfl) (by kernel_rfl) (by kernel_rfl)) ?_
  intro W base args ds gs before hval0 hW hcnd _
  have hval : ∀ (j : Nat) t v, Try.f7.params[j]? = some t → args[j]? = some v → Value.okWide Try.prog W .any base t v := hval0
  have hW' := hW
  obtain ⟨p, q, hA0, hV, rfl, hfz, hnd⟩ := hW
  have hA : DataW.TrodAll enc Try.prog W 0 (fun _ => true) true Try.f7.params.toList args.toList ds p := hA0
  rw [Try.params7] at hA hval
  obtain ⟨v0, vs0, d0, ds0, p0, q0, e0, rfl, rfl, h0, hA0⟩ := trodAll_cons hA
  obtain ⟨v1, vs1, d1, ds1, p1, q1, e1, rfl, rfl, h1, hA1⟩ := trodAll_cons hA0
  obtain ⟨v2, vs2, d2, ds2, p2, q2, e2, rfl, rfl, h2, hA2⟩ := trodAll_cons hA1
  obtain ⟨e3, rfl, rfl⟩ := trodAll_nil hA2
  subst e3 e2 e1
  obtain rfl : args = #[v0, v1, v2] := Array.toList_inj.1 e0
  obtain ⟨rfl, rfl⟩ := trodVars_none hV
  obtain ⟨e, rfl, he_⟩ := open_S Try.underlying9 (hval 0 9 v0 rfl rfl) h0
  obtain ⟨k, rfl, hk_⟩ := open_I Try.underlying3 (hval 1 3 v1 rfl rfl) h1
  obtain ⟨n, rfl, hn_⟩ := open_I Try.underlying3 (hval 2 3 v2 rfl rfl) h2
  refine Calls.mono (law_none (agree_snap W) hn_) fun e W' ⟨v, m', he, hx, hv⟩ => ?_
  subst hv
  exact ⟨_, he, post_law vectorNone_laid (by kernel_rfl) rfl rfl Try.underlying4 rfl hW' hx⟩
theorem vectorNone_holds : Rows.VectorNoneSaid :=
  OpenClaim.holds_of_wide 7 Try.f7 rfl rfl rfl rfl rfl rfl rfl ⟨rfl, rfl, rfl, rfl, rfl⟩ rfl rfl rfl rfl rfl (by kernel_rfl) Try.func7 (by kernel_rfl)
    (of_decide_eq_true (by kernel_rfl)) (by unfold Func.isWrapper; rw [if_neg (by decide +kernel)]; exact ⟨rfl, rfl⟩)
    (fun os started H enc _ => vectorNone_lifted os started H enc)
end Go.Proofs.Ytibkcojlgbmlhaa
