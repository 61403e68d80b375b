/-
  'brocadelaw: VectorTells': the given statement, from the walk. Conditions: none.
-/
import Derived.Test.YtibkcojlgbmlhaaFrame
import Derived.Test.YtibkcojlgbmlhaaLawTells
namespace Go.Proofs.Ytibkcojlgbmlhaa
open Go.ChangeShapes Go.WideShapes Go.ChangeAt Go.RowKit Go.Deep
theorem ent_elem {H : Type} {enc : TypeId × Value → H} {W : World} {base : Nat} {spare : Nat → Bool} {held : Bool} {n : Nat} {cs : List Value} {x : DataW H × List MemPlace} (h : DataW.trod enc Try.prog W base spare held n 31 cs = some x) (hl : cs.length = 3) :
    ∃ a : RE, IsE (snap W) cs a := by
  obtain ⟨n', hf⟩ := trod_cells Try.underlying31 h (by kernel_rfl) hl
  obtain ⟨c0, y0, e0, h0⟩ := hf 0 _ rfl
  obtain ⟨c1, y1, e1, h1⟩ := hf 1 _ rfl
  obtain ⟨c2, y2, e2, h2⟩ := hf 2 _ rfl
  obtain ⟨s0, rfl, _⟩ := cell_S Try.underlying9 h0
  obtain ⟨s1, rfl, _⟩ := cell_I Try.underlying3 h1
  obtain ⟨s2, rfl, _⟩ := cell_S Try.underlying9 h2
  match cs, hl with
  | [a, b, c], _ =>
    simp only [List.getElem?_cons_zero, List.getElem?_cons_succ, Option.some.injEq] at e0 e1 e2
    subst e0 e1 e2
    exact ⟨⟨s0, s1, s2⟩, rfl⟩

theorem vectorTells_own : ownKnob Try.prog.godebug = none := by kernel_rfl
theorem vectorTells_laid : laidOutB Try.prog = true := by kernel_rfl
set_option maxRecDepth 100000 in
theorem vectorTells_lifted (os : Os) (started : os.Started) (H : Type) (enc : TypeId × Value → H) :
    ReturnsInHanded {} Try.checked os 6 .any (Rows.vectorTellsSpec.pre6 enc Try.prog Try.f6 Rows.vectorTellsRow.domain false) (Rows.vectorTellsSpec.post enc Try.prog Try.f6 false true false false) := by
  refine returnsInHanded_of_change (C := Try.checked) vectorTells_own started (by kernel_rfl) Try.func6
    (ChangeSpec.witness6 (enc := enc) (C := Try.checked) false ⟨#[], #[.slice none 0 0, .string ⟨#[]⟩, .int .i64 0, .int .i64 0], []⟩ 8 (by kernel_rfl) (by kernel_rfl) (by kernel_rfl) (by kernel_rfl)) ?_
  intro W base args ds gs before hval0 hW hcnd _
  have hval : ∀ (j : Nat) t v, Try.f6.params[j]? = some t → args[j]? = some v → Value.okWide Try.prog W .any base t v := hval0
  have hW' := hW
  obtain ⟨p, q, hA0, hV, rfl, hfz, hnd⟩ := hW
  have hA : DataW.TrodAll enc Try.prog W 0 (fun _ => true) true Try.f6.params.toList args.toList ds p := hA0
  rw [Try.params6] at hA hval
  obtain ⟨v0, vs0, d0, ds0, p0, q0, e0, rfl, rfl, h0, hA0⟩ := trodAll_cons hA
  obtain ⟨v1, vs1, d1, ds1, p1, q1, e1, rfl, rfl, h1, hA1⟩ := trodAll_cons hA0
  obtain ⟨v2, vs2, d2, ds2, p2, q2, e2, rfl, rfl, h2, hA2⟩ := trodAll_cons hA1
  obtain ⟨v3, vs3, d3, ds3, p3, q3, e3, rfl, rfl, h3, hA3⟩ := trodAll_cons hA2
  obtain ⟨e4, rfl, rfl⟩ := trodAll_nil hA3
  subst e4 e3 e2 e1
  obtain rfl : args = #[v0, v1, v2, v3] := Array.toList_inj.1 e0
  obtain ⟨rfl, rfl⟩ := trodVars_none hV
  obtain ⟨o, n, c, l, rfl, hl, _⟩ := sl_of (R := IsE) Try.underlying22 (by kernel_rfl) (by decide) (fun n cs x h hl => ent_elem h hl) (hval 0 22 v0 rfl rfl) h0
  obtain ⟨e, rfl, he_⟩ := open_S Try.underlying9 (hval 1 9 v1 rfl rfl) h1
  obtain ⟨k, rfl, hk_⟩ := open_I Try.underlying3 (hval 2 3 v2 rfl rfl) h2
  obtain ⟨n0, rfl, hn0_⟩ := open_I Try.underlying3 (hval 3 3 v3 rfl rfl) h3
  refine Calls.mono (law_tells (agree_snap W) hl) fun e W' ⟨v, m', he, hx, hv⟩ => ?_
  subst hv
  exact ⟨_, he, post_law vectorTells_laid (by kernel_rfl) rfl rfl Try.underlying4 rfl hW' hx⟩
theorem vectorTells_holds : Rows.VectorTellsSaid :=
  OpenClaim.holds_of_wide 6 Try.f6 rfl rfl rfl rfl rfl rfl rfl ⟨rfl, rfl, rfl, rfl, rfl⟩ rfl rfl rfl rfl rfl (by kernel_rfl) Try.func6 (by kernel_rfl)
    (of_decide_eq_true (by kernel_rfl)) (by unfold Func.isWrapper; rw [if_neg (by decide +kernel)]; exact ⟨rfl, rfl⟩)
    (fun os started H enc _ => vectorTells_lifted os started H enc)
end Go.Proofs.Ytibkcojlgbmlhaa
