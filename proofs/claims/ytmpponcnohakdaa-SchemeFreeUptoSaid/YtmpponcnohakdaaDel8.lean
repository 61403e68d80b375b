/-
  slices.Clone, DeleteFunc at ints: numbers that are not in another row. Conditions: those of each theorem.
-/
import Derived.Test.YtmpponcnohakdaaTypes8
import Derived.Test.YtmpponcnohakdaaDelk8
namespace Go.Proofs.Ytmpponcnohakdaa
set_option linter.all false
set_option maxRecDepth 4000
open Go.RowKit
/-- Numbers that are not in another row. -/
def lessI (l out : List Int) : List Int := l.filter fun x => !decide (x ∈ out)
theorem lessI_len (l out : List Int) : (lessI l out).length ≤ l.length := List.length_filter_le _ _
theorem holds_rowI {w : World} {g : Nat} {cur : Array Value} {e : TypeId} {l : List Int} (hh : w.heap[g]? = some (.cells cur e (0, 0))) (ht : cur.toList.take (l.length * 1) = l.map intV) (hl : l.length ≤ cur.size) : Go.Sort.Holds intV w g 0 l.toArray := by
  intro j hj
  have hj' : j < l.length := by simpa using hj
  have h1 : cur[j]? = some (intV l[j]) := by
    have h2 := congrArg (fun q => q[j]?) ht
    simp only [List.getElem?_take, Nat.mul_one, if_pos hj', List.getElem?_map, List.getElem?_eq_getElem hj', Option.map_some, Array.getElem?_toList] at h2
    exact h2
  refine ⟨?_, ?_⟩
  · unfold World.cell?; simp only [hh, Nat.zero_add, h1]
    rw [getElem!_pos l.toArray j hj]; simp
  · unfold World.frozen?; simp [hh]
theorem cloneI_t {w : World} {m : Mem} {o : Option Addr} {c : Nat} {l : List Int} (hA : Agree w m) (h : Ints m o l.length c l) (hbig : l.length ≤ 1073741824) :
    Calls Try.prog 38 #[.slice o l.length c] w fun e w' => ∃ v m', e = .returned v ∧ Touch .free (.mrow v l.length 1 3 (l.map intV)) w m w' m' ∧ (Kn.ex (MP.made' l.length)).holds m' v := by
  cases o with
  | none =>
    cases l with
    | cons x l => obtain ⟨p, vs, e, _⟩ := h.at_ 0 x rfl; cases e
    | nil =>
      refine Calls.mono (Try.slices_Clone_int_nil 0 c w) fun e w' ⟨e1, e2⟩ => ⟨_, m, e1, ?_, (none, 0), rfl, Nat.le_refl _⟩
      subst e2
      exact ⟨ExtG.refl _ hA, ⟨rfl, none, 0, rfl, Nat.le_refl _, Nat.zero_le _, .inl rfl⟩, List.nodup_nil, fun g hg => by cases hg⟩
  | some p =>
    cases l with
    | nil =>
      refine Calls.mono (Try.slices_Clone_int_zero p c w) fun e w' ⟨v, e1, e2, _, e3⟩ => ⟨v, m, e1, mrow_of_owns hA e2 e3, ?_⟩
      obtain ⟨o', cap', e4, e5, _⟩ := Res.mrow_val (mrow_of_owns hA e2 e3).now
      exact ⟨(o', cap'), e4, e5⟩
    | cons x l =>
      have hr := h.row1 (f := intV)
      rcases hr with hr | ⟨q, e0, hc⟩
      · simp at hr
      · injection e0 with e0; subst e0
        obtain ⟨b, off, spot⟩ := p
        obtain rfl : spot = none := hc.1
        refine Calls.mono (Try.slices_Clone_int b off (x :: l).length c (x :: l) w (Nat.le_refl _) (by omega) (fun j hj => ?_)) fun e w' ⟨v, e1, e2, _, e3⟩ => ?_
        · have h1 := hA.cell _ _ _ (hc.2 j (intV (x :: l)[j]) (by rw [List.getElem?_map, List.getElem?_eq_getElem hj]; rfl))
          rw [h1, List.getD_eq_getElem?_getD, List.getElem?_eq_getElem hj]; rfl
        · rw [List.take_of_length_le (Nat.le_refl _)] at e2
          have ht := mrow_of_owns hA e2 e3
          obtain ⟨o', cap', e4, e5, _⟩ := Res.mrow_val ht.now
          exact ⟨v, m, e1, ht, (o', cap'), e4, e5⟩
/-- The closure of without, in any world that holds what it needs. -/
theorem without1_gives {m : Mem} {B : Nat} {oo : Option Addr} {c : Nat} {out : List Int} {W : World} (hW : ∀ b o u, m b o = some u → W.cell? ⟨b, o, none⟩ = some u) (hB : CellsAt m ⟨B, 0, none⟩ [.slice oo out.length c]) (ho : Ints m oo out.length c out) (x : Int) :
    FnGives Try.prog 39 #[.pointer (some ⟨B, 0, none⟩)] #[intV x] (.bool (decide (x ∈ out))) W := by
  have hc : W.cell? ⟨B, 0, none⟩ = some (.slice oo out.length c) := hW B 0 _ (hB.2 0 _ rfl)
  have key : Calls Try.prog 40 #[.slice oo out.length c, .int .i64 x] W fun e w' => e = .returned (.bool (decide (x ∈ out))) ∧ w' = W := by
    cases hout : out with
    | nil => exact Calls.mono (Try.slices_Contains_int_empty oo c x W) fun e w' ⟨e1, e2⟩ => ⟨by rw [e1]; simp, e2⟩
    | cons z zs =>
      rw [← hout]
      have hbg := ho.big
      rcases ho.row1 (f := intV) with hr | ⟨p, e0, hcc⟩
      · rw [hout] at hr; simp at hr
      · subst e0
        obtain ⟨b, off, spot⟩ := p
        obtain rfl : spot = none := hcc.1
        refine Calls.mono (Try.slices_Contains_int b off out.length c out x W (Nat.le_refl _) (by omega) (fun j hj => ?_)) fun e w' ⟨e1, e2⟩ => ⟨by rw [e1, List.take_length, List.contains_eq_mem], e2⟩
        have h1 := hW _ _ _ (hcc.2 j (intV out[j]) (by rw [List.getElem?_map, List.getElem?_eq_getElem hj]; rfl))
        rw [h1, List.getD_eq_getElem?_getD, List.getElem?_eq_getElem hj]; rfl
  exact without1_run hc key
theorem deleteI_t {w : World} {m : Mem} {v : Value} {l : List Int} {B : Nat} {oo : Option Addr} {c : Nat} {out : List Int} (hA : Agree w m) (hr : (Res.mrow v l.length 1 3 (l.map intV)).holds w m) (hB : CellsAt m ⟨B, 0, none⟩ [.slice oo out.length c]) (ho : Ints m oo out.length c out) (hbig : l.length ≤ 1073741824) :
    Calls Try.prog 37 #[v, .func (.func 39) #[] #[.pointer (some ⟨B, 0, none⟩)]] w fun e w' => ∃ v' m', e = .returned v' ∧ Touch (.mrow v l.length 1 3 (l.map intV)) (.row (nz v') (lessI l out).length 1 3 ((lessI l out).map intV)) w m w' m' ∧ (Kn.ex (MP.sl (lessI l out).length ((lessI l out).map intV))).holds m' v' := by
  suffices hs : Calls Try.prog 37 #[v, .func (.func 39) #[] #[.pointer (some ⟨B, 0, none⟩)]] w fun e w' => ∃ v' m', e = .returned v' ∧ Touch (.mrow v l.length 1 3 (l.map intV)) (.mrow v' (lessI l out).length 1 3 ((lessI l out).map intV)) w m w' m' by
    refine Calls.mono hs fun e w' ⟨v', m1, e1, ht⟩ => ?_
    obtain ⟨m2, ht2, o', c', e2, h1, _, h2⟩ := mrow_freeze ht.ext.agree ht.now
    exact ⟨v', m2, e1, ht.trans ht2, (o', c'), e2, h2, h1⟩
  by_cases h0 : l = []
  · subst h0
    obtain ⟨o, cap, rfl, -, -⟩ := Res.mrow_val hr
    refine Calls.mono (del_empty o cap _ w) fun e w' ⟨e1, e2⟩ => ⟨_, m, e1, ?_⟩
    subst e2
    exact ⟨ExtG.refl _ hA, hr, mrow_nodup _ _ _ _ _, fun g hg => .inl hg⟩
  · have hl0 : 0 < l.length := List.length_pos_iff.2 h0
    have hr' := hr
    obtain ⟨hlen, o', cap', rfl, hnc, hcm, h⟩ := hr
    rcases h with h | ⟨g, cur, rfl, hh, h3, h4, h5⟩
    · omega
    · have hgs : g < w.heap.size := lt_of_heap hh
      have hov : Go.Proofs.PredOver Try.prog 39 #[.pointer (some ⟨B, 0, none⟩)] intV (fun x => decide (x ∈ out)) g 0 l.toArray.size w := fun n os dk x _ => without1_gives (fun b o u hu => by
        have hlt : b < w.heap.size := lt_of_cell (hA.cell _ _ _ hu)
        have hne : b ≠ g := fun e => by rw [e, h5] at hu; cases hu
        unfold sortWorld
        rw [Go.Sort.cell?_grow _ _ _ (by show b < (Go.Sort.putRow _ _ _ _ _).heap.size; rw [Go.Sort.size_putRow]; exact hlt), Go.Sort.cell?_putRow_other _ _ g 0 _ _ (Or.inl hne)]
        exact hA.cell _ _ _ hu) hB ho x
      have hat : Go.Proofs.PredAt Try.prog 39 #[.pointer (some ⟨B, 0, none⟩)] intV (fun x => decide (x ∈ out)) w := fun W x hb => without1_gives (fun b o u hu => (ExtG.of_below hA hb).agree.cell _ _ _ hu) hB ho x
      refine Calls.mono (Try.slices_DeleteFunc intV (fun _ => rfl) (fun x => decide (x ∈ out)) 39 #[.pointer (some ⟨B, 0, none⟩)] Try.call39 0 Try.zeroValue3 g 0 cap' l.toArray w hat hov (holds_rowI hh h4 (by omega)) (by simp; omega) (by simpa using hnc)) fun e w' ⟨e1, q, e2⟩ => ?_
      have e3 : e = .returned (.slice (some ⟨g, 0, none⟩) (lessI l out).length cap') := e1
      refine ⟨_, m, e3, ?_⟩
      obtain ⟨p1, p2, p3, p4, p5, p6⟩ := put_heap (os := #[]) hh (e2.trans (Go.Sort.grow_empty _).symm)
      have hfl : (l.toArray.toList.filter fun x => !decide (x ∈ out)) = lessI l out := rfl
      have hll := lessI_len l out
      refine mrow_write hA (by omega) hcm hh h5 (by omega) (by simp) p1 (by rw [putCells_size]; exact h3) ?_ p2 p3 p4 p5 p6
      rw [hfl]
      have := putCells_take intV (lessI l out ++ List.replicate (l.toArray.size - (lessI l out).length) 0) cur (by simp only [List.length_append, List.length_replicate, List.size_toArray]; omega)
      have h2 := congrArg (fun z => z.take (lessI l out).length) this
      simp only [List.take_take] at h2
      rw [Nat.min_eq_left (by simp only [List.length_append]; omega), List.map_append, List.take_append_of_le_length (by rw [List.length_map]; exact Nat.le_refl _), show ((lessI l out).map intV).take (lessI l out).length = (lessI l out).map intV from List.take_of_length_le (by rw [List.length_map]; exact Nat.le_refl _)] at h2
      rw [Nat.mul_one]; exact h2

end Go.Proofs.Ytmpponcnohakdaa
