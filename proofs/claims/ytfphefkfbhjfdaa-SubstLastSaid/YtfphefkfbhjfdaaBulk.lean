/-
  What the arguments hold, opened together with their bulk. Conditions: those of each lemma; no program occurs here.
-/
import Derived.Test.YtfphefkfbhjfdaaFrame
import Derived.Test.YtfphefkfbhjfdaaRows
namespace Go.Proofs.Ytfphefkfbhjfdaa
set_option linter.all false
open Go.RowKit Go.WideShapes Go.ChangeShapes Go.Deep Go.WideElems Go.ChangeAt Go.ChangeMaps
section
variable {H : Type} {enc : TypeId × Value → H} {P : Program} {W : World} {base : Nat} {spare : Nat → Bool} {held : Bool}
theorem bulk_mem {d : DataW H} : ∀ {l : List (DataW H)}, d ∈ l → Rows.uptoBulk d ≤ Rows.uptoBulkAll l
  | x :: l, h => by
    rw [Rows.uptoBulkAll]
    rcases List.mem_cons.1 h with rfl | h
    · omega
    · have := bulk_mem h; omega
theorem one_bulk (d : DataW H) : 1 ≤ Rows.uptoBulk d := by
  cases d with
  | lit l => cases l <;> simp [Rows.uptoBulk]
  | _ => simp [Rows.uptoBulk]
theorem bulk_app : ∀ (l r : List (DataW H)), Rows.uptoBulkAll (l ++ r) = Rows.uptoBulkAll l + Rows.uptoBulkAll r
  | [], r => by simp [Rows.uptoBulkAll]
  | x :: l, r => by simp only [List.cons_append, Rows.uptoBulkAll, bulk_app l r]; omega
theorem sl_open {α : Type} {R : Mem → List Value → α → Prop} {β : α → Nat} {t e : TypeId} {sz fuel : Nat} {cs : List Value} {x : DataW H × List MemPlace} (B : Nat) (ht : P.underlying t = some (.slice e)) (hc : P.cellsOf e = sz) (hsz : 0 < sz)
    (hR : ∀ n cs (x : DataW H × List MemPlace), Rows.uptoBulk x.1 < B → DataW.trod enc P W base spare held n e cs = some x → cs.length = sz → ∃ a : α, R (snap W) cs a ∧ β a ≤ Rows.uptoBulk x.1)
    (h : DataW.trod enc P W base spare held fuel t cs = some x) (hB : Rows.uptoBulk x.1 ≤ B) :
    ∃ o n c l, cs = [.slice o n c] ∧ Sl R sz (snap W) o n c l ∧ c ≤ maxLen ∧ (l.map β).sum + 1 ≤ Rows.uptoBulk x.1 := by
  rcases open_slice ht h with ⟨rfl, rfl⟩ | ⟨a, len, cap, m, n, D, Pl, rfl, hb, hl, hm, hmm, rfl, hi⟩
  · exact ⟨none, 0, 0, [], rfl, ⟨rfl, Nat.le_refl _, Nat.zero_le _, fun i x hx => by simp at hx⟩, Nat.zero_le _, by simp [Rows.uptoBulk]⟩
  · have hlm : len ≤ m := by rw [hmm]; split <;> omega
    simp only [Rows.uptoBulk] at hB ⊢
    have key : ∀ k, k ≤ len → ∃ l : List α, l.length = k ∧ (l.map β).sum ≤ Rows.uptoBulkAll ((List.range k).map D) ∧ ∀ i x, l[i]? = some x → ∃ vs, CellsAt (snap W) (a.add (i * sz)) vs ∧ vs.length = sz ∧ R (snap W) vs x := by
      intro k
      induction k with
      | zero => intro _; exact ⟨[], rfl, by simp, fun i x hx => by simp at hx⟩
      | succ k ih =>
        intro hk
        obtain ⟨l, hl1, hl0, hl2⟩ := ih (by omega)
        obtain ⟨cs', hcs, htr⟩ := hi k (by omega)
        rw [hc] at hcs
        obtain ⟨h1, h2⟩ := cellsAt_snap hcs hsz
        have hD : Rows.uptoBulk (D k) ≤ Rows.uptoBulkAll ((List.range len).map D) := bulk_mem (List.mem_map.2 ⟨k, List.mem_range.2 (by omega), rfl⟩)
        obtain ⟨y, hy, hβ⟩ := hR n cs' _ (by simp only; omega) htr h2
        refine ⟨l ++ [y], by simp [hl1], ?_, fun i x hx => ?_⟩
        · simp only [List.range_succ, List.map_append, bulk_app, List.sum_append, List.map_cons, List.map_nil, List.sum_cons, List.sum_nil, Rows.uptoBulkAll] at hβ ⊢; omega
        rw [List.getElem?_append] at hx
        split at hx
        · exact hl2 i x hx
        · have hik : i = k := by
            have := (List.getElem?_eq_some_iff.1 hx).1
            simp at this; omega
          subst hik
          rw [hl1, Nat.sub_self] at hx
          simp only [List.getElem?_cons_zero, Option.some.injEq] at hx
          subst hx
          exact ⟨cs', h1, h2, hy⟩
    obtain ⟨l, hl1, hl0, hl2⟩ := key len (Nat.le_refl _)
    refine ⟨some a, len, cap, l, rfl, ⟨hl1, hl, ?_, fun i x hx => ?_⟩, hm, by omega⟩
    · simp only [maxLen] at hm; omega
    · obtain ⟨vs, h1, h2, h3⟩ := hl2 i x hx
      exact ⟨a, vs, rfl, h1, h2, h3⟩
/-- A struct's fields: each reads off its own cells; the bulk of all is less than the whole's. -/
theorem struct_open {e : TypeId} {fs : Array Field} {fuel : Nat} {cs : List Value} {x : DataW H × List MemPlace} (he : P.underlying e = some (.struct fs)) (h : DataW.trod enc P W base spare held fuel e cs = some x) :
    ∃ (n : Nat) (ys : List (DataW H × List MemPlace)), ys.length = fs.size ∧ Rows.uptoBulk x.1 = Rows.uptoBulkAll (ys.map (·.1)) + 1 ∧ cs.length = P.cellsOf e ∧
      ∀ (i : Nat) (f : Field), fs[i]? = some f → ∃ y, ys[i]? = some y ∧ DataW.trod enc P W base spare held n f.type ((cs.drop f.offset).take (P.cellsOf f.type)) = some y := by
  obtain ⟨xs, n, rfl, rfl, hl, hx, hf⟩ := DataW.trod_struct he h
  refine ⟨n, xs, hx, by simp [Rows.uptoBulk], hl, fun i f hi => ?_⟩
  have h1 : i < fs.size := (Array.getElem?_eq_some_iff.1 hi).1
  have h2 : xs[i]? = some (xs[i]'(by omega)) := List.getElem?_eq_getElem (by omega)
  exact ⟨_, h2, (hf i f hi).trans h2⟩
theorem int_open {t : TypeId} {n : Nat} {cs : List Value} {x : DataW H × List MemPlace} (ht : P.underlying t = some (.int .i64)) (h : DataW.trod enc P W base spare held n t cs = some x) : ∃ k : Int, cs = [.int .i64 k] ∧ InI64 k ∧ Rows.uptoBulk x.1 = 1 := by
  obtain ⟨k, e, rfl, hs⟩ := DataW.trod_int ht h
  simp only [Lit.wf, Bool.and_eq_true, decide_eq_true_eq] at hs
  have h1 : IntKind.i64.min = -9223372036854775808 := by decide
  have h2 : IntKind.i64.max = 9223372036854775807 := by decide
  exact ⟨k, e, ⟨by omega, by omega⟩, by simp [Rows.uptoBulk]⟩
theorem str_open {t : TypeId} {n : Nat} {cs : List Value} {x : DataW H × List MemPlace} (ht : P.underlying t = some .string) (h : DataW.trod enc P W base spare held n t cs = some x) : ∃ l : Str, cs = [S l] ∧ l.length ≤ maxLen ∧ Rows.uptoBulk x.1 = l.length + 1 := by
  obtain ⟨s, e, rfl, hs⟩ := DataW.trod_string ht h
  obtain ⟨⟨l⟩⟩ := s
  exact ⟨l, e, by rw [S_size] at hs; exact hs, by simp [Rows.uptoBulk]⟩
theorem open_Sb {r : Reach} {b0 : Nat} {t : TypeId} {v : Value} {d : DataW H} {ps : List MemPlace} (ht : P.underlying t = some .string) (hval : Value.okWide P W r b0 t v) (hd : DataW.Trod enc P W base spare held t v d ps) :
    ∃ l : Str, v = S l ∧ l.length ≤ maxLen ∧ Rows.uptoBulk d = l.length + 1 := by
  obtain ⟨s, rfl, rfl, _, hs⟩ := open_string ht hval hd
  obtain ⟨⟨l⟩⟩ := s
  exact ⟨l, rfl, by rw [S_size] at hs; exact hs, by simp [Rows.uptoBulk]⟩
end
end Go.Proofs.Ytfphefkfbhjfdaa
