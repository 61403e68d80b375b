/-
  Contracts of Go's library out of the shelf, said of snapshots of memory. Conditions: those of each theorem.
-/
import Derived.Test.YtineijefefjpeaaDoorShelf
import Derived.Test.YtineijefefjpeaaDoorMaps
import Derived.Sort.Grow
namespace Go.Proofs.YtineijefefjpeaaDoor
set_option linter.all false
open Go.RowKit
theorem below_grow' (w : World) (k : Nat) (os : Array Obj) : Below w.heap.size w (Go.Sort.grow (w.drewN k) os) :=
  ⟨rfl, rfl, rfl, by simp only [Go.Sort.grow, World.drewN, Array.size_append]; omega, fun b hb => by simp only [Go.Sort.grow, World.drewN]; rw [Array.getElem?_append_left hb]⟩
theorem fn_calls {P : Program} {f : FuncId} {args : Array Value} {w : World} {m : Mem} {c : Value} (hA : Agree w m) (h : Calls P f args w fun e w' => e = .returned c ∧ Below w.heap.size w w') : FnV P f args w m fun _ _ v => v = c :=
  Calls.mono h fun e w' ⟨e1, hb⟩ => ⟨c, m, e1, ExtG.of_below hA hb, rfl⟩
/-- The table of Itoa stands where it is laid. -/
abbrev Tab (w : World) : Prop := Go.Lib.TabIs Tryd.prog w "internal/strconv.uint64pow10" .u64 Go.Lib.pow10Tab
theorem tab_keep {W w : World} {mE m : Mem} (h : Tab W) (hX : ExtG [] W mE w m) : Tab w := by
  unfold Tab Go.Lib.TabIs World.var? at h ⊢
  cases hg : Tryd.prog.globalNamed "internal/strconv.uint64pow10" with
  | none => rw [hg] at h; cases h
  | some g =>
    rw [hg] at h
    simp only [Option.bind_some] at h ⊢
    cases hh : W.heap[g]? with
    | none => rw [hh] at h; cases h
    | some o => rw [hX.block g (lt_of_heap hh) (by simp), hh]; rw [hh] at h; exact h
theorem itoa_c {w : World} {m : Mem} {n : Int} (hA : Agree w m) (hT : Tab w) (hn : InI64 n) : FnV Tryd.prog 42 #[.int .i64 n] w m fun _ _ v => v = S (Go.Lib.itoa n) :=
  fn_calls hA (Calls.mono (Tryd.strconv_Itoa n hn.1 hn.2 w hT) fun e w' ⟨e1, k, os, e2⟩ => ⟨e1, by rw [e2]; exact below_grow' w k os⟩)
theorem fbool_c {w : World} {m : Mem} {b : Bool} (hA : Agree w m) : FnV Tryd.prog 43 #[.bool b] w m fun _ _ v => v = S (Go.Lib.formatBool b) :=
  fn_calls hA (Calls.mono (Tryd.strconv_FormatBool b w) fun e w' ⟨e1, e2⟩ => ⟨e1, by rw [e2]; exact Below.refl _ _⟩)
theorem map_bytes (l : List Str) : ((l.map fun x => (⟨x.toArray⟩ : ByteArray)).map fun x : ByteArray => x.data.toList) = l := by
  rw [List.map_map]; exact List.map_id' l
theorem join_c {w : World} {m : Mem} {o : Option Addr} {n c : Nat} {l : List Str} {sep : Str} (hA : Agree w m) (h : Strs m o n c l) (hn : l.length ≤ 140737488355328) (hl : (Go.Lib.join l sep).length ≤ 140737488355328) :
    FnV Tryd.prog 44 #[.slice o n c, S sep] w m fun _ _ v => v = S (Go.Lib.join l sep) := by
  obtain rfl := h.len
  cases hl0 : l with
  | nil =>
    exact fn_calls hA (Calls.mono (Tryd.strings_Join_none o c ⟨sep.toArray⟩ w) fun e w' ⟨e1, e2⟩ => ⟨by rw [e1]; simp [Go.Lib.join, S], by rw [e2]; exact Below.refl _ _⟩)
  | cons x xs =>
    rw [← hl0]
    have h0 : 0 < l.length := by rw [hl0]; simp
    obtain ⟨p, vs, y, ho, -, -, -, hc, -, -⟩ := h.nth h0
    subst ho
    obtain ⟨bk, off, spot⟩ := p
    obtain rfl : spot = none := by have := hc.1; simpa [Addr.add] using this
    have hlt : bk < w.heap.size := by
      obtain ⟨p, vs, y, ho, -, -, -, hc, hl1, hv⟩ := h.nth h0
      cases ho
      subst hv
      have := hA.cell _ _ _ (hc.2 0 _ rfl)
      exact lt_of_cell this
    have hcells : ∀ (j : Nat) x, (l.map fun x => (⟨x.toArray⟩ : ByteArray))[j]? = some x → w.cell? ⟨bk, off + j, none⟩ = some (.string x) := fun j x hx => by
      rw [List.getElem?_map] at hx
      cases hy : l[j]? with
      | none => rw [hy] at hx; cases hx
      | some y =>
        rw [hy] at hx; simp only [Option.map_some, Option.some.injEq] at hx
        obtain ⟨p, vs, ho, hc, _, hv⟩ := h.at_ j y hy
        cases ho; subst hv; subst hx
        have := cell_of_cells hA hc (k := 0) rfl
        have e : ((⟨bk, off, none⟩ : Addr).add (j * 1)).add 0 = ⟨bk, off + j, none⟩ := by
          rw [add_add']; unfold Addr.add
          split
          · rename_i h0; have : j = 0 := by omega
            subst this; rfl
          · simp
        rw [e] at this; exact this
    have hlen := h.len
    have key := Tryd.strings_Join bk off c (l.map fun x => (⟨x.toArray⟩ : ByteArray)) ⟨sep.toArray⟩ w hcells hlt (by simpa using hn) (by simpa using h.cap) (by rw [map_bytes]; exact hl)
    rw [List.length_map, map_bytes] at key
    exact fn_calls hA (Calls.mono key fun e w' ⟨e1, e2⟩ => ⟨e1, e2⟩)
end Go.Proofs.YtineijefefjpeaaDoor
