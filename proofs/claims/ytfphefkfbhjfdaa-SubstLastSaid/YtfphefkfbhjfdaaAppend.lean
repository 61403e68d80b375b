/-
  'append' onto a slice without room that is nobody's own, then onto what it made: a row of one's own. Conditions: those of each lemma; no program occurs here.
-/
import Derived.Test.YtfphefkfbhjfdaaMulti
namespace Go.Proofs.Ytfphefkfbhjfdaa
set_option linter.all false
open Go.RowKit
/-- A slice without room stands for the nil slice. -/
def nz : Value → Value
  | .slice _ _ 0 => .slice none 0 0
  | v => v
section
variable {P : Program}
theorem touch_nz {r : Res} {w w' : World} {m m' : Mem} {o : Option Addr} {n cap size : Nat} {e : TypeId} {xs : List Value} (hc : n ≤ cap) (h : Touch r (.row (.slice o n cap) n size e xs) w m w' m') : Touch r (.row (nz (.slice o n cap)) n size e xs) w m w' m' := by
  cases cap with
  | succ c => exact h
  | zero =>
    obtain rfl : n = 0 := by omega
    exact ⟨h.ext, ⟨h.now.1, .inl ⟨rfl, rfl⟩⟩, List.nodup_nil, fun g hg => by cases hg⟩
theorem append_touchZ {w : World} {m : Mem} {t ty e : TypeId} {i : TypeInfo} {z : Value} {size bytes n k c c0 : Nat} {o A : Option Addr} {olds news : List Value} (ht : P.underlying t = some (.slice e)) (hi : P.info? e = some i) (hz : i.zero = some z)
    (hsize : i.size = size) (hby : i.bytes = bytes) (hzs : z.cells.size = size) (ha : Agree w m) (hr : (Res.row (nz (.slice o n c0)) n size e olds).holds w m)
    (hx : RowAt m A news) (hl : news.length = k * size) (hsz : 0 < size) (h1 : ∀ u ∈ news, u.oneCell' = true) (h63 : n + k ≤ maxLen) (hbytes : (n + k) * bytes ≤ 140737488355328) :
    ∃ o' cap w' m', (Builtin.append_ #[t, t] ty #[.slice o n c0, .slice A k c]).run P w = .ok (.slice o' (n + k) cap) w' ∧ Touch (.row (nz (.slice o n c0)) n size e olds) (.row (nz (.slice o' (n + k) cap)) (n + k) size e (olds ++ news)) w m w' m' ∧ RowAt m' o' (olds ++ news) ∧ n + k ≤ cap := by
  cases c0 with
  | succ c0 =>
    obtain ⟨o', cap, w', m', hrun, ht', hro, hle⟩ := append_touch (P := P) (ty := ty) (c := c) ht hi hz hsize hby hzs ha hr hx hl hsz h1 h63 hbytes
    exact ⟨o', cap, w', m', hrun, touch_nz hle ht', hro, hle⟩
  | zero =>
    have hr0 : (Res.row (.slice none 0 0) n size e olds).holds w m := hr
    have hn0 : n = 0 := by
      rcases hr0.2 with ⟨-, h⟩ | ⟨g, cap, cur, h, _⟩
      · exact h
      · cases h
    subst hn0
    have ho : olds = [] := List.eq_nil_of_length_eq_zero (by simpa using hr0.1)
    subst ho
    cases o with
    | none =>
      obtain ⟨o', cap, w', m', hrun, ht', hro, hle⟩ := append_touch (P := P) (ty := ty) (c := c) ht hi hz hsize hby hzs ha hr0 hx hl hsz h1 h63 hbytes
      exact ⟨o', cap, w', m', hrun, touch_nz hle ht', hro, hle⟩
    | some b =>
      by_cases hk : k = 0
      · subst hk
        obtain rfl : news = [] := List.eq_nil_of_length_eq_zero (by simpa using hl)
        subst hsize
        refine ⟨some b, 0, w, m, ?_, ⟨ExtG.refl _ ha, ⟨by simp, .inl ⟨rfl, rfl⟩⟩, List.nodup_nil, fun g hg => by cases hg⟩, .inl rfl, Nat.le_refl _⟩
        cases A <;> simp [Builtin.append_, run_underlying ht, sizeOf, typeInfo, hi, Builtin.lenOf, Builtin.firstCells, loadCells, loadCellsFrom, storeCells]
      · subst hsize; subst hby
        have hne : news ≠ [] := fun hh => by
          rw [hh, List.length_nil] at hl
          have := Nat.mul_pos (Nat.pos_of_ne_zero hk) hsz; omega
        obtain ⟨ad, rfl, hcell⟩ : ∃ p, A = some p ∧ CellsAt m p news := by
          rcases hx with h | h
          · exact absurd h hne
          · exact h
        have hnews : ∀ j u, news[j]? = some u → w.cell? (ad.add j) = some u := fun j u e => cell_of_cells ha hcell e
        have hrun := run_append_grow (P := P) w t ty e i z ht hi hz b 0 0 [] (by simp) (fun j u h => by simp at h) ad k c news hl hnews (by omega) (by simp only [maxLen] at h63; omega) (growslice_fits (by omega) hbytes)
        have hge := grownCap_ge w (0 + k) 0 e
        refine ⟨_, _, _, m.add w.heap.size ([] ++ news).toArray, hrun, touch_nz hge (touch_from (touch_drew (row_new (w := w.drew) (by simpa using hl) hge (grownCap_le_maxLen w (0 + k) 0 e h63) ?_ ?_ ⟨ha.cell, ha.map⟩)) (by simp [Res.blocks])), .inr ⟨_, rfl, cellsAt_add _⟩, hge⟩
        · simp only [Array.size_append, List.size_toArray, size_zeroCells, hzs, hl, List.length_nil, Nat.zero_add, ← Nat.add_mul]
          have : k ≤ grownCap w k 0 e := by simpa using hge
          congr 1; omega
        · simp only [Array.toList_append, List.append_assoc, List.nil_append, Nat.zero_add, ← hl]
          simp
variable {K : World → Mem → Prop} {m0 : Mem} {L : List Res} {us : List Nat} {ch : List (Nat × Bool)} {pre : List Ent} {T : List (Nat × Value)}
variable {dst : Option Nat} {ty : TypeId} {pos : String} {af : Array Edge} {gd : Option (Nat × Bool)}
theorem ob_appendZ [hK : KC K m0 L] {d : Nat} {t e : TypeId} {i : TypeInfo} {z : Value} {size bytes n k c c0 : Nat} {o A : Option Addr} {olds news : List Value} {x y : Operand} {r : (Nat → Value) → Res} (hv : ev us ch pre T x = some (.slice o n c0)) (hy : ev us ch pre T y = some (.slice A k c))
    (hrr : ∀ σ, r σ = .row (nz (evalO σ x)) n size e olds ∨ (r σ = .free ∧ c0 = 0 ∧ n = 0 ∧ olds = []))
    (ht : P.underlying t = some (.slice e)) (hi : P.info? e = some i) (hz : i.zero = some z) (hsize : i.size = size) (hby : i.bytes = bytes) (hzs : z.cells.size = size)
    (hx : ∀ w m, K w m → RowAt m A news) (hl : news.length = k * size) (hsz : 0 < size) (h1 : news.all (·.oneCell') = true) (h63 : n + k ≤ maxLen) (hbytes : (n + k) * bytes ≤ 140737488355328) :
    ObT P K us ch pre T r (fun v' => .row (nz v') (n + k) size e (olds ++ news)) ⟨some d, .call { callee := .builtin .append, args := #[x, y], argTypes := #[t, t] }, ty, pos, af, gd⟩ (.ex (MP.sl (n + k) (olds ++ news))) := fun σ w m hk hr hn => by
  have hrs : (Res.row (nz (.slice o n c0)) n size e olds).holds w m ∧ ∀ g ∈ (Res.row (nz (.slice o n c0)) n size e olds).blocks, g ∈ (r σ).blocks := by
    rcases hrr σ with h | ⟨h, rfl, rfl, rfl⟩
    · rw [h, hn.ev hv] at hr
      refine ⟨hr, ?_⟩
      rw [h, hn.ev hv]; exact fun g hg => hg
    · exact ⟨⟨by simp, .inl ⟨rfl, rfl⟩⟩, fun g hg => by cases hg⟩
  obtain ⟨o', cap, w', m', hrun, ht', hro, hle⟩ := append_touchZ (P := P) (ty := ty) (c := c) ht hi hz hsize hby hzs (hK.agree hk) hrs.1 (hx w m hk) hl hsz (fun u hu => List.all_eq_true.1 h1 u hu) h63 hbytes
  have hr2 : (execOp (evalO σ) ⟨some d, .call { callee := .builtin .append, args := #[x, y], argTypes := #[t, t] }, ty, pos, af, gd⟩).run P w = .ok (.value (.slice o' (n + k) cap)) w' := by
    simp only [execOp, resolve, List.map_toArray, List.map_cons, List.map_nil, hn.ev hv, hn.ev hy, Sem.run_bind, Sem.run_pure, Result.andThen_ok, invoke, builtin]
    rw [hrun]; rfl
  unfold Does; rw [hr2]
  exact ⟨m', touch_from ht' hrs.2, (o', cap), rfl, hro, hle⟩
/-- A literal without elements. -/
theorem ob_buildSlice0 [hK : KC K m0 L] {t e : TypeId} {sz : Nat} (ht : P.underlying t = some (.slice e)) (hsz : ∀ w, (sizeOf e).run P w = .ok sz w) :
    Ob P K us ch pre T ⟨dst, .buildSlice t 0 #[], ty, pos, af, gd⟩ (.ex (MP.row 0 [])) := fun σ w m hk hn' => by
  have hrun : (execOp (evalO σ) ⟨dst, .buildSlice t 0 #[], ty, pos, af, gd⟩).run P w = .ok (.value (.slice (some ⟨w.heap.size, 0, none⟩) 0 0)) (w.alloc (.cells #[] e)) := by
    have : (Instr.buildSlice t 0 #[]).run P w = .ok (.slice (some ⟨w.heap.size, 0, none⟩) 0 0) (w.alloc (.cells #[] e)) := by
      unfold Instr.buildSlice
      simp only [Sem.run_bind, run_underlying ht, Result.andThen_ok, hsz]
      rw [if_neg (by omega), if_pos (by omega)]
      simp only [Sem.run_bind, Result.andThen_ok, Sem.run_pure, Nat.zero_mul, show Array.range 0 = #[] from rfl, Array.map_empty, Instr.fill]
      rfl
    simp only [execOp, Array.map_empty]
    rw [Sem.run_bind, this]; rfl
  unfold Does; rw [hrun]
  exact ⟨_, ext_add (hK.agree hk) #[] e, _, rfl, cellsAt_add []⟩
/-- A slice of things of one cell each, as a row. -/
theorem Sl.row1 {α : Type} {f : α → Value} {m : Mem} {o : Option Addr} {n cap : Nat} {xs : List α} (h : Sl (fun _ vs (x : α) => vs = [f x]) 1 m o n cap xs) : RowAt m o (xs.map f) := by
  cases xs with
  | nil => exact .inl rfl
  | cons x xs =>
    obtain ⟨p, vs, rfl, hc, -, -⟩ := h.at_ 0 x rfl
    refine .inr ⟨p, rfl, hc.1, fun i u hu => ?_⟩
    rw [List.getElem?_map] at hu
    obtain ⟨y, hy, rfl⟩ : ∃ y, (x :: xs)[i]? = some y ∧ f y = u := by
      cases hq : (x :: xs)[i]? with
      | none => rw [hq] at hu; cases hu
      | some y => rw [hq] at hu; injection hu with hu; exact ⟨y, rfl, hu⟩
    obtain ⟨p2, vs2, e2, hc2, -, hv2⟩ := h.at_ i y hy
    injection e2 with e2; subst e2; subst hv2
    have := hc2.2 0 (f y) rfl
    by_cases hi : i = 0
    · subst hi; simpa [Addr.add] using this
    · simpa [Addr.add, hi] using this
end
/-- A kind of things: what reads so goes on reading so; all cells are single. -/
class RepR {α : Type} (R : Mem → List Value → α → Prop) : Prop where
  mono : ∀ {m m' : Mem} {vs : List Value} {x : α}, MLe m m' → R m vs x → R m' vs x
  one : ∀ {m : Mem} {vs : List Value} {x : α}, R m vs x → vs.all (·.oneCell') = true
instance : RepR (fun (_ : Mem) vs (x : Str) => vs = [S x]) := ⟨fun _ h => h, fun h => by subst h; rfl⟩
instance : RepR (fun (_ : Mem) vs (x : Int) => vs = [Value.int .i64 x]) := ⟨fun _ h => h, fun h => by subst h; rfl⟩
/-- Cells, taken sz by sz, read as things. -/
structure Reads {α : Type} (R : Mem → List Value → α → Prop) (sz : Nat) (m : Mem) (cs : List Value) (xs : List α) : Prop where
  len : cs.length = xs.length * sz
  at_ : ∀ i x, xs[i]? = some x → R m ((cs.drop (i * sz)).take sz) x
  one : cs.all (·.oneCell') = true
section
variable {α : Type} {R : Mem → List Value → α → Prop} {sz : Nat} {m m' : Mem} {o : Option Addr} {n cap : Nat} {xs ys : List α} {cs ds vs : List Value} {x : α}
theorem Reads.mono [hR : RepR R] (h : Reads R sz m cs xs) (hm : MLe m m') : Reads R sz m' cs xs := ⟨h.len, fun i x hx => hR.mono hm (h.at_ i x hx), h.one⟩
theorem Reads.nil : Reads R sz m [] [] := ⟨by simp, fun i x hx => by simp at hx, rfl⟩
theorem Reads.single [hR : RepR R] (hl : vs.length = sz) (h : R m vs x) : Reads R sz m vs [x] := ⟨by simp [hl], fun i y hy => by
  cases i with
  | zero => simp at hy; subst hy; rw [Nat.zero_mul, List.drop_zero, ← hl, List.take_length]; exact h
  | succ i => simp at hy, hR.one h⟩
theorem Reads.app (h : Reads R sz m cs xs) (k : Reads R sz m ds ys) : Reads R sz m (cs ++ ds) (xs ++ ys) := ⟨by rw [List.length_append, List.length_append, h.len, k.len, Nat.add_mul], fun i x hx => by
  rw [List.getElem?_append] at hx
  split at hx
  · rename_i hi
    have h2 : (i + 1) * sz ≤ xs.length * sz := Nat.mul_le_mul_right _ hi
    rw [Nat.succ_mul] at h2
    rw [List.drop_append_of_le_length (by rw [h.len]; omega), List.take_append_of_le_length (by rw [List.length_drop, h.len]; omega)]
    exact h.at_ i x hx
  · rename_i hi
    have h2 : xs.length * sz ≤ i * sz := Nat.mul_le_mul_right _ (by omega)
    have h3 : i * sz - xs.length * sz = (i - xs.length) * sz := (Nat.sub_mul _ _ _).symm
    rw [List.drop_append, List.drop_eq_nil_of_le (by rw [h.len]; omega), List.nil_append, h.len, h3]
    exact k.at_ _ x hx, by rw [List.all_append, h.one, k.one]; rfl⟩
theorem Reads.sl (h : Reads R sz m cs xs) (hr : RowAt m o cs) (hsz : 0 < sz) (hn : xs.length = n) (hc : n ≤ cap) (hb : n ≤ 9223372036854775807) : Sl R sz m o n cap xs := by
  refine ⟨hn, hc, hb, fun i x hx => ?_⟩
  have hi : i < xs.length := (List.getElem?_eq_some_iff.1 hx).1
  have h2 : (i + 1) * sz ≤ xs.length * sz := Nat.mul_le_mul_right _ hi
  rw [Nat.succ_mul] at h2
  rcases hr with rfl | ⟨p, rfl, hcl⟩
  · have := h.len; simp at this; omega
  · exact ⟨p, _, rfl, (hcl.drop (i * sz)).take sz, by rw [List.length_take, List.length_drop, h.len]; omega, h.at_ i x hx⟩
theorem Sl.reads [hR : RepR R] (h : Sl R sz m o n cap xs) : ∃ cs, RowAt m o cs ∧ Reads R sz m cs xs ∧ cs.length = n * sz := by
  have hlen := h.len
  cases hx0 : xs with
  | nil => subst hx0; exact ⟨[], .inl rfl, Reads.nil, by simp at hlen; subst hlen; simp⟩
  | cons x0 xs0 =>
    have h0 : xs[0]? = some x0 := by rw [hx0]; rfl
    obtain ⟨p, vs0, rfl, hc0, -, -⟩ := h.at_ 0 x0 h0
    rw [← hx0]; clear hx0 h0
    have key : ∀ k, k ≤ xs.length → ∃ cs, CellsAt m p cs ∧ Reads R sz m cs (xs.take k) := by
      intro k
      induction k with
      | zero => intro _; exact ⟨[], ⟨by have := hc0.1; simpa [Addr.add] using this, fun i v e => by simp at e⟩, by rw [List.take_zero]; exact Reads.nil⟩
      | succ k ih =>
        intro hk
        obtain ⟨cs, c1, c2⟩ := ih (by omega)
        obtain ⟨p', vs, e, hc, hl, hv⟩ := h.at_ k xs[k] (List.getElem?_eq_getElem hk)
        injection e with e; subst e
        have hcl : cs.length = k * sz := by rw [c2.len, List.length_take, Nat.min_eq_left (by omega)]
        refine ⟨cs ++ vs, ⟨c1.1, fun i v hv' => ?_⟩, by rw [List.take_succ_eq_append_getElem hk]; exact c2.app (Reads.single hl hv)⟩
        rw [List.getElem?_append] at hv'
        split at hv'
        · exact c1.2 i v hv'
        · rename_i hi
          have := hc.2 _ v hv'
          rw [add_block, add_off] at this
          rwa [show p.off + k * sz + (i - cs.length) = p.off + i by omega] at this
    obtain ⟨cs, c1, c2⟩ := key xs.length (Nat.le_refl _)
    rw [List.take_length] at c2
    exact ⟨cs, .inr ⟨p, rfl, c1⟩, c2, by rw [c2.len, hlen]⟩
theorem ints_one (l : List Int) : (l.map intV).all (·.oneCell') = true := by rw [List.all_map, List.all_eq_true]; exact fun _ _ => rfl
theorem strs_one (l : List Str) : (l.map S).all (·.oneCell') = true := by rw [List.all_map, List.all_eq_true]; exact fun _ _ => rfl
end
def MP.ints (l : List Int) : MP := MP.mem (fun y : Option Addr × Nat => .slice y.1 l.length y.2) (fun y m => Ints m y.1 l.length y.2 l) fun hm h => h.mono hm
def MP.strs (l : List Str) : MP := MP.mem (fun y : Option Addr × Nat => .slice y.1 l.length y.2) (fun y m => Strs m y.1 l.length y.2 l) fun hm h => h.mono hm
end Go.Proofs.Ytfphefkfbhjfdaa
