/-
  Slices, composite values, append: what these operations owe. Conditions: those of each lemma; no program occurs here.
-/
import Derived.Test.YtfphefkfbhjfdaaCode
namespace Go.Proofs.Ytfphefkfbhjfdaa
set_option linter.all false
open Go.RowKit

-- values that are put together
def putL : List Value → Nat → List Value → List Value
  | cs, _, [] => cs
  | cs, off, v :: r => putL (cs.set off v) (off + 1) r
def fillL (place : Nat → Option (Nat × Nat)) : List Value → List (Nat × Value) → Option (List Value)
  | cs, [] => some cs
  | cs, (i, v) :: r => match place i with
    | none => none
    | some (off, sz) => bif !(Nat.beq v.cells.toList.length sz) || !(Nat.ble (off + v.cells.toList.length) cs.length) then none else fillL place (putL cs off v.cells.toList) r
theorem putL_fold : ∀ (l : List Value) (k off : Nat) (cs : Array Value), ((l.zipIdx k).foldl (fun cs (c, j) => cs.setIfInBounds (off + j) c) cs).toList = putL cs.toList (off + k) l
  | [], _, _, _ => rfl
  | v :: l, k, off, cs => by
    simp only [List.zipIdx_cons, List.foldl_cons]
    rw [putL_fold l (k + 1) off]
    simp [putL, Nat.add_assoc]
theorem fill_eq {place : Nat → Option (Nat × Nat)} : ∀ (ps : List (Nat × Value)) (cs : List Value) (out : List Value), fillL place cs ps = some out → Instr.fill place cs.toArray ps = some out.toArray
  | [], cs, out, h => by simp [fillL] at h; subst h; rfl
  | (i, v) :: ps, cs, out, h => by
    simp only [fillL] at h
    unfold Instr.fill
    split at h
    · cases h
    · rename_i off sz hp
      cases hc : (!(Nat.beq v.cells.toList.length sz) || !(Nat.ble (off + v.cells.toList.length) cs.length)) with
      | true => rw [hc] at h; cases h
      | false =>
        rw [hc] at h; simp only [cond_false] at h
        simp only [Bool.or_eq_false_iff, Bool.not_eq_false', Nat.beq_eq, Nat.ble_eq] at hc
        rw [hp]
        simp only
        have h1 : v.cells.size = sz := by simpa using hc.1
        have h2 : off + v.cells.size ≤ cs.length := by simpa using hc.2
        rw [if_neg (by simp [h1]; rw [← h1]; omega)]
        rw [← fill_eq ps _ out h]
        congr 1
        have e := putL_fold v.cells.toList 0 off cs.toArray
        simp only [Nat.add_zero] at e
        rw [← Array.toArray_toList (xs := Array.foldl _ _ _)]
        congr 1
        rw [← e, ← Array.foldl_toList, Array.toList_zipIdx]
/-- Where the fields lie. -/
inductive Places (P : Program) : List Field → List (Nat × Nat) → Prop where
  | nil : Places P [] []
  | cons {f : Field} {fs : List Field} {sz : Nat} {ps : List (Nat × Nat)} (h : ∀ w, (sizeOf f.type).run P w = .ok sz w) (hs : Places P fs ps) : Places P (f :: fs) ((f.offset, sz) :: ps)
theorem places_run {P : Program} {fs : List Field} {ps : List (Nat × Nat)} (h : Places P fs ps) (w : World) : (fs.mapM (m := Sem) fun f => do pure (f.offset, ← sizeOf f.type)).run P w = .ok ps w := by
  induction h with
  | nil => simp
  | cons h1 _ ih => simp at ih; rw [List.mapM_cons, Sem.run_bind]; simp [h1, ih]
theorem build_run {P : Program} {t : TypeId} {fs : List Field} {zero cs : List Value} {ps : List (Nat × Nat)} {vs : List (Nat × Value)} (hs : P.underlying t = some (.struct fs.toArray)) (hz : ∀ w, (zeroValue t).run P w = .ok (.agg zero.toArray) w)
    (hp : Places P fs ps) (hf : fillL (fun i => ps[i]?) zero vs = some cs) (w : World) : (Instr.build t vs.toArray).run P w = .ok (.agg cs.toArray) w := by
  have h1 := fill_eq vs zero cs hf
  have h2 := places_run hp w
  simp at h2
  simp [Instr.build, hz, run_underlying hs, Value.cells, h2, h1]

section
variable {P : Program} {K : World → Mem → Prop} {m0 : Mem} {L : List Res} {us : List Nat} {ch : List (Nat × Bool)} {pre : List Ent} {T : List (Nat × Value)}
variable {dst : Option Nat} {ty : TypeId} {pos : String} {af : Array Edge} {gd : Option (Nat × Bool)}
theorem ob_buildS [KC K m0 L] {t : TypeId} {xs : List (Nat × Operand)} {vs : List (Nat × Value)} {fs : List Field} {zero cs : List Value} {ps : List (Nat × Nat)} (hxs : EvPs us ch pre T xs vs)
    (hs : P.underlying t = some (.struct fs.toArray)) (hz : ∀ w, (zeroValue t).run P w = .ok (.agg zero.toArray) w) (hp : Places P fs ps) (hf : fillL (fun i => ps[i]?) zero vs = some cs) :
    Ob P K us ch pre T ⟨dst, .build t xs.toArray, ty, pos, af, gd⟩ (.eq (.agg cs.toArray)) := ob_build hxs (build_run hs hz hp hf)

-- slices
/-- A slice over cells that the snapshot holds. -/
def RowAt (m : Mem) (o : Option Addr) (cs : List Value) : Prop := cs = [] ∨ ∃ p, o = some p ∧ CellsAt m p cs
theorem RowAt.mono {m m' : Mem} {o : Option Addr} {cs : List Value} (h : RowAt m o cs) (hm : MLe m m') : RowAt m' o cs := h.imp id fun ⟨p, e, hc⟩ => ⟨p, e, hc.mono hm⟩
def MP.row (n : Nat) (cs : List Value) : MP := MP.mem (fun g => .slice (some ⟨g, 0, none⟩) n n) (fun g m => CellsAt m ⟨g, 0, none⟩ cs) fun hm h => h.mono hm
theorem ob_buildSlice [hK : KC K m0 L] {t e : TypeId} {n sz : Nat} {xs : List (Nat × Operand)} {vs : List (Nat × Value)} {z : Value} {zero cs : List Value} (hxs : EvPs us ch pre T xs vs) (ht : P.underlying t = some (.slice e))
    (hsz : ∀ w, (sizeOf e).run P w = .ok sz w) (hz : ∀ w, (zeroValue e).run P w = .ok z w) (hzc : z.cells = zero.toArray) (hn : Nat.ble (n * sz) 16777216 = true) (h0 : Nat.beq (n * sz) 0 = false)
    (hf : fillL (fun i => some (i * sz, sz)) ((List.range (n * sz)).map fun i => zero.toArray[i % zero.toArray.size]!) vs = some cs) :
    Ob P K us ch pre T ⟨dst, .buildSlice t n xs.toArray, ty, pos, af, gd⟩ (.ex (MP.row n cs)) := fun σ w m hk hn' => by
  have hxe : (xs.toArray.map fun (i, x) => (i, evalO σ x)) = vs.toArray := by rw [← hxs.map hn']; simp
  have hff := fill_eq vs _ cs hf
  have hle := Nat.le_of_ble_eq_true hn
  have h0' : ¬ n * sz = 0 := fun e => by rw [e] at h0; cases h0
  have hrun : (execOp (evalO σ) ⟨dst, .buildSlice t n xs.toArray, ty, pos, af, gd⟩).run P w = .ok (.value (.slice (some ⟨w.heap.size, 0, none⟩) n n)) (w.alloc (.cells cs.toArray e)) := by
    have hr : (Array.range (n * sz)).map (fun i => zero.toArray[i % zero.toArray.size]!) = ((List.range (n * sz)).map fun i => zero.toArray[i % zero.toArray.size]!).toArray := by simp [← Array.toList_inj]
    have : (Instr.buildSlice t n vs.toArray).run P w = .ok (.slice (some ⟨w.heap.size, 0, none⟩) n n) (w.alloc (.cells cs.toArray e)) := by
      unfold Instr.buildSlice
      simp only [Sem.run_bind, run_underlying ht, Result.andThen_ok, hsz]
      rw [if_neg (by omega), if_neg h0']
      simp only [Sem.run_bind, hz, Result.andThen_ok, Sem.run_pure, hzc]
      rw [hr]
      simp only [hff]
      rfl
    simp only [execOp, hxe]
    rw [Sem.run_bind, this]; rfl
  unfold Does; rw [hrun]
  exact ⟨_, ext_add (hK.agree hk) cs.toArray e, _, rfl, cellsAt_add cs⟩

-- append
theorem row_new {w : World} {m : Mem} {e : TypeId} {size n cap : Nat} {xs : List Value} {cur : Array Value} (hlen : xs.length = n * size) (hnc : n ≤ cap) (hcm : cap ≤ maxLen) (hcs : cur.size = cap * size) (ht : cur.toList.take (n * size) = xs) (ha : Agree w m) :
    Touch .free (.row (.slice (some ⟨w.heap.size, 0, none⟩) n cap) n size e xs) w m (w.alloc (.cells cur e)) (m.add w.heap.size xs.toArray) := by
  have hE := ext_alloc ha (.cells cur e)
  have hag : Agree (w.alloc (.cells cur e)) (m.add w.heap.size xs.toArray) := ⟨fun b o u hu => by
    change (if b = w.heap.size then xs.toArray[o]? else m b o) = some u at hu
    split at hu
    · rename_i hb; subst hb
      have hh : (w.alloc (.cells cur e)).heap[w.heap.size]? = some (.cells cur e (0, 0)) := heap_alloc_new w _
      unfold World.cell?; simp only [hh]
      rw [← ht] at hu
      simp only [List.getElem?_toArray, List.getElem?_take] at hu
      split at hu
      · simpa using hu
      · cases hu
    · exact hE.agree.cell b o u hu, fun b es e => hE.agree.map b es e⟩
  refine ⟨⟨hE.os, hE.tape, hE.output, hE.size, fun b hb hg => hE.block b hb (by simp), hag, Mem.le_add ha _, fun b hb _ => ⟨by funext o; show (if b = w.heap.size then xs.toArray[o]? else m b o) = m b o; rw [if_neg (by omega)], rfl⟩⟩, ⟨hlen, .inr ⟨w.heap.size, cap, cur, rfl, heap_alloc_new w _, hnc, hcm, hcs, ht, fun o u hu => ?_, fun off ho => ?_⟩⟩, by simp [Res.blocks, rowBlock], by simp [Res.blocks, rowBlock]⟩
  · simp [Mem.add, hu]
  · simp only [Mem.add, if_true, List.getElem?_toArray]; exact List.getElem?_eq_none (by omega)
theorem touch_drew {r r' : Res} {w w' : World} {m m' : Mem} (h : Touch r r' w.drew m w' m') : Touch r r' w m w' m' :=
  ⟨⟨h.ext.os, h.ext.tape, h.ext.output, h.ext.size, h.ext.block, h.ext.agree, h.ext.le, h.ext.old⟩, h.now, h.nodup, h.where_⟩
theorem touch_from {r0 r r' : Res} {w w' : World} {m m' : Mem} (h : Touch r r' w m w' m') (hb : ∀ g ∈ r.blocks, g ∈ r0.blocks) : Touch r0 r' w m w' m' :=
  ⟨h.ext.mono hb, h.now, h.nodup, fun g hg => (h.where_ g hg).imp (hb g) id⟩
/-- 'append(v, x...)' onto a row of one's own. -/
theorem append_touch {w : World} {m : Mem} {t ty e : TypeId} {i : TypeInfo} {z : Value} {size bytes n k c : Nat} {v : Value} {A : Option Addr} {olds news : List Value} (ht : P.underlying t = some (.slice e)) (hi : P.info? e = some i) (hz : i.zero = some z)
    (hsize : i.size = size) (hby : i.bytes = bytes) (hzs : z.cells.size = size) (ha : Agree w m) (hr : (Res.row v n size e olds).holds w m)
    (hx : RowAt m A news) (hl : news.length = k * size) (hsz : 0 < size) (h1 : ∀ u ∈ news, u.oneCell' = true) (h63 : n + k ≤ maxLen) (hbytes : (n + k) * bytes ≤ 140737488355328) :
    ∃ o cap w' m', (Builtin.append_ #[t, t] ty #[v, .slice A k c]).run P w = .ok (.slice o (n + k) cap) w' ∧ Touch (.row v n size e olds) (.row (.slice o (n + k) cap) (n + k) size e (olds ++ news)) w m w' m' ∧ RowAt m' o (olds ++ news) ∧ n + k ≤ cap := by
  subst hsize; subst hby
  obtain ⟨hlo, hr⟩ := hr
  have hsmall : n + k ≤ 9223372036854775807 := by simp only [maxLen] at h63; omega
  have hlen : (olds ++ news).length = (n + k) * i.size := by rw [List.length_append, hlo, hl, Nat.add_mul]
  have fresh : ∀ old, old < n + k → Touch .free (.row (.slice (some ⟨w.heap.size, 0, none⟩) (n + k) (grownCap w (n + k) old e)) (n + k) i.size e (olds ++ news)) w m
      (w.drew.alloc (.cells (olds.toArray ++ news.toArray ++ Builtin.zeroCells z.cells (grownCap w (n + k) old e - (n + k))) e)) (m.add w.heap.size (olds ++ news).toArray) := fun old ho => by
    have hge := grownCap_ge w (n + k) old e
    refine touch_drew (row_new (w := w.drew) hlen hge (grownCap_le_maxLen w (n + k) old e h63) ?_ ?_ ⟨ha.cell, ha.map⟩)
    · simp only [Array.size_append, List.size_toArray, size_zeroCells, hzs, hlo, hl, ← Nat.add_mul]
      congr 1; omega
    · simp only [Array.toList_append, List.append_assoc]
      rw [← List.append_assoc, ← hlen]
      exact List.take_left
  have newrow : ∀ _ : Nat, RowAt (m.add w.heap.size (olds ++ news).toArray) (some ⟨w.heap.size, 0, none⟩) (olds ++ news) := fun _ => .inr ⟨_, rfl, cellsAt_add _⟩
  have same : k = 0 → news = [] := fun hk => List.eq_nil_of_length_eq_zero (by rw [hl, hk]; simp)
  by_cases hk : k = 0
  · have hn := same hk
    subst hk; subst hn
    rcases hr with ⟨rfl, h0⟩ | ⟨g, cap, cur, rfl, hh, hnc, hcm, hcs, htk, hin, hout⟩
    · subst h0
      have ho : olds = [] := List.eq_nil_of_length_eq_zero (by simpa using hlo)
      subst ho
      refine ⟨none, 0, w, m, ?_, ⟨ExtG.refl _ ha, ⟨by simp, .inl ⟨rfl, rfl⟩⟩, by simp [Res.blocks, rowBlock], fun g hg => by cases hg⟩, .inl rfl, Nat.le_refl _⟩
      cases A <;> simp [Builtin.append_, run_underlying ht, sizeOf, typeInfo, hi, Builtin.lenOf, Builtin.firstCells, loadCells, loadCellsFrom]
    · refine ⟨some ⟨g, 0, none⟩, cap, w, m, ?_, ⟨ExtG.refl _ ha, ⟨by simpa using hlo, .inr ⟨g, cap, cur, rfl, hh, hnc, hcm, hcs, by simpa using htk, fun o u hu => hin o u (by simpa using hu), hout⟩⟩, by simp [Res.blocks, rowBlock], fun g' hg => .inl hg⟩, ?_, hnc⟩
      · cases A <;> simp [Builtin.append_, run_underlying ht, sizeOf, typeInfo, hi, Builtin.lenOf, Builtin.firstCells, loadCells, loadCellsFrom, hnc, storeCells]
      · exact .inr ⟨_, rfl, rfl, fun o u hu => by rw [Nat.zero_add]; exact hin o u (by simpa using hu)⟩
  · have hne : news ≠ [] := fun hh => by
      rw [hh, List.length_nil] at hl
      have := Nat.mul_pos (Nat.pos_of_ne_zero hk) hsz; omega
    obtain ⟨ad, rfl, hcell⟩ : ∃ p, A = some p ∧ CellsAt m p news := by
      rcases hx with h | h
      · exact absurd h hne
      · exact h
    have hnews : ∀ j u, news[j]? = some u → w.cell? (ad.add j) = some u := fun j u e => cell_of_cells ha hcell e
    rcases hr with ⟨rfl, h0⟩ | ⟨g, cap, cur, rfl, hh, hnc, hcm, hcs, htk, hin, hout⟩
    · subst h0
      have ho : olds = [] := List.eq_nil_of_length_eq_zero (by simpa using hlo)
      subst ho
      have hrun := run_append_nil (P := P) w t ty e i z ht hi hz ad k c news hl hnews (by omega) (by omega) (by simp only [Nat.zero_add] at hbytes; omega)
      have hf := fresh 0 (by omega)
      have hge := grownCap_ge w k 0 e
      simp only [Nat.zero_add, List.nil_append, Array.empty_append] at hf ⊢
      refine ⟨_, _, _, _, hrun, touch_from hf (by simp [Res.blocks]), ?_, hge⟩
      have := newrow 0
      simpa using this
    · by_cases hroom : n + k ≤ cap
      · have hfit : n * i.size + news.length ≤ cur.size := by rw [hl, hcs, ← Nat.add_mul]; exact Nat.mul_le_mul_right _ hroom
        have hrun := run_append_room (P := P) w t ty e i ht hi g n cap cur hh ad k c news hl hnews h1 hroom hfit
        have hh' := setRow_heap w g cur (cur.toList.take (n * i.size) ++ news ++ cur.toList.drop (n * i.size + news.length)).toArray e (0, 0) hh
        have htk' : (cur.toList.take (n * i.size) ++ news ++ cur.toList.drop (n * i.size + news.length)).toArray.toList.take ((n + k) * i.size) = olds ++ news := by
          rw [htk, ← hlen]; exact List.take_left
        have hle : MLe m (m.add g (olds ++ news).toArray) := ⟨fun b o u hu => by
          show (if b = g then (olds ++ news).toArray[o]? else m b o) = some u
          split
          · rename_i hb; subst hb
            have hlt : o < olds.length := by
              rcases Nat.lt_or_ge o (n * i.size) with h | h
              · omega
              · rw [hout o h] at hu; cases hu
            have h2 := hin o olds[o] (List.getElem?_eq_getElem hlt)
            rw [hu] at h2; injection h2 with h2
            rw [List.getElem?_toArray, List.getElem?_append_left hlt, List.getElem?_eq_getElem hlt, h2]
          · exact hu, fun _ _ e => e⟩
        have hag : Agree (w.setRow g (cur.toList.take (n * i.size) ++ news ++ cur.toList.drop (n * i.size + news.length)).toArray) (m.add g (olds ++ news).toArray) := ⟨fun b o u hu => by
          change (if b = g then (olds ++ news).toArray[o]? else m b o) = some u at hu
          split at hu
          · rename_i hb; subst hb
            unfold World.cell?; simp only [hh']
            rw [← htk'] at hu
            simp only [List.getElem?_toArray, List.getElem?_take] at hu
            split at hu
            · simpa using hu
            · cases hu
          · rename_i hb
            rw [World.cell?_of_block (setRow_other w g b _ hb)]
            exact ha.cell b o u hu, fun b es e => by
          have h1 := ha.map b es e
          have hb : b ≠ g := fun e => by subst e; rw [hh] at h1; cases h1
          exact (setRow_other w g b _ hb).trans h1⟩
        refine ⟨_, _, _, m.add g (olds ++ news).toArray, hrun, ⟨⟨rfl, rfl, rfl, by simp [World.setRow], fun b _ hb => setRow_other w g b _ (fun e => hb (by simp [Res.blocks, rowBlock, e])), hag, hle, fun b _ hb => ⟨by funext o; show (if b = g then (olds ++ news).toArray[o]? else m b o) = m b o; rw [if_neg (fun e => hb (by simp [Res.blocks, rowBlock, e]))], rfl⟩⟩,
          ⟨hlen, .inr ⟨g, cap, _, rfl, hh', hroom, hcm, ?_, htk', fun o u hu => by simp only [Mem.add, if_true, List.getElem?_toArray]; exact hu, fun off ho => by simp only [Mem.add, if_true, List.getElem?_toArray]; exact List.getElem?_eq_none (by omega)⟩⟩, by simp [Res.blocks, rowBlock], fun g' hg => .inl hg⟩, ?_, hroom⟩
        · simp only [List.size_toArray, List.length_append, List.length_take, List.length_drop, Array.length_toList]; omega
        · exact .inr ⟨_, rfl, rfl, fun o u hu => by simp only [Mem.add, if_true, List.getElem?_toArray, Nat.zero_add]; exact hu⟩
      · have holds : ∀ j u, olds[j]? = some u → w.cell? ((⟨g, 0, none⟩ : Addr).add j) = some u := fun j u e => cell_of_cells ha (vs := olds) ⟨rfl, fun o u hu => by rw [Nat.zero_add]; exact hin o u hu⟩ e
        have hrun := run_append_grow (P := P) w t ty e i z ht hi hz ⟨g, 0, none⟩ n cap olds hlo holds ad k c news hl hnews (by omega) (by omega) (growslice_fits (by omega) hbytes)
        have hge := grownCap_ge w (n + k) cap e
        exact ⟨_, _, _, _, hrun, touch_from (fresh cap (by omega)) (by simp [Res.blocks]), newrow 0, hge⟩
def MP.sl (n : Nat) (cs : List Value) : MP := MP.mem (fun y : Option Addr × Nat => .slice y.1 n y.2) (fun y m => RowAt m y.1 cs ∧ n ≤ y.2) fun hm h => ⟨h.1.mono hm, h.2⟩
/-- An append onto a row that is a resource. -/
theorem ob_append [hK : KC K m0 L] {d : Nat} {t e : TypeId} {i : TypeInfo} {z v : Value} {size bytes n k c : Nat} {A : Option Addr} {olds news : List Value} {x y : Operand} (hv : ev us ch pre T x = some v) (hy : ev us ch pre T y = some (.slice A k c))
    (ht : P.underlying t = some (.slice e)) (hi : P.info? e = some i) (hz : i.zero = some z) (hsize : i.size = size) (hby : i.bytes = bytes) (hzs : z.cells.size = size)
    (hx : ∀ w m, K w m → RowAt m A news) (hl : news.length = k * size) (hsz : 0 < size) (h1 : news.all (·.oneCell') = true) (h63 : n + k ≤ maxLen) (hbytes : (n + k) * bytes ≤ 140737488355328) :
    ObT P K us ch pre T (fun _ => .row v n size e olds) (fun v' => .row v' (n + k) size e (olds ++ news)) ⟨some d, .call { callee := .builtin .append, args := #[x, y], argTypes := #[t, t] }, ty, pos, af, gd⟩ (.ex (MP.sl (n + k) (olds ++ news))) := fun σ w m hk hr hn => by
  obtain ⟨o, cap, w', m', hrun, ht', hro, hle⟩ := append_touch (P := P) (ty := ty) (c := c) ht hi hz hsize hby hzs (hK.agree hk) hr (hx w m hk) hl hsz (fun u hu => List.all_eq_true.1 h1 u hu) h63 hbytes
  have hr2 : (execOp (evalO σ) ⟨some d, .call { callee := .builtin .append, args := #[x, y], argTypes := #[t, t] }, ty, pos, af, gd⟩).run P w = .ok (.value (.slice o (n + k) cap)) w' := by
    simp only [execOp, resolve, List.map_toArray, List.map_cons, List.map_nil, hn.ev hv, hn.ev hy, Sem.run_bind, Sem.run_pure, Result.andThen_ok, invoke, builtin]
    rw [hrun]; rfl
  unfold Does; rw [hr2]
  exact ⟨m', ht', (o, cap), rfl, hro, hle⟩
theorem ob_len [KC K m0 L] {t e : TypeId} {x : Operand} {o : Option Addr} {n c : Nat} (hx : ev us ch pre T x = some (.slice o n c)) (ht : P.underlying t = some (.slice e)) :
    Ob P K us ch pre T ⟨dst, .call { callee := .builtin .len, args := #[x], argTypes := #[t] }, ty, pos, af, gd⟩ (.eq (.int .i64 n)) :=
  ob_val fun σ w m _ hn => by simp [execOp, resolve, hn.ev hx, invoke, builtin, Builtin.len_, run_underlying ht, goInt]
theorem ob_slen [KC K m0 L] {t : TypeId} {x : Operand} {s : Str} (hx : ev us ch pre T x = some (S s)) (ht : P.underlying t = some .string) :
    Ob P K us ch pre T ⟨dst, .call { callee := .builtin .len, args := #[x], argTypes := #[t] }, ty, pos, af, gd⟩ (.eq (.int .i64 s.length)) :=
  ob_val fun σ w m _ hn => by simp [execOp, resolve, hn.ev hx, invoke, builtin, Builtin.len_, run_underlying ht, goInt, S_size]
theorem ob_min2 [KC K m0 L] {ts : Array TypeId} {x y : Operand} {k : IntKind} {a b : Int} (hx : ev us ch pre T x = some (.int k a)) (hy : ev us ch pre T y = some (.int k b)) :
    Ob P K us ch pre T ⟨dst, .call { callee := .builtin .min, args := #[x, y], argTypes := ts }, ty, pos, af, gd⟩ (.eq (.int k (if b < a then b else a))) :=
  ob_val fun σ w m _ hn => by simp [execOp, resolve, hn.ev hx, hn.ev hy, invoke, builtin, run_min_int2]
theorem ob_max2 [KC K m0 L] {ts : Array TypeId} {x y : Operand} {k : IntKind} {a b : Int} (hx : ev us ch pre T x = some (.int k a)) (hy : ev us ch pre T y = some (.int k b)) :
    Ob P K us ch pre T ⟨dst, .call { callee := .builtin .max, args := #[x, y], argTypes := ts }, ty, pos, af, gd⟩ (.eq (.int k (if b > a then b else a))) :=
  ob_val fun σ w m _ hn => by simp [execOp, resolve, hn.ev hx, hn.ev hy, invoke, builtin, run_max_int2]
theorem ob_indexAddr [KC K m0 L] {t e : TypeId} {x y : Operand} {p : Addr} {len cap sz k : Nat} {ik : IntKind} {i : Int} (hx : ev us ch pre T x = some (.slice (some p) len cap)) (hy : ev us ch pre T y = some (.int ik i))
    (ht : P.underlying t = some (.slice e)) (hz : ∀ w, (sizeOf e).run P w = .ok sz w) (hi : i = (k : Int)) (hk : k < len) :
    Ob P K us ch pre T ⟨dst, .indexAddr t x y, ty, pos, af, gd⟩ (.eq (.pointer (some (p.add (k * sz))))) :=
  ob_val fun σ w m _ hn => by
    subst hi
    have h1 : (0 : Int) ≤ (k : Int) ∧ (k : Int) < (len : Int) := ⟨by omega, by omega⟩
    simp [execOp, hn.ev hx, hn.ev hy, Instr.indexAt, asIntOf, run_underlying ht, hz, hk]
/-- A bound of a slice expression. -/
inductive Bnd (us : List Nat) (ch : List (Nat × Bool)) (pre : List Ent) (T : List (Nat × Value)) : Option Operand → Nat → Nat → Prop where
  | none {d : Nat} : Bnd us ch pre T none d d
  | some {x : Operand} {d k : Nat} {ik : IntKind} {i : Int} (h : ev us ch pre T x = some (.int ik i)) (e : i = (k : Int)) : Bnd us ch pre T (some x) d k
theorem ob_slice [KC K m0 L] {t e : TypeId} {x : Operand} {lo hi : Option Operand} {o : Option Addr} {len cap sz l h : Nat} (hx : ev us ch pre T x = some (.slice o len cap)) (hlo : Bnd us ch pre T lo 0 l) (hhi : Bnd us ch pre T hi len h)
    (ht : P.underlying t = some (.slice e)) (hz : ∀ w, (sizeOf e).run P w = .ok sz w) (h1 : l ≤ h) (h2 : h ≤ cap) :
    Ob P K us ch pre T ⟨dst, .slice t x lo hi none, ty, pos, af, gd⟩ (.eq (.slice (if cap = l then o else o.map (·.add (l * sz))) (h - l) (cap - l))) :=
  ob_val fun σ w m _ hn => by
    have hb : ∀ (i y : Nat) (ik : IntKind) (cd : BoundsCode), i ≤ y → (Instr.sliceBound (.int ik (i : Int)) y cd).run P w = .ok i w := fun i y ik cd hh => by
      simp [Instr.sliceBound, asIntOf, hh]
    cases hlo with
    | none => cases hhi with
      | none => simp [execOp, hn.ev hx, Instr.sliceAt, Instr.slice, run_underlying ht, Instr.sliceBounds, hz]
      | some g2 e2 => subst e2; simp [execOp, hn.ev hx, hn.ev g2, Instr.sliceAt, Instr.slice, run_underlying ht, Instr.sliceBounds, hz, hb _ _ _ _ h2]
    | some g1 e1 => cases hhi with
      | none => subst e1; simp [execOp, hn.ev hx, hn.ev g1, Instr.sliceAt, Instr.slice, run_underlying ht, Instr.sliceBounds, hz, hb _ _ _ _ h1]
      | some g2 e2 => subst e1; subst e2; simp [execOp, hn.ev hx, hn.ev g1, hn.ev g2, Instr.sliceAt, Instr.slice, run_underlying ht, Instr.sliceBounds, hz, hb _ _ _ _ h1, hb _ _ _ _ h2]

/-- A slice of things that the snapshot holds: each takes sz cells, and reads as R says. -/
structure Sl {α : Type} (R : Mem → List Value → α → Prop) (sz : Nat) (m : Mem) (o : Option Addr) (n cap : Nat) (xs : List α) : Prop where
  len : xs.length = n
  cap : n ≤ cap
  big : n ≤ 9223372036854775807
  at_ : ∀ i x, xs[i]? = some x → ∃ p vs, o = some p ∧ CellsAt m (p.add (i * sz)) vs ∧ vs.length = sz ∧ R m vs x
theorem Sl.mono {α : Type} {R : Mem → List Value → α → Prop} {sz : Nat} {m m' : Mem} {o : Option Addr} {n cap : Nat} {xs : List α} (h : Sl R sz m o n cap xs) (hR : ∀ vs x, R m vs x → R m' vs x) (hm : MLe m m') : Sl R sz m' o n cap xs :=
  ⟨h.len, h.cap, h.big, fun i x hx => by obtain ⟨p, vs, e, hc, hl, hr⟩ := h.at_ i x hx; exact ⟨p, vs, e, hc.mono hm, hl, hR _ _ hr⟩⟩
theorem Sl.cut {α : Type} {R : Mem → List Value → α → Prop} {sz : Nat} {m : Mem} {o : Option Addr} {n cap : Nat} {xs : List α} (h : Sl R sz m o n cap xs) {l k : Nat} (h1 : l ≤ k) (h2 : k ≤ n) :
    Sl R sz m (if cap = l then o else o.map (·.add (l * sz))) (k - l) (cap - l) ((xs.take k).drop l) := by
  refine ⟨by simp [h.len]; omega, by have := h.cap; omega, by have := h.big; omega, fun i x hx => ?_⟩
  rw [List.getElem?_drop, List.getElem?_take] at hx
  split at hx
  · rename_i hlt
    obtain ⟨p, vs, e, hc, hl, hr⟩ := h.at_ (l + i) x hx
    have hcap := h.cap
    rw [if_neg (by omega), e]
    refine ⟨p.add (l * sz), vs, rfl, ?_, hl, hr⟩
    rw [add_add', ← Nat.add_mul]; exact hc
  · cases hx
theorem Sl.get {α : Type} {R : Mem → List Value → α → Prop} {sz : Nat} {m : Mem} {o : Option Addr} {n cap : Nat} {xs : List α} (h : Sl R sz m o n cap xs) {i : Nat} (hi : i < n) :
    ∃ p vs, ∃ hx : i < xs.length, o = some p ∧ CellsAt m (p.add (i * sz)) vs ∧ vs.length = sz ∧ R m vs xs[i] := by
  have hl : i < xs.length := by rw [h.len]; exact hi
  obtain ⟨p, vs, e, hc, hl', hr⟩ := h.at_ i xs[i] (List.getElem?_eq_getElem hl)
  exact ⟨p, vs, hl, e, hc, hl', hr⟩
/-- Cells that lie one behind the other read as a slice. -/
theorem Sl.of_row {α : Type} {R : Mem → List Value → α → Prop} {sz : Nat} {m : Mem} {o : Option Addr} {n cap : Nat} {xs : List α} {f : α → List Value} (hr : RowAt m o (xs.flatMap f)) (hn : xs.length = n) (hc : n ≤ cap) (hb : n ≤ 9223372036854775807)
    (hsz : 0 < sz) (hf : ∀ x ∈ xs, (f x).length = sz ∧ R m (f x) x) : Sl R sz m o n cap xs := by
  refine ⟨hn, hc, hb, fun i x hx => ?_⟩
  have key : ∀ (xs : List α) (i : Nat) (x : α), (∀ x ∈ xs, (f x).length = sz) → xs[i]? = some x → ((xs.flatMap f).drop (i * sz)).take sz = f x := by
    intro xs
    induction xs with
    | nil => intro i x _ h; simp at h
    | cons y ys ih =>
      intro i x hl hx
      cases i with
      | zero => simp at hx; subst hx; simp [hl y (.head _)]
      | succ i =>
        simp at hx
        rw [List.flatMap_cons, Nat.succ_mul, List.drop_append, List.drop_eq_nil_of_le (by rw [hl y (.head _)]; omega)]
        rw [hl y (.head _), Nat.add_sub_cancel, List.nil_append]
        exact ih i x (fun z hz => hl z (.tail _ hz)) hx
  have hmem := List.mem_of_getElem? hx
  rcases hr with h0 | ⟨p, e, hcells⟩
  · have h1 := key xs i x (fun z hz => (hf z hz).1) hx
    rw [h0] at h1
    have h2 := (hf x hmem).1
    rw [← h1] at h2; simp at h2; omega
  · refine ⟨p, f x, e, ?_, (hf x hmem).1, (hf x hmem).2⟩
    have := (hcells.drop (i * sz)).take sz
    rwa [key xs i x (fun z hz => (hf z hz).1) hx] at this
end
end Go.Proofs.Ytfphefkfbhjfdaa
