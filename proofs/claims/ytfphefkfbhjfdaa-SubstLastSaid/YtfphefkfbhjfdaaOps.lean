/-
  What single operations owe: one lemma a kind of operation. Conditions: those of each lemma; no program occurs here.
-/
import Derived.Test.YtfphefkfbhjfdaaRegion
namespace Go.Proofs.Ytfphefkfbhjfdaa
set_option linter.all false
open Go.RowKit

class KC (K : World → Mem → Prop) (m0 : outParam Mem) (L : outParam (List Res)) : Prop where
  agree : ∀ {w : World} {m : Mem}, K w m → Agree w m
  le : ∀ {w : World} {m : Mem}, K w m → MLe m0 m
  at_ : ∀ {w : World} {m : Mem} {k : Nat} {r : Res}, K w m → L[k]? = some r → r.holds w m
instance {G0 : List Nat} {W : World} {mE m0 : Mem} {L : List Res} : KC (Ctx G0 W mE m0 L) m0 L := ⟨fun h => h.agree, fun h => h.le, fun h e => h.st.loc.at_ e⟩
def KAnd (K : World → Mem → Prop) (p : Mem → Prop) : World → Mem → Prop := fun w m => K w m ∧ p m
instance {K : World → Mem → Prop} {p : Mem → Prop} {m0 : Mem} {L : List Res} [h : KC K m0 L] : KC (KAnd K p) m0 L := ⟨fun x => h.agree x.1, fun x => h.le x.1, fun x e => h.at_ x.1 e⟩

/-- The snapshot holds these cells from p on. -/
def CellsAt (m : Mem) (p : Addr) (vs : List Value) : Prop := p.spot = none ∧ ∀ i v, vs[i]? = some v → m p.block (p.off + i) = some v
theorem CellsAt.mono {m m' : Mem} {p : Addr} {vs : List Value} (h : CellsAt m p vs) (hm : MLe m m') : CellsAt m' p vs := ⟨h.1, fun i v e => hm.cell _ _ _ (h.2 i v e)⟩
theorem add_block (p : Addr) (k : Nat) : (p.add k).block = p.block := by unfold Addr.add; split <;> rfl
theorem add_off (p : Addr) (k : Nat) : (p.add k).off = p.off + k := by unfold Addr.add; split <;> simp_all
theorem add_spot {p : Addr} (h : p.spot = none) (k : Nat) : (p.add k).spot = none := by unfold Addr.add; split <;> simp_all
theorem add_add' (p : Addr) (i j : Nat) : (p.add i).add j = p.add (i + j) := by
  unfold Addr.add
  by_cases hi : i = 0 <;> by_cases hj : j = 0 <;> simp [hi, hj, Nat.add_assoc]
theorem cell_of_cells {w : World} {m : Mem} (ha : Agree w m) {p : Addr} {vs : List Value} (h : CellsAt m p vs) {k : Nat} {v : Value} (hv : vs[k]? = some v) : w.cell? (p.add k) = some v := by
  have h1 := ha.cell _ _ _ (h.2 k v hv)
  have e : p.add k = ⟨p.block, p.off + k, none⟩ := by
    have h1 := add_block p k; have h2 := add_off p k; have h3 := add_spot h.1 k
    cases hq : p.add k; simp_all
  rw [e]; exact h1
theorem CellsAt.drop {m : Mem} {p : Addr} {vs : List Value} (h : CellsAt m p vs) (k : Nat) : CellsAt m (p.add k) (vs.drop k) :=
  ⟨add_spot h.1 k, fun i v e => by rw [add_block, add_off, Nat.add_assoc]; exact h.2 (k + i) v (by rw [List.getElem?_drop] at e; exact e)⟩
theorem CellsAt.take {m : Mem} {p : Addr} {vs : List Value} (h : CellsAt m p vs) (k : Nat) : CellsAt m p (vs.take k) :=
  ⟨h.1, fun i v e => h.2 i v (by rw [List.getElem?_take] at e; split at e; exact e; cases e)⟩
theorem cellsAt_add {w : World} {m : Mem} (cs : List Value) : CellsAt (m.add w.heap.size cs.toArray) ⟨w.heap.size, 0, none⟩ cs :=
  ⟨rfl, fun i v e => by simp [Mem.add, e]⟩

theorem loadCellsFrom_run {P : Program} {w : World} {a : Addr} : ∀ (n i : Nat) (acc : Array Value) (vs : List Value), vs.length = n → (∀ j v, vs[j]? = some v → w.cell? (a.add (i + j)) = some v) →
    (loadCellsFrom a i n acc).run P w = .ok (acc ++ vs.toArray) w
  | 0, i, acc, vs, h, _ => by have := List.eq_nil_of_length_eq_zero h; subst this; simp [loadCellsFrom]
  | n + 1, i, acc, vs, h, hc => by
    match vs, h with
    | v :: vs, h =>
      have h0 := hc 0 v rfl
      simp only [Nat.add_zero] at h0
      have hs : (loadCellsFrom a i (n + 1) acc).run P w = (loadCellsFrom a (i + 1) n (acc.push v)).run P w := by simp [loadCellsFrom, h0]
      rw [hs, loadCellsFrom_run n (i + 1) (acc.push v) vs (by simpa using h) (fun j u e => by rw [Nat.add_assoc, Nat.add_comm 1 j]; exact hc (j + 1) u e)]
      simp
theorem loadCells_run {P : Program} {w : World} {a : Addr} {vs : List Value} (hc : ∀ j v, vs[j]? = some v → w.cell? (a.add j) = some v) : (loadCells a vs.length).run P w = .ok vs.toArray w := by
  unfold loadCells
  rw [loadCellsFrom_run vs.length 0 #[] vs rfl (fun j v e => by simpa using hc j v e)]
  simp

section
variable {P : Program} {K : World → Mem → Prop} {m0 : Mem} {L : List Res} {us : List Nat} {ch : List (Nat × Bool)} {pre : List Ent} {T : List (Nat × Value)}
variable {dst : Option Nat} {ty : TypeId} {pos : String} {af : Array Edge} {gd : Option (Nat × Bool)}

/-- An operation that yields one value and changes nothing. -/
theorem ob_val [hK : KC K m0 L] {o : Oper} {v : Value} (h : ∀ σ w m, K w m → Know σ m us ch pre T → (execOp (evalO σ) o).run P w = .ok (.value v) w) : Ob P K us ch pre T o (.eq v) := fun σ w m hk hn => by
  unfold Does
  rw [h σ w m hk hn]
  exact ⟨m, ExtG.refl _ (hK.agree hk), rfl⟩
/-- Under a guard. -/
theorem ob_guard {o : Oper} {κ : Kn} {c b : Bool} (s : Nat) (hg : gok ch (some (s, b)) = true) (hs : evT us ch pre T s = some (.bool c)) (h : c = b → Ob P K us ch pre T o κ) : Ob P K us ch pre T o κ := fun σ w m hk hn => by
  have h1 := hn.gds _ (gok_mem hg)
  have h2 := hn.evT hs
  unfold gsat at h1
  simp only at h1
  rw [h2] at h1
  injection h1 with h1
  exact h h1 σ w m hk hn

theorem ob_move [KC K m0 L] {x : Operand} {v : Value} (hx : ev us ch pre T x = some v) : Ob P K us ch pre T ⟨dst, .move x, ty, pos, af, gd⟩ (.eq v) :=
  ob_val fun σ w m _ hn => by simp only [execOp, hn.ev hx]; rfl
theorem ob_assign [KC K m0 L] {x : Operand} {v : Value} (hx : ev us ch pre T x = some v) : Ob P K us ch pre T ⟨dst, .assign x, ty, pos, af, gd⟩ (.eq v) :=
  ob_val fun σ w m _ hn => by simp only [execOp, hn.ev hx]; rfl
theorem ob_fieldAddr [KC K m0 L] {s : TypeId} {x : Operand} {i : Nat} {p : Addr} {fs : Array Field} {f : Field} {sz : Nat} (hx : ev us ch pre T x = some (.pointer (some p)))
    (hs : P.underlying s = some (.struct fs)) (hf : fs[i]? = some f) (hz : ∀ w, (sizeOf f.type).run P w = .ok sz w) (h0 : Nat.beq sz 0 = false) :
    Ob P K us ch pre T ⟨dst, .fieldAddr s x i, ty, pos, af, gd⟩ (.eq (.pointer (some (p.add f.offset)))) :=
  ob_val fun σ w m _ hn => by
    have h0' : sz ≠ 0 := fun e => by subst e; cases h0
    simp [execOp, hn.ev hx, Instr.fieldAt, Instr.sureAddr, fieldPlace, run_underlying hs, hf, hz, h0']
theorem ob_fieldAddrO [KC K m0 L] {s : TypeId} {x : Operand} {i : Nat} {p : Addr} {fs : Array Field} {f : Field} {sz : Nat} {off : Nat} (hx : ev us ch pre T x = some (.pointer (some p)))
    (hs : P.underlying s = some (.struct fs)) (hf : fs[i]? = some f) (ho : f.offset = off) (hz : ∀ w, (sizeOf f.type).run P w = .ok sz w) (h0 : Nat.beq sz 0 = false) :
    Ob P K us ch pre T ⟨dst, .fieldAddr s x i, ty, pos, af, gd⟩ (.eq (.pointer (some (p.add off)))) := by
  subst ho; exact ob_fieldAddr hx hs hf hz h0
theorem ob_nilCheck [KC K m0 L] {x : Operand} {p : Addr} (hx : ev us ch pre T x = some (.pointer (some p))) : Ob P K us ch pre T ⟨dst, .nilCheck x, ty, pos, af, gd⟩ (.eq (.pointer (some p))) :=
  ob_val fun σ w m _ hn => by simp only [execOp, hn.ev hx]; rfl
theorem ob_nilCheckF [KC K m0 L] {x : Operand} {f : FuncId} {a b : Array Value} (hx : ev us ch pre T x = some (.func (.func f) a b)) : Ob P K us ch pre T ⟨dst, .nilCheck x, ty, pos, af, gd⟩ (.eq (.func (.func f) a b)) :=
  ob_val fun σ w m _ hn => by simp only [execOp, hn.ev hx]; rfl
/-- A load of one cell that the snapshot holds. -/
theorem ob_load1 [hK : KC K m0 L] {t : TypeId} {x : Operand} {p : Addr} {k : Nat} {vs : List Value} {v : Value} (hx : ev us ch pre T x = some (.pointer (some (p.add k)))) (hc : CellsAt m0 p vs)
    (ha : ∀ w, (isAgg t).run P w = .ok false w) (hv : vs[k]? = some v) : Ob P K us ch pre T ⟨dst, .load t x, ty, pos, af, gd⟩ (.eq v) :=
  ob_val fun σ w m hk hn => by
    have hcell := cell_of_cells (hK.agree hk) (hc.mono (hK.le hk)) hv
    simp [execOp, hn.ev hx, Instr.loadAt, Instr.sureAddr, loadVar, ha, run_load, hcell]
theorem addr_add0 (p : Addr) : p.add 0 = p := rfl
theorem ob_load1' [hK : KC K m0 L] {t : TypeId} {x : Operand} {p : Addr} {vs : List Value} {v : Value} (hx : ev us ch pre T x = some (.pointer (some p))) (hc : CellsAt m0 p vs)
    (ha : ∀ w, (isAgg t).run P w = .ok false w) (hv : vs[0]? = some v) : Ob P K us ch pre T ⟨dst, .load t x, ty, pos, af, gd⟩ (.eq v) := ob_load1 (k := 0) hx hc ha hv
/-- A load of a struct that the snapshot holds. -/
theorem ob_loadS [hK : KC K m0 L] {t : TypeId} {x : Operand} {p : Addr} {k n : Nat} {vs us' : List Value} (hx : ev us ch pre T x = some (.pointer (some (p.add k)))) (hc : CellsAt m0 p vs)
    (ha : ∀ w, (isAgg t).run P w = .ok true w) (hz : ∀ w, (sizeOf t).run P w = .ok n w) (hv : (vs.drop k).take n = us') (hn' : us'.length = n) : Ob P K us ch pre T ⟨dst, .load t x, ty, pos, af, gd⟩ (.eq (.agg us'.toArray)) :=
  ob_val fun σ w m hk hn => by
    have hl := loadCells_run (P := P) (w := w) (a := p.add k) (vs := us') fun j v e => by
      have hc' := ((hc.mono (hK.le hk)).drop k).take n
      rw [hv] at hc'
      exact cell_of_cells (hK.agree hk) hc' e
    rw [hn'] at hl
    simp [execOp, hn.ev hx, Instr.loadAt, Instr.sureAddr, loadVar, ha, hz, hl]
theorem ob_loadS' [hK : KC K m0 L] {t : TypeId} {x : Operand} {p : Addr} {n : Nat} {vs us' : List Value} (hx : ev us ch pre T x = some (.pointer (some p))) (hc : CellsAt m0 p vs)
    (ha : ∀ w, (isAgg t).run P w = .ok true w) (hz : ∀ w, (sizeOf t).run P w = .ok n w) (hv : vs.take n = us') (hn' : us'.length = n) : Ob P K us ch pre T ⟨dst, .load t x, ty, pos, af, gd⟩ (.eq (.agg us'.toArray)) :=
  ob_loadS (k := 0) hx hc ha hz hv hn'
theorem blk_heap {w : World} {m : Mem} {g : Nat} {o : Obj} (h : (Res.blk (.pointer (some ⟨g, 0, none⟩)) o).holds w m) : w.heap[g]? = some o := by
  obtain ⟨g', e, hh, _⟩ := h
  injection e with e; injection e with e; injection e with e; subst e; exact hh
theorem cell_blk {w : World} {g : Nat} {cs : List Value} {e : TypeId} {fz : Nat × Nat} (h : w.heap[g]? = some (.cells cs.toArray e fz)) {k : Nat} {v : Value} (hv : cs[k]? = some v) : w.cell? ((⟨g, 0, none⟩ : Addr).add k) = some v := by
  have e1 : (⟨g, 0, none⟩ : Addr).add k = ⟨g, k, none⟩ := by unfold Addr.add; split <;> simp_all
  rw [e1]; unfold World.cell?; simp only [h]; simpa using hv
/-- Loads from a block of the activation's own. -/
theorem ob_loadL [hK : KC K m0 L] {t e : TypeId} {x : Operand} {k j g : Nat} {cs : List Value} {fz : Nat × Nat} {v : Value} (hx : ev us ch pre T x = some (.pointer (some ((⟨g, 0, none⟩ : Addr).add k))))
    (hL : L[j]? = some (.blk (.pointer (some ⟨g, 0, none⟩)) (.cells cs.toArray e fz))) (ha : ∀ w, (isAgg t).run P w = .ok false w) (hv : cs[k]? = some v) : Ob P K us ch pre T ⟨dst, .load t x, ty, pos, af, gd⟩ (.eq v) :=
  ob_val fun σ w m hk hn => by
    have hcell := cell_blk (blk_heap (hK.at_ hk hL)) hv
    simp [execOp, hn.ev hx, Instr.loadAt, Instr.sureAddr, loadVar, ha, run_load, hcell]
theorem ob_loadL' [hK : KC K m0 L] {t e : TypeId} {x : Operand} {j g : Nat} {cs : List Value} {fz : Nat × Nat} {v : Value} (hx : ev us ch pre T x = some (.pointer (some ⟨g, 0, none⟩)))
    (hL : L[j]? = some (.blk (.pointer (some ⟨g, 0, none⟩)) (.cells cs.toArray e fz))) (ha : ∀ w, (isAgg t).run P w = .ok false w) (hv : cs[0]? = some v) : Ob P K us ch pre T ⟨dst, .load t x, ty, pos, af, gd⟩ (.eq v) := ob_loadL (k := 0) hx hL ha hv
theorem ob_loadLS [hK : KC K m0 L] {t e : TypeId} {x : Operand} {k n j g : Nat} {cs us' : List Value} {fz : Nat × Nat} (hx : ev us ch pre T x = some (.pointer (some ((⟨g, 0, none⟩ : Addr).add k))))
    (hL : L[j]? = some (.blk (.pointer (some ⟨g, 0, none⟩)) (.cells cs.toArray e fz))) (ha : ∀ w, (isAgg t).run P w = .ok true w) (hz : ∀ w, (sizeOf t).run P w = .ok n w) (hv : (cs.drop k).take n = us') (hn' : us'.length = n) :
    Ob P K us ch pre T ⟨dst, .load t x, ty, pos, af, gd⟩ (.eq (.agg us'.toArray)) :=
  ob_val fun σ w m hk hn => by
    have hl := loadCells_run (P := P) (w := w) (a := (⟨g, 0, none⟩ : Addr).add k) (vs := us') fun i v e => by
      rw [add_add']
      refine cell_blk (blk_heap (hK.at_ hk hL)) ?_
      rw [← hv, List.getElem?_take, List.getElem?_drop] at e
      split at e
      · exact e
      · cases e
    rw [hn'] at hl
    simp [execOp, hn.ev hx, Instr.loadAt, Instr.sureAddr, loadVar, ha, hz, hl]
theorem ob_loadLS' [hK : KC K m0 L] {t e : TypeId} {x : Operand} {n j g : Nat} {cs us' : List Value} {fz : Nat × Nat} (hx : ev us ch pre T x = some (.pointer (some ⟨g, 0, none⟩)))
    (hL : L[j]? = some (.blk (.pointer (some ⟨g, 0, none⟩)) (.cells cs.toArray e fz))) (ha : ∀ w, (isAgg t).run P w = .ok true w) (hz : ∀ w, (sizeOf t).run P w = .ok n w) (hv : cs.take n = us') (hn' : us'.length = n) :
    Ob P K us ch pre T ⟨dst, .load t x, ty, pos, af, gd⟩ (.eq (.agg us'.toArray)) := ob_loadLS (k := 0) hx hL ha hz hv hn'

/-- Nothing is known. -/
def MP.any : MP := ⟨Value, fun v => v, fun _ _ => True, fun _ h => h⟩
theorem newRow_run (w : World) (t : TypeId) (cs : Array Value) : (newRow t cs).run P w = .ok ⟨w.heap.size, 0, none⟩ (w.alloc (.cells cs t)) := rfl
/-- A new block that nobody writes any more: its cells are in the snapshot. -/
def MP.box (cs : List Value) : MP := MP.mem (fun g => .pointer (some ⟨g, 0, none⟩)) (fun g m => CellsAt m ⟨g, 0, none⟩ cs) fun hm h => h.mono hm
theorem ob_box [hK : KC K m0 L] {e : TypeId} {x : Operand} {v : Value} {cs : List Value} (hx : ev us ch pre T x = some v) (hv : v.cells = cs.toArray) : Ob P K us ch pre T ⟨dst, .box e x, ty, pos, af, gd⟩ (.ex (MP.box cs)) := fun σ w m hk hn => by
  have hr : (execOp (evalO σ) ⟨dst, .box e x, ty, pos, af, gd⟩).run P w = .ok (.value (.pointer (some ⟨w.heap.size, 0, none⟩))) (w.alloc (.cells cs.toArray e)) := by
    simp only [execOp, hn.ev hx, Instr.box, newVar, hv]; rfl
  unfold Does; rw [hr]
  exact ⟨_, ext_add (hK.agree hk) cs.toArray e, _, rfl, cellsAt_add cs⟩
/-- A pointer to some block's head. -/
def MP.ptr : MP := MP.mem (fun g => .pointer (some ⟨g, 0, none⟩)) (fun _ _ => True) fun _ h => h
theorem touch_new {w : World} {m : Mem} (ha : Agree w m) (cs : List Value) (e : TypeId) : Touch .free (.blk (.pointer (some ⟨w.heap.size, 0, none⟩)) (.cells cs.toArray e)) w m (w.alloc (.cells cs.toArray e)) m :=
  ⟨(ext_alloc ha _).mono (by simp), ⟨w.heap.size, rfl, heap_alloc_new w _, fun o => agree_none ha (Nat.le_refl _) o⟩, by simp [Res.blocks, ptrBlock], by simp [Res.blocks, ptrBlock]⟩
/-- A new block that is the activation's own and may be written. -/
theorem ob_boxL [hK : KC K m0 L] {d : Nat} {e : TypeId} {x : Operand} {v : Value} {cs : List Value} (hx : ev us ch pre T x = some v) (hv : v.cells = cs.toArray) :
    ObT P K us ch pre T (fun _ => .free) (fun v => .blk v (.cells cs.toArray e)) ⟨some d, .box e x, ty, pos, af, gd⟩ (.ex MP.ptr) := fun σ w m hk _ hn => by
  have hr : (execOp (evalO σ) ⟨some d, .box e x, ty, pos, af, gd⟩).run P w = .ok (.value (.pointer (some ⟨w.heap.size, 0, none⟩))) (w.alloc (.cells cs.toArray e)) := by
    simp only [execOp, hn.ev hx, Instr.box, newVar, hv]; rfl
  unfold Does; rw [hr]
  exact ⟨m, touch_new (hK.agree hk) cs e, _, rfl, trivial⟩
theorem ob_allocL [hK : KC K m0 L] {d : Nat} {e : TypeId} {z : Value} {cs : List Value} (hz : ∀ w, (zeroValue e).run P w = .ok z w) (hv : z.cells = cs.toArray) :
    ObT P K us ch pre T (fun _ => .free) (fun v => .blk v (.cells cs.toArray e)) ⟨some d, .alloc e, ty, pos, af, gd⟩ (.ex MP.ptr) := fun σ w m hk _ hn => by
  have hr : (execOp (evalO σ) ⟨some d, .alloc e, ty, pos, af, gd⟩).run P w = .ok (.value (.pointer (some ⟨w.heap.size, 0, none⟩))) (w.alloc (.cells cs.toArray e)) := by
    simp [execOp, Instr.alloc, hz, newVar, hv, newRow_run]
  unfold Does; rw [hr]
  exact ⟨m, touch_new (hK.agree hk) cs e, _, rfl, trivial⟩
theorem storeCells_run {P : Program} {g : Nat} {e : TypeId} : ∀ (vs : List Value) (w : World) (cs : List Value) (k i : Nat), w.heap[g]? = some (.cells cs.toArray e (0, 0)) → k + i + vs.length ≤ cs.length → (∀ v ∈ vs, v.oneCell' = true) →
    ∃ w', (storeCells ((⟨g, 0, none⟩ : Addr).add k) vs i).run P w = .ok () w' ∧ w'.heap[g]? = some (.cells (cs.take (k + i) ++ vs ++ cs.drop (k + i + vs.length)).toArray e (0, 0)) ∧
      w'.os = w.os ∧ w'.tape = w.tape ∧ w'.output = w.output ∧ w'.heap.size = w.heap.size ∧ ∀ b, b ≠ g → w'.heap[b]? = w.heap[b]?
  | [], w, cs, k, i, h, _, _ => ⟨w, by simp [storeCells], by simpa using h, rfl, rfl, rfl, rfl, fun _ _ => rfl⟩
  | v :: vs, w, cs, k, i, h, hl, h1 => by
    have e1 : ((⟨g, 0, none⟩ : Addr).add k).add i = ⟨g, k + i, none⟩ := by
      rw [add_add']; unfold Addr.add; split <;> simp_all
    simp only [List.length_cons] at hl
    have hlt : k + i < cs.length := by omega
    have hcell : w.cell? ⟨g, k + i, none⟩ = some cs[k + i] := by unfold World.cell?; simp [h, hlt]
    have hfz : w.frozen? ⟨g, k + i, none⟩ = false := by unfold World.frozen?; simp [h]
    have hset : (w.setCell ⟨g, k + i, none⟩ v).heap[g]? = some (.cells (cs.set (k + i) v).toArray e (0, 0)) := by
      simp [World.setCell, Array.getElem?_modify, h]
    obtain ⟨w', r1, r2, r3, r4, r5, r6, r7⟩ := storeCells_run (P := P) vs (w.setCell ⟨g, k + i, none⟩ v) (cs.set (k + i) v) k (i + 1) hset (by simp; omega) (fun u hu => h1 u (.tail _ hu))
    refine ⟨w', ?_, ?_, r3, r4, r5, by rw [r6]; simp [World.setCell], fun b hb => by rw [r7 b hb]; exact Below.heap_setCell _ _ _ _ hb⟩
    · simp only [storeCells]
      rw [Sem.run_bind, e1, run_store P w _ v .plain (h1 v (.head _))]
      simp only [hcell, hfz]
      exact r1
    · rw [r2]
      congr 3
      rw [List.take_set, List.drop_set]
      have e2 : k + (i + 1) = k + i + 1 := by omega
      rw [e2, List.take_succ_eq_append_getElem hlt]
      have e3 : k + i + 1 + vs.length = k + i + (vs.length + 1) := by omega
      rw [e3, if_pos (by omega)]
      rw [List.set_append_right _ _ (by simp; omega)]
      simp [Nat.min_eq_left (Nat.le_of_lt hlt)]
/-- A store into a block of the activation's own. -/
theorem ob_store [hK : KC K m0 L] {t e : TypeId} {x y : Operand} {k g : Nat} {cs vs : List Value} {v : Value} {n : Nat} (hx : ev us ch pre T x = some (.pointer (some ((⟨g, 0, none⟩ : Addr).add k)))) (hy : ev us ch pre T y = some v)
    (hv : v.cells = vs.toArray) (hz : ∀ w, (sizeOf t).run P w = .ok n w) (hn : Nat.beq vs.length n = true) (hl : Nat.ble (k + n) cs.length = true) (h1 : vs.all (·.oneCell') = true) :
    ObT P K us ch pre T (fun _ => .blk (.pointer (some ⟨g, 0, none⟩)) (.cells cs.toArray e)) (fun _ => .blk (.pointer (some ⟨g, 0, none⟩)) (.cells (cs.take k ++ vs ++ cs.drop (k + vs.length)).toArray e)) ⟨none, .store t x y, ty, pos, af, gd⟩ (.ex MP.any) := fun σ w m hk hr hkn => by
  obtain ⟨g', e1, hh, hm⟩ := hr
  injection e1 with e1; injection e1 with e1; injection e1 with e1; subst e1
  rw [Nat.beq_eq] at hn
  have hl' := Nat.le_of_ble_eq_true hl
  obtain ⟨w', r1, r2, r3, r4, r5, r6, r7⟩ := storeCells_run (P := P) vs w cs k 0 hh (by omega) (fun u hu => List.all_eq_true.1 h1 u hu)
  have hrun : (execOp (evalO σ) ⟨none, .store t x y, ty, pos, af, gd⟩).run P w = .ok .skip w' := by
    simp only [execOp, hkn.ev hx, hkn.ev hy]
    rw [Sem.run_bind]
    have : (Instr.storeAt t (.pointer (some ((⟨g, 0, none⟩ : Addr).add k))) v).run P w = .ok () w' := by
      simp [Instr.storeAt, Instr.sureAddr, storeVar, hz, hv, hn, r1]
    rw [this]; rfl
  unfold Does; rw [hrun]
  refine ⟨m, ⟨⟨r3, r4, r5, by omega, fun b _ hb => r7 b (fun e => hb (by subst e; simp [Res.blocks, ptrBlock])), ⟨fun b o u hu => ?_, fun b es e => ?_⟩, MLe.refl _, fun _ _ _ => ⟨rfl, rfl⟩⟩, ⟨g, rfl, by simpa using r2, hm⟩, by simp [Res.blocks, ptrBlock], by simp [Res.blocks, ptrBlock]⟩, _, rfl, trivial⟩
  · have hb : b ≠ g := fun e => by subst e; rw [hm o] at hu; cases hu
    rw [World.cell?_of_block (r7 b hb)]
    exact (hK.agree hk).cell b o u hu
  · have h1 := (hK.agree hk).map b es e
    have hb : b ≠ g := fun e => by subst e; rw [hh] at h1; cases h1
    exact (r7 b hb).trans h1
theorem ob_store' [hK : KC K m0 L] {t e : TypeId} {x y : Operand} {g : Nat} {cs vs : List Value} {v : Value} {n : Nat} (hx : ev us ch pre T x = some (.pointer (some ⟨g, 0, none⟩))) (hy : ev us ch pre T y = some v)
    (hv : v.cells = vs.toArray) (hz : ∀ w, (sizeOf t).run P w = .ok n w) (hn : Nat.beq vs.length n = true) (hl : Nat.ble (0 + n) cs.length = true) (h1 : vs.all (·.oneCell') = true) :
    ObT P K us ch pre T (fun _ => .blk (.pointer (some ⟨g, 0, none⟩)) (.cells cs.toArray e)) (fun _ => .blk (.pointer (some ⟨g, 0, none⟩)) (.cells (cs.take 0 ++ vs ++ cs.drop (0 + vs.length)).toArray e)) ⟨none, .store t x y, ty, pos, af, gd⟩ (.ex MP.any) :=
  ob_store (k := 0) hx hy hv hz hn hl h1
/-- .. through a pointer that this region has made. -/
theorem ob_storeF [hK : KC K m0 L] {t e : TypeId} {p : Nat} {y : Operand} {g : Nat} {cs vs : List Value} {v : Value} {n : Nat} (hst : stTmp (.store t (.tmp p) y) = some p) (hf : (find pre p).isSome = true) (hx : evT us ch pre T p = some (.pointer (some ⟨g, 0, none⟩))) (hy : ev us ch pre T y = some v)
    (hv : v.cells = vs.toArray) (hz : ∀ w, (sizeOf t).run P w = .ok n w) (hn : Nat.beq vs.length n = true) (hl : Nat.ble (0 + n) cs.length = true) (h1 : vs.all (·.oneCell') = true) :
    ObT P K us ch pre T (fun σ => .blk (σ p) (.cells cs.toArray e)) (fun x => .blk x (.cells (cs.take 0 ++ vs ++ cs.drop (0 + vs.length)).toArray e)) ⟨none, .store t (.tmp p) y, ty, pos, af, gd⟩ (.ex MP.any) := fun σ w m hk hr hkn => by
  have e1 : σ p = _ := hkn.evT hx
  have h2 := ob_store' (P := P) (K := K) (us := us) (ch := ch) (pre := pre) (T := T) (ty := ty) (pos := pos) (af := af) (gd := gd) (x := .tmp p) (e := e) hx hy hv hz hn hl h1 σ w m hk (by simp only [e1] at hr; exact hr) hkn
  have e2 : ∀ v, keepP pre ⟨none, .store t (.tmp p) y, ty, pos, af, gd⟩ σ v = .pointer (some ⟨g, 0, none⟩) := fun v => by
    rw [← e1]
    obtain ⟨z, hz⟩ := Option.isSome_iff_exists.1 hf
    unfold keepP
    simp only [hst, hz]
  simp only [e2, e1]
  exact h2
/-- .. of a value that this region has made: the block is known by it. -/
theorem ob_storeV [hK : KC K m0 L] {t e : TypeId} {p y : Nat} {k g : Nat} {cs : List Value} {v : Value} {n : Nat} (hst : stTmp (.store t (.tmp p) (.tmp y)) = some y) (hf : (find pre y).isSome = true) (hx : evT us ch pre T p = some (.pointer (some ((⟨g, 0, none⟩ : Addr).add k)))) (hy : evT us ch pre T y = some v)
    (hv : v.cells = [v].toArray) (hz : ∀ w, (sizeOf t).run P w = .ok n w) (hn : Nat.beq [v].length n = true) (hl : Nat.ble (k + n) cs.length = true) (h1 : [v].all (·.oneCell') = true) :
    ObT P K us ch pre T (fun _ => .blk (.pointer (some ⟨g, 0, none⟩)) (.cells cs.toArray e)) (fun u => .blk (.pointer (some ⟨g, 0, none⟩)) (.cells (cs.take k ++ [u] ++ cs.drop (k + 1)).toArray e)) ⟨none, .store t (.tmp p) (.tmp y), ty, pos, af, gd⟩ (.ex MP.any) := fun σ w m hk hr hkn => by
  have e1 : σ y = _ := hkn.evT hy
  have h2 := ob_store (P := P) (K := K) (us := us) (ch := ch) (pre := pre) (T := T) (ty := ty) (pos := pos) (af := af) (gd := gd) (x := .tmp p) (y := .tmp y) (e := e) (cs := cs) (vs := [v]) hx hy hv hz hn hl h1 σ w m hk hr hkn
  have e2 : ∀ v', keepP pre ⟨none, .store t (.tmp p) (.tmp y), ty, pos, af, gd⟩ σ v' = v := fun v' => by
    rw [← e1]
    obtain ⟨z, hz⟩ := Option.isSome_iff_exists.1 hf
    unfold keepP
    simp only [hst, hz]
  simp only [e2]
  exact h2
theorem ob_storeV' [hK : KC K m0 L] {t e : TypeId} {p y : Nat} {g : Nat} {cs : List Value} {v : Value} {n : Nat} (hst : stTmp (.store t (.tmp p) (.tmp y)) = some y) (hf : (find pre y).isSome = true) (hx : evT us ch pre T p = some (.pointer (some ⟨g, 0, none⟩))) (hy : evT us ch pre T y = some v)
    (hv : v.cells = [v].toArray) (hz : ∀ w, (sizeOf t).run P w = .ok n w) (hn : Nat.beq [v].length n = true) (hl : Nat.ble (0 + n) cs.length = true) (h1 : [v].all (·.oneCell') = true) :
    ObT P K us ch pre T (fun _ => .blk (.pointer (some ⟨g, 0, none⟩)) (.cells cs.toArray e)) (fun u => .blk (.pointer (some ⟨g, 0, none⟩)) (.cells (cs.take 0 ++ [u] ++ cs.drop (0 + 1)).toArray e)) ⟨none, .store t (.tmp p) (.tmp y), ty, pos, af, gd⟩ (.ex MP.any) :=
  ob_storeV (k := 0) hst hf hx hy hv hz hn hl h1
/-- What a second store hands on: its own value, and the first one's. -/
def pv1 : Value → Value
  | .tuple a => a.getD 0 undef
  | v => v
def pv2 : Value → Value
  | .tuple a => a.getD 1 undef
  | v => v
theorem pair_eq {x y u v : Value} (h1 : x = u) (h2 : y = v) : Value.tuple #[x, y] = .tuple #[u, v] := by rw [h1, h2]
theorem ob_two {d' : Nat} {r : (Nat → Value) → Res} {R : Res} {o : Oper} {κ : Kn} (h : ObT P K us ch pre T r (fun _ => R) o κ) : ObT2 P K us ch pre T d' r (fun _ => R) o κ := fun σ w m hk hr hn => h σ w m hk hr hn
theorem ob_storeV2 [hK : KC K m0 L] {t e : TypeId} {p y : Nat} {k g d' : Nat} {C : Value → List Value} {v : Value} {n : Nat} (hst : stTmp (.store t (.tmp p) (.tmp y)) = some y) (hf : (find pre y).isSome = true) (hx : evT us ch pre T p = some (.pointer (some ((⟨g, 0, none⟩ : Addr).add k)))) (hy : evT us ch pre T y = some v)
    (hv : v.cells = [v].toArray) (hz : ∀ w, (sizeOf t).run P w = .ok n w) (hn : Nat.beq [v].length n = true) (hl : ∀ x, Nat.ble (k + n) (C x).length = true) (h1 : [v].all (·.oneCell') = true) :
    ObT2 P K us ch pre T d' (fun σ => .blk (.pointer (some ⟨g, 0, none⟩)) (.cells (C (σ d')).toArray e)) (fun u => .blk (.pointer (some ⟨g, 0, none⟩)) (.cells ((C (pv2 u)).take k ++ [pv1 u] ++ (C (pv2 u)).drop (k + 1)).toArray e)) ⟨none, .store t (.tmp p) (.tmp y), ty, pos, af, gd⟩ (.ex MP.any) := fun σ w m hk hr hkn =>
  ob_storeV (P := P) (K := K) (us := us) (ch := ch) (pre := pre) (T := T) (ty := ty) (pos := pos) (af := af) (gd := gd) (p := p) (y := y) (e := e) (cs := C (σ d')) hst hf hx hy hv hz hn (hl _) h1 σ w m hk hr hkn
end
end Go.Proofs.Ytfphefkfbhjfdaa
