/-
  Rows of one's own, cell by cell: loads, stores, clear; rows cut off; pure calls. Conditions: those of each lemma; no program occurs here.
-/
import Derived.Test.YtlidonjpgigocaaGreatRange
namespace Go.Proofs.YtlidonjpgigocaaGreat
set_option linter.all false
open Go.RowKit
theorem mrow_some {w : World} {m : Mem} {o : Option Addr} {n c size : Nat} {e : TypeId} {xs : List Value} (h : (Res.mrow (.slice o n c) n size e xs).holds w m) (h0 : 0 < n) : ∃ g, o = some ⟨g, 0, none⟩ := by
  obtain ⟨-, o', cap', e1, h1, h2, h3⟩ := h
  injection e1 with e1 e2 e3; subst e1; subst e3
  rcases h3 with rfl | ⟨g, cur, rfl, -⟩
  · omega
  · exact ⟨g, rfl⟩
theorem mBlock_n (o : Option Addr) (n n' c : Nat) : mBlock (.slice o n c) = mBlock (.slice o n' c) := by
  cases c with
  | zero => rfl
  | succ c => cases o <;> rfl
theorem mrow_cap {w : World} {m : Mem} {o : Option Addr} {n c size : Nat} {e : TypeId} {xs : List Value} (h : (Res.mrow (.slice o n c) n size e xs).holds w m) : n ≤ c ∧ c ≤ maxLen := by
  obtain ⟨o', c', e1, h1, h2⟩ := Res.mrow_val h
  injection e1 with e1 e2 e3; subst e3; exact ⟨h1, h2⟩
/-- The first ones of a row. -/
theorem mrow_cut {w : World} {m : Mem} {o : Option Addr} {n c : Nat} {e : TypeId} {xs : List Value} (h : (Res.mrow (.slice o n c) n 1 e xs).holds w m) {k : Nat} (hk : k ≤ n) : (Res.mrow (.slice o k c) k 1 e (xs.take k)).holds w m := by
  obtain ⟨hlen, o', cap', e1, h1, h2, h3⟩ := h
  injection e1 with e1 e2 e3; subst e1; subst e3
  refine ⟨by rw [List.length_take]; omega, o, c, rfl, by omega, h2, ?_⟩
  rcases h3 with h3 | ⟨g, cur, h4, h5, h6, h7, h8⟩
  · exact .inl h3
  · refine .inr ⟨g, cur, h4, h5, h6, ?_, h8⟩
    rw [← h7, List.take_take]; congr 1; omega
/-- A row of one's own as cells that nobody writes meanwhile. -/
theorem mrow_see {w : World} {m : Mem} {o : Option Addr} {n c size : Nat} {e : TypeId} {xs : List Value} (hA : Agree w m) (h : (Res.mrow (.slice o n c) n size e xs).holds w m) : ∃ m', Agree w m' ∧ MLe m m' ∧ RowAt m' o xs := by
  obtain ⟨m', ht, o', c', e1, _, _, hr⟩ := mrow_freeze hA h
  injection e1 with e1 e2 e3; subst e1
  exact ⟨m', ht.ext.agree, ht.ext.le, hr⟩
/-- Cells of a block of one's own, as cells that nobody writes meanwhile. -/
theorem blk_see {w : World} {m : Mem} {g : Nat} {cs : List Value} {e : TypeId} (hA : Agree w m) (h : (Res.blk (.pointer (some ⟨g, 0, none⟩)) (.cells cs.toArray e)).holds w m) : ∃ m', Agree w m' ∧ MLe m m' ∧ CellsAt m' ⟨g, 0, none⟩ cs := by
  obtain ⟨g', e1, hh, hm⟩ := h
  injection e1 with e1; injection e1 with e1; injection e1 with e1; subst e1
  refine ⟨m.add g cs.toArray, ⟨fun b o v e => ?_, hA.map⟩, ⟨fun b o v e => ?_, fun _ _ h => h⟩, rfl, fun i v e => ?_⟩
  · change (if b = g then cs.toArray[o]? else m b o) = some v at e
    split at e
    · rename_i hb; subst hb; unfold World.cell?; simp only [hh]; exact e
    · exact hA.cell b o v e
  · show (if b = g then cs.toArray[o]? else m b o) = some v
    rw [if_neg (fun hb => by rw [hb, hm] at e; cases e)]; exact e
  · show (if g = g then cs.toArray[0 + i]? else _) = _
    rw [if_pos rfl, Nat.zero_add]; simpa using e
theorem St.freezeB {G0 : List Nat} {W : World} {mE : Mem} {L : List Res} {w : World} {m : Mem} {k g : Nat} {cs : Array Value} {e : TypeId} (h : St G0 W mE L w m) (hk : L[k]? = some (.blk (.pointer (some ⟨g, 0, none⟩)) (.cells cs e (0, 0)))) :
    ∃ m', MLe m m' ∧ St G0 W mE (L.set k .free) w m' ∧ CellsAt m' ⟨g, 0, none⟩ cs.toList := by
  obtain ⟨g', e1, hh, h6⟩ := h.loc.at_ hk
  simp only [Value.pointer.injEq, Option.some.injEq, Addr.mk.injEq] at e1
  obtain ⟨rfl, -⟩ := e1
  have ha := h.agree
  have hag : Agree w (m.add g cs) := ⟨fun b o u hu => by
    change (if b = g then cs[o]? else m b o) = some u at hu
    split at hu
    · rename_i hb; subst hb
      unfold World.cell?; simp only [hh]; simpa using hu
    · exact ha.cell b o u hu, ha.map⟩
  have hle : MLe m (m.add g cs) := ⟨fun b o u hu => by
    show (if b = g then cs[o]? else m b o) = some u
    split
    · rename_i hb; subst hb; rw [h6 o] at hu; cases hu
    · exact hu, fun _ _ h => h⟩
  refine ⟨m.add g cs, hle, h.touch hk ⟨⟨rfl, rfl, rfl, Nat.le_refl _, fun _ _ _ => rfl, hag, hle, fun b _ hb => ⟨by funext o; show (if b = g then cs[o]? else m b o) = m b o; rw [if_neg (fun e => hb (by simp [Res.blocks, ptrBlock, e]))], rfl⟩⟩, trivial, List.nodup_nil, fun g hg => by cases hg⟩, rfl, fun i u hu => ?_⟩
  show (if g = g then cs[0 + i]? else m g (0 + i)) = some u
  rw [if_pos rfl, Nat.zero_add]; simpa using hu
def numV : Nat → List (List Value) → List (Nat × Value)
  | _, [] => []
  | i, v :: r => (i, .agg v.toArray) :: numV (i + 1) r
section
variable {P : Program}
/-- A call that changes nothing and whose answer is known: it may be looked at with more cells known. -/
theorem FnV.pure {f : FuncId} {args : Array Value} {w : World} {m m2 : Mem} {u : Value} (hA : Agree w m) (h : FnV P f args w m2 fun _ _ v => v = u) : FnV P f args w m fun _ _ v => v = u :=
  Calls.mono h fun e w' ⟨v, m', e1, hE, hv⟩ => ⟨v, m, e1, ExtG.of_below hA hE.below, hv⟩
variable {K : World → Mem → Prop} {m0 : Mem} {L : List Res} {us : List Nat} {ch : List (Nat × Bool)} {pre : List Ent} {T : List (Nat × Value)}
variable {dst : Option Nat} {ty : TypeId} {pos : String} {af : Array Edge} {gd : Option (Nat × Bool)}
/-- A load of one cell of a row of one's own. -/
theorem ob_loadM1 [hK : KC K m0 L] {t e : TypeId} {x : Operand} {i j g n cap : Nat} {xs : List Value} {v : Value} (hx : ev us ch pre T x = some (.pointer (some ((⟨g, 0, none⟩ : Addr).add (i * 1)))))
    (hL : L[j]? = some (.mrow (.slice (some ⟨g, 0, none⟩) n cap) n 1 e xs)) (ha : ∀ w, (isAgg t).run P w = .ok false w) (hv : xs[i]? = some v) :
    Ob P K us ch pre T ⟨dst, .load t x, ty, pos, af, gd⟩ (.eq v) :=
  ob_val fun σ w m hk hn => by
    obtain ⟨hlen, o, cap', e1, h1, h2, h3⟩ := hK.at_ hk hL
    injection e1 with e1 e2 e3; subst e1; subst e3
    have hi : i < xs.length := (List.getElem?_eq_some_iff.1 hv).1
    rcases h3 with h3 | ⟨g', cur, e4, hh, h4, h5, h6⟩
    · omega
    · injection e4 with e4; injection e4 with e4; subst e4
      have hcell : w.cell? ((⟨g, 0, none⟩ : Addr).add (i * 1)) = some v := by
        have e5 : (⟨g, 0, none⟩ : Addr).add (i * 1) = ⟨g, i, none⟩ := by unfold Addr.add; split <;> simp_all
        rw [e5]; unfold World.cell?; simp only [hh]
        rw [← h5, List.getElem?_take, if_pos (by omega)] at hv
        simpa using hv
      rw [Nat.mul_one] at hcell hx
      simp [execOp, hn.ev hx, Instr.loadAt, Instr.sureAddr, loadVar, ha, run_load, hcell]
/-- Cells of a row of one's own, written over. -/
theorem mrow_cells {w : World} {m : Mem} {g n cap i : Nat} {e : TypeId} {xs ws : List Value} (hA : Agree w m) (hr : (Res.mrow (.slice (some ⟨g, 0, none⟩) n cap) n 1 e xs).holds w m) (hi : i + ws.length ≤ n) (h0 : 0 < n) (h1 : ∀ v ∈ ws, v.oneCell' = true) :
    ∃ w', (storeCells ((⟨g, 0, none⟩ : Addr).add i) ws 0).run P w = .ok () w' ∧ Touch (.mrow (.slice (some ⟨g, 0, none⟩) n cap) n 1 e xs) (.mrow (.slice (some ⟨g, 0, none⟩) n cap) n 1 e (xs.take i ++ ws ++ xs.drop (i + ws.length))) w m w' m := by
  obtain ⟨hlen, o, cap', e1, hnc, hcm, h3⟩ := hr
  injection e1 with e1 e2 e3; subst e1; subst e3
  rcases h3 with h3 | ⟨g', cur, e4, hh, h4, h5, h6⟩
  · omega
  · injection e4 with e4; injection e4 with e4; subst e4
    have hcl : cur.toList.length = cap := by rw [Array.length_toList]; omega
    obtain ⟨w', r1, r2, r3, r4, r5, r6, r7⟩ := storeCells_run (P := P) (g := g) (e := e) ws w cur.toList i 0 (by simpa using hh) (by omega) h1
    simp only [Nat.add_zero] at r2
    refine ⟨w', r1, mrow_write (w := w) (w' := w') (m := m) (g := g) (n := n) (cap := cap) (n' := n) (size := 1) (e := e) (xs := xs) (cur := cur) (cur' := (cur.toList.take i ++ ws ++ cur.toList.drop (i + ws.length)).toArray) hA (by omega) hcm hh h6 hnc ?_ r2 ?_ ?_ r3 r4 r5 (by omega) (fun b _ hb => r7 b hb)⟩
    · simp only [List.length_append, List.length_take, List.length_drop]; omega
    · simp only [List.size_toArray, List.length_append, List.length_take, List.length_drop]; omega
    · simp only [← h5, Nat.mul_one]
      rw [List.take_append, List.take_append, List.take_take, List.take_take, List.length_append, List.length_take, Nat.min_eq_left (show i ≤ cur.toList.length by omega), Nat.min_eq_right (show i ≤ n by omega), Nat.min_eq_left (show i ≤ n by omega),
        List.take_of_length_le (show ws.length ≤ n - i by omega), List.drop_take]
/-- A store of one cell of a row of one's own. -/
theorem ob_storeM1 [hK : KC K m0 L] {t e : TypeId} {x y : Operand} {i g n cap : Nat} {xs : List Value} {v : Value} (hx : ev us ch pre T x = some (.pointer (some ((⟨g, 0, none⟩ : Addr).add (i * 1))))) (hy : ev us ch pre T y = some v)
    (hv : v.cells = [v].toArray) (hz : ∀ w, (sizeOf t).run P w = .ok 1 w) (hi : i < n) (h1 : v.oneCell' = true) :
    ObT P K us ch pre T (fun _ => .mrow (.slice (some ⟨g, 0, none⟩) n cap) n 1 e xs) (fun _ => .mrow (.slice (some ⟨g, 0, none⟩) n cap) n 1 e (xs.take i ++ [v] ++ xs.drop (i + 1))) ⟨none, .store t x y, ty, pos, af, gd⟩ (.ex MP.any) := fun σ w m hk hr hkn => by
  obtain ⟨w', r1, ht⟩ := mrow_cells (P := P) (ws := [v]) (i := i) (hK.agree hk) hr (by simp; omega) (by omega) (by simpa using h1)
  have hrun : (execOp (evalO σ) ⟨none, .store t x y, ty, pos, af, gd⟩).run P w = .ok .skip w' := by
    simp only [execOp, hkn.ev hx, hkn.ev hy]
    rw [Sem.run_bind]
    have : (Instr.storeAt t (.pointer (some ((⟨g, 0, none⟩ : Addr).add (i * 1)))) v).run P w = .ok () w' := by
      rw [Nat.mul_one]; simp [Instr.storeAt, Instr.sureAddr, storeVar, hz, hv, r1]
    rw [this]; rfl
  unfold Does; rw [hrun]
  exact ⟨m, ht, _, rfl, trivial⟩
/-- x[l:h] of a row that goes on behind l. -/
theorem ob_sliceM [KC K m0 L] {t e : TypeId} {x : Operand} {lo hi : Option Operand} {g len cap l h : Nat} (hx : ev us ch pre T x = some (.slice (some ⟨g, 0, none⟩) len cap)) (hlo : Bnd us ch pre T lo 0 l) (hhi : Bnd us ch pre T hi len h)
    (ht : P.underlying t = some (.slice e)) (hz : ∀ w, (sizeOf e).run P w = .ok 1 w) (h1 : l ≤ h) (h2 : h ≤ cap) (h3 : l < cap) :
    Ob P K us ch pre T ⟨dst, .slice t x lo hi none, ty, pos, af, gd⟩ (.eq (.slice (some ((⟨g, 0, none⟩ : Addr).add l)) (h - l) (cap - l))) := by
  have := ob_slice (K := K) (ty := ty) (pos := pos) (af := af) (gd := gd) (dst := dst) hx hlo hhi ht hz h1 h2
  rw [if_neg (by omega), Nat.mul_one] at this; exact this
/-- 'clear' of a row's rest. -/
theorem ob_clearM [hK : KC K m0 L] {t e : TypeId} {x : Operand} {l g n cap c k : Nat} {xs : List Value} {z : Value} (hx : ev us ch pre T x = some (.slice (some ((⟨g, 0, none⟩ : Addr).add l)) k c)) (hkn : l + k = n) (h0 : 0 < k)
    (ht : P.underlying t = some (.slice e)) (hz : ∀ w, (zeroValue e).run P w = .ok z w) (hzc : z.cells = #[z]) (h1 : z.oneCell' = true) :
    ObT P K us ch pre T (fun _ => .mrow (.slice (some ⟨g, 0, none⟩) n cap) n 1 e xs) (fun _ => .mrow (.slice (some ⟨g, 0, none⟩) n cap) n 1 e (xs.take l ++ List.replicate k z ++ xs.drop (l + k)))
      ⟨none, .call { callee := .builtin .clear, args := #[x], argTypes := #[t] }, ty, pos, af, gd⟩ (.ex MP.any) := fun σ w m hk hr hkn' => by
  have hzl : (Builtin.zeroCells z.cells k).toList = List.replicate k z := by
    rw [hzc]
    simp [Builtin.zeroCells]
    apply List.ext_getElem
    · simp
    · intro i h1 h2
      simp [Nat.mod_one]
  obtain ⟨w', r1, htc⟩ := mrow_cells (P := P) (ws := List.replicate k z) (i := l) (hK.agree hk) hr (by simp; omega) (by omega) (fun v hv => by rw [List.eq_of_mem_replicate hv]; exact h1)
  have hrun : (execOp (evalO σ) ⟨none, .call { callee := .builtin .clear, args := #[x], argTypes := #[t] }, ty, pos, af, gd⟩).run P w = .ok (.value (.tuple #[])) w' := by
    simp only [execOp, resolve, List.map_toArray, List.map_cons, List.map_nil, hkn'.ev hx, Sem.run_bind, Sem.run_pure, Result.andThen_ok, invoke, builtin]
    obtain ⟨q, rfl⟩ : ∃ q, k = q + 1 := ⟨k - 1, by omega⟩
    simp [Builtin.clear_, run_underlying ht, hz, hzl, r1]
  unfold Does; rw [hrun]
  rw [List.length_replicate] at htc
  exact ⟨m, htc, _, rfl, trivial⟩
end
end Go.Proofs.YtlidonjpgigocaaGreat
