/-
  Rows of one's own that may still be written: make, copy into; freezing one. Conditions: those of each lemma; no program occurs here.
-/
import Derived.Test.YtfphefkfbhjfdaaAppend
import Derived.Laws.MakeOwn
import Derived.Laws.CopyRow
import Derived.Laws.IdiomCopy
namespace Go.Proofs.Ytfphefkfbhjfdaa
set_option linter.all false
open Go.RowKit
theorem mBlock_nodup (v : Value) : (mBlock v).Nodup := by
  unfold mBlock; split <;> simp
theorem mrow_nodup (v : Value) (n size : Nat) (e : TypeId) (xs : List Value) : (Res.mrow v n size e xs).blocks.Nodup := mBlock_nodup v
theorem Res.mrow_val {v : Value} {n size : Nat} {e : TypeId} {xs : List Value} {w : World} {m : Mem} (h : (Res.mrow v n size e xs).holds w m) : ∃ o cap, v = .slice o n cap ∧ n ≤ cap ∧ cap ≤ maxLen := by
  obtain ⟨_, o, cap, h1, h2, h3, _⟩ := h; exact ⟨o, cap, h1, h2, h3⟩
theorem mBlock_some {g n cap : Nat} (h : 0 < cap) : mBlock (.slice (some ⟨g, 0, none⟩) n cap) = [g] := by
  cases cap with
  | zero => omega
  | succ c => rfl
/-- Cells of a block that is nobody's else, changed. -/
theorem mrow_write {w w' : World} {m : Mem} {g n cap n' size : Nat} {e : TypeId} {xs ys : List Value} {cur cur' : Array Value} (ha : Agree w m) (h0 : 0 < cap) (hc : cap ≤ maxLen) (hh : w.heap[g]? = some (.cells cur e (0, 0))) (hm : ∀ off, m g off = none)
    (hn : n' ≤ cap) (hys : ys.length = n' * size) (hh' : w'.heap[g]? = some (.cells cur' e (0, 0))) (hs : cur'.size = cap * size) (ht : cur'.toList.take (n' * size) = ys)
    (hos : w'.os = w.os) (htp : w'.tape = w.tape) (hout : w'.output = w.output) (hsz : w.heap.size ≤ w'.heap.size) (hb : ∀ b, b < w.heap.size → b ≠ g → w'.heap[b]? = w.heap[b]?) :
    Touch (.mrow (.slice (some ⟨g, 0, none⟩) n cap) n size e xs) (.mrow (.slice (some ⟨g, 0, none⟩) n' cap) n' size e ys) w m w' m := by
  have hg : g < w.heap.size := lt_of_heap hh
  refine ⟨⟨hos, htp, hout, hsz, fun b hb1 hb2 => hb b hb1 (fun e => hb2 (by simp only [Res.blocks, mBlock_some h0, List.mem_singleton]; exact e)), ⟨fun b o u hu => ?_, fun b es he => ?_⟩, MLe.refl _, fun _ _ _ => ⟨rfl, rfl⟩⟩,
    ⟨hys, _, cap, rfl, hn, hc, .inr ⟨g, cur', rfl, hh', hs, ht, hm⟩⟩, mrow_nodup _ _ _ _ _, fun b hb' => .inl (by simp only [Res.blocks, mBlock_some h0] at hb' ⊢; exact hb')⟩
  · have hne : b ≠ g := fun e => by subst e; rw [hm o] at hu; cases hu
    have h1 := ha.cell b o u hu
    rw [World.cell?_of_block (hb b (lt_of_cell h1) hne)]; exact h1
  · have h1 := ha.map b es he
    have hne : b ≠ g := fun e => by subst e; rw [hh] at h1; cases h1
    exact (hb b (lt_of_heap h1) hne).trans h1
/-- It is written no more: its cells go into the snapshot. -/
theorem mrow_freeze {w : World} {m : Mem} {v : Value} {n size : Nat} {e : TypeId} {xs : List Value} (ha : Agree w m) (h : (Res.mrow v n size e xs).holds w m) :
    ∃ m', Touch (.mrow v n size e xs) (.row (nz v) n size e xs) w m w m' ∧ ∃ o cap, v = .slice o n cap ∧ n ≤ cap ∧ cap ≤ maxLen ∧ RowAt m' o xs := by
  obtain ⟨hl, o, cap, rfl, h1, h2, h3⟩ := h
  cases cap with
  | zero =>
    obtain rfl : n = 0 := by omega
    obtain rfl : xs = [] := List.eq_nil_of_length_eq_zero (by simpa using hl)
    exact ⟨m, ⟨ExtG.refl _ ha, ⟨by simp, .inl ⟨rfl, rfl⟩⟩, List.nodup_nil, fun g hg => by cases hg⟩, o, 0, rfl, h1, h2, .inl rfl⟩
  | succ c =>
    rcases h3 with h3 | ⟨g, cur, rfl, hh, h4, h5, h6⟩
    · cases h3
    · have hg : g < w.heap.size := lt_of_heap hh
      have hag : Agree w (m.add g xs.toArray) := ⟨fun b o u hu => by
        change (if b = g then xs.toArray[o]? else m b o) = some u at hu
        split at hu
        · rename_i hb; subst hb
          unfold World.cell?; simp only [hh]
          rw [← h5] at hu
          simp only [List.getElem?_toArray, List.getElem?_take] at hu
          split at hu
          · simpa using hu
          · cases hu
        · exact ha.cell b o u hu, ha.map⟩
      have hle : MLe m (m.add g xs.toArray) := ⟨fun b o u hu => by
        show (if b = g then xs.toArray[o]? else m b o) = some u
        split
        · rename_i hb; subst hb; rw [h6 o] at hu; cases hu
        · exact hu, fun _ _ h => h⟩
      refine ⟨m.add g xs.toArray, ⟨⟨rfl, rfl, rfl, Nat.le_refl _, fun _ _ _ => rfl, hag, hle, fun b _ hb => ⟨by funext o; show (if b = g then xs.toArray[o]? else m b o) = m b o; rw [if_neg (fun e => hb (by simp [Res.blocks, mBlock, e]))], rfl⟩⟩,
        ⟨hl, .inr ⟨g, c + 1, cur, rfl, hh, h1, h2, h4, h5, fun o u hu => by simp only [Mem.add, if_true, List.getElem?_toArray]; exact hu, fun off ho => by simp only [Mem.add, if_true, List.getElem?_toArray]; exact List.getElem?_eq_none (by omega)⟩⟩, row_nodup _ _ _ _ _, fun b hb => .inl (by simpa [Res.blocks, nz, rowBlock, mBlock] using hb)⟩,
        _, c + 1, rfl, h1, h2, .inr ⟨_, rfl, rfl, fun i u hu => by simp only [Mem.add, if_true, List.getElem?_toArray, Nat.zero_add]; exact hu⟩⟩
theorem St.freeze {G0 : List Nat} {W : World} {mE : Mem} {L : List Res} {w : World} {m : Mem} {k : Nat} {v : Value} {n size : Nat} {e : TypeId} {xs : List Value} (h : St G0 W mE L w m) (hk : L[k]? = some (.mrow v n size e xs)) :
    ∃ m', MLe m m' ∧ St G0 W mE (L.set k (.row (nz v) n size e xs)) w m' ∧ ∃ o cap, v = .slice o n cap ∧ n ≤ cap ∧ cap ≤ maxLen ∧ RowAt m' o xs := by
  obtain ⟨m', ht, h2⟩ := mrow_freeze h.agree (h.loc.at_ hk)
  exact ⟨m', ht.ext.le, h.touch hk ht, h2⟩
theorem St.row_eq {G0 : List Nat} {W : World} {mE : Mem} {L : List Res} {w : World} {m : Mem} {k : Nat} {v : Value} {n size : Nat} {e : TypeId} {xs : List Value} (h : St G0 W mE L w m) (hk : L[k]? = some (.row v n size e xs)) {n' : Nat} {xs' : List Value} (hn : n = n') (hx : xs = xs') : St G0 W mE (L.set k (.row v n' size e xs')) w m := by
  subst hn; subst hx
  have : L.set k (.row v n size e xs) = L := by
    apply List.ext_getElem?
    intro i
    rw [List.getElem?_set]
    split
    · rename_i hi; subst hi
      obtain ⟨hl, he⟩ := List.getElem?_eq_some_iff.1 hk
      rw [if_pos hl, hk]
    · rfl
  rw [this]; exact h
theorem Sl.lenL {α : Type} {R : Mem → List Value → α → Prop} {sz : Nat} {m : Mem} {o : Option Addr} {n cap : Nat} {xs : List α} (h : Sl R sz m o n cap xs) : Sl R sz m o xs.length cap xs := by have e := h.len; subst e; exact h
theorem Touch.trans {r r1 r2 : Res} {w w1 w2 : World} {m m1 m2 : Mem} (h : Touch r r1 w m w1 m1) (k : Touch r1 r2 w1 m1 w2 m2) : Touch r r2 w m w2 m2 :=
  ⟨h.ext.trans' k.ext h.where_, k.now, k.nodup, fun g hg => by
    rcases k.where_ g hg with h1 | h1
    · exact h.where_ g h1
    · exact .inr (Nat.le_trans h.ext.size h1)⟩
theorem strs_reads {m : Mem} (l : List Str) : Reads (fun _ vs (x : Str) => vs = [S x]) 1 m (l.map S) l := ⟨by simp, fun i x hx => by
  rw [Nat.mul_one, ← List.map_drop, ← List.map_take]
  have hi := (List.getElem?_eq_some_iff.1 hx).1
  rw [List.drop_eq_getElem_cons hi, (List.getElem?_eq_some_iff.1 hx).2]; rfl, strs_one l⟩
section
variable {P : Program} {K : World → Mem → Prop} {m0 : Mem} {L : List Res} {us : List Nat} {ch : List (Nat × Bool)} {pre : List Ent} {T : List (Nat × Value)}
variable {dst : Option Nat} {ty : TypeId} {pos : String} {af : Array Edge} {gd : Option (Nat × Bool)}
def MP.made (n cap : Nat) : MP := MP.mem (fun o : Option Addr => .slice o n cap) (fun _ _ => True) fun _ h => h
/-- A slice of n things, of whatever room. -/
def MP.made' (n : Nat) : MP := MP.mem (fun y : Option Addr × Nat => .slice y.1 n y.2) (fun y _ => n ≤ y.2) fun _ h => h
theorem mrow_new {w w' : World} {m : Mem} {e : TypeId} {size n cap : Nat} {xs : List Value} {cur : Array Value} (ha : Agree w m) (hlen : xs.length = n * size) (hnc : n ≤ cap) (hcm : cap ≤ maxLen) (hcs : cur.size = cap * size) (ht : cur.toList.take (n * size) = xs)
    (hb : Below w.heap.size w w') {g : Nat} (hg : w.heap.size ≤ g) (hh : w'.heap[g]? = some (.cells cur e (0, 0))) : Touch .free (.mrow (.slice (some ⟨g, 0, none⟩) n cap) n size e xs) w m w' m :=
  ⟨(ExtG.of_below ha hb).mono (by simp), ⟨hlen, _, cap, rfl, hnc, hcm, .inr ⟨g, cur, rfl, hh, hcs, ht, fun off => agree_none ha hg off⟩⟩, mrow_nodup _ _ _ _ _, fun b hb => by
    cases cap with
    | zero => cases hb
    | succ c => simp only [Res.blocks, mBlock, List.mem_singleton] at hb; subst hb; exact .inr hg⟩
theorem ob_makeSliceM [hK : KC K m0 L] {d : Nat} {t e : TypeId} {i : TypeInfo} {z : Value} {zs : List Value} {size bytes n : Nat} {x y : Operand} (hx : ev us ch pre T x = some (.int .i64 (n : Int))) (hy : ev us ch pre T y = some (.int .i64 (n : Int)))
    (ht : P.underlying t = some (.slice e)) (hi : P.info? e = some i) (hz : i.zero = some z) (hsize : i.size = size) (hby : i.bytes = bytes) (hzs : z.cells = zs.toArray) (hzl : zs.length = size) (h63 : n ≤ maxLen) (hbytes : bytes * n ≤ 140737488355328) :
    ObT P K us ch pre T (fun _ => .free) (fun v => .mrow v n size e ((List.range (n * size)).map fun i => zs.toArray[i % zs.toArray.size]!)) ⟨some d, .makeSlice t x y, ty, pos, af, gd⟩ (.ex (MP.made n n)) := fun σ w m hk _ hn => by
  subst hsize; subst hby
  have hb2 : (i.bytes : Int) * (n : Int) ≤ 281474976710656 := by
    have h : ((i.bytes * n : Nat) : Int) ≤ 281474976710656 := by omega
    rwa [Int.natCast_mul] at h
  have hr := run_make (P := P) w t e i z ht hi hz .i64 .i64 (n : Int) (n : Int) (by omega) (Int.le_refl _) hb2 (by simp only [maxLen] at h63; omega)
  simp only [Int.toNat_natCast] at hr
  have hrun : (execOp (evalO σ) ⟨some d, .makeSlice t x y, ty, pos, af, gd⟩).run P w = .ok (.value (.slice (some ⟨w.heap.size, 0, none⟩) n n)) (w.alloc (.cells (madeCells z.cells (n * i.size)) e)) := by
    simp only [execOp, hn.ev hx, hn.ev hy]
    rw [Sem.run_bind, hr]; rfl
  unfold Does; rw [hrun]
  have hcl : (madeCells z.cells (n * i.size)).toList = (List.range (n * i.size)).map fun i => zs.toArray[i % zs.toArray.size]! := by
    rw [hzs]; simp [madeCells]
  have ht2 := mrow_new (hK.agree hk) (e := e) (size := i.size) (n := n) (cap := n) (xs := (List.range (n * i.size)).map fun i => zs.toArray[i % zs.toArray.size]!) (cur := madeCells z.cells (n * i.size)) (by simp) (Nat.le_refl _) h63 (by simp [madeCells]) (by rw [hcl]; exact List.take_of_length_le (by simp))
    ((Below.refl w.heap.size w).alloc (Nat.le_refl _) (.cells (madeCells z.cells (n * i.size)) e)) (Nat.le_refl _) (heap_alloc_new w _)
  exact ⟨m, ht2, _, rfl, trivial⟩
/-- A literal that will be appended to. -/
theorem ob_buildSliceR [hK : KC K m0 L] {d : Nat} {t e : TypeId} {n sz : Nat} {xs : List (Nat × Operand)} {vs : List (Nat × Value)} {z : Value} {zero cs : List Value} (hxs : EvPs us ch pre T xs vs) (ht : P.underlying t = some (.slice e))
    (hsz : ∀ w, (sizeOf e).run P w = .ok sz w) (hz : ∀ w, (zeroValue e).run P w = .ok z w) (hzc : z.cells = zero.toArray) (hn : Nat.ble (n * sz) 16777216 = true) (h0 : Nat.beq (n * sz) 0 = false) (hl : Nat.beq cs.length (n * sz) = true)
    (hf : fillL (fun i => some (i * sz, sz)) ((List.range (n * sz)).map fun i => zero.toArray[i % zero.toArray.size]!) vs = some cs) :
    ObT P K us ch pre T (fun _ => .free) (fun v => .row (nz v) n sz e cs) ⟨some d, .buildSlice t n xs.toArray, ty, pos, af, gd⟩ (.ex (MP.row n cs)) := fun σ w m hk _ hn' => by
  have hxe : (xs.toArray.map fun (i, x) => (i, evalO σ x)) = vs.toArray := by rw [← hxs.map hn']; simp
  have hff := fill_eq vs _ cs hf
  have hle := Nat.le_of_ble_eq_true hn
  rw [Nat.beq_eq] at hl
  have h0' : ¬ n * sz = 0 := fun e => by rw [e] at h0; cases h0
  have hn0 : 0 < n := by rcases Nat.eq_zero_or_pos n with h | h; (subst h; simp at h0'); exact h
  have hs0 : 0 < sz := by rcases Nat.eq_zero_or_pos sz with h | h; (subst h; simp at h0'); exact h
  have hrun : (execOp (evalO σ) ⟨some d, .buildSlice t n xs.toArray, ty, pos, af, gd⟩).run P w = .ok (.value (.slice (some ⟨w.heap.size, 0, none⟩) n n)) (w.alloc (.cells cs.toArray e)) := by
    have hr : (Array.range (n * sz)).map (fun i => zero.toArray[i % zero.toArray.size]!) = ((List.range (n * sz)).map fun i => zero.toArray[i % zero.toArray.size]!).toArray := by simp [← Array.toList_inj]
    have : (Instr.buildSlice t n vs.toArray).run P w = .ok (.slice (some ⟨w.heap.size, 0, none⟩) n n) (w.alloc (.cells cs.toArray e)) := by
      unfold Instr.buildSlice
      simp only [Sem.run_bind, run_underlying ht, Result.andThen_ok, hsz]
      rw [if_neg (by omega), if_neg h0']
      simp only [Sem.run_bind, hz, Result.andThen_ok, Sem.run_pure, hzc]
      rw [hr]
      simp only [hff]
      rfl
    simp only [execOp, hxe]
    rw [Sem.run_bind, this]; rfl
  have hnm : n ≤ maxLen := by
    have : n * 1 ≤ n * sz := Nat.mul_le_mul_left _ hs0
    simp only [maxLen]; omega
  unfold Does; rw [hrun]
  refine ⟨_, touch_nz (Nat.le_refl n) (row_new hl (Nat.le_refl n) hnm (by simp [hl]) (by rw [← hl]; simp) (hK.agree hk)), _, rfl, cellsAt_add cs⟩
/-- 'copy' of as many things, of one cell each, as there is room. -/
theorem ob_copyM [hK : KC K m0 L] {d : Nat} {t t2 e : TypeId} {i : TypeInfo} {n cap c2 : Nat} {o A : Option Addr} {olds news : List Value} {x y : Operand} (hx : ev us ch pre T x = some (.slice o n cap)) (hy : ev us ch pre T y = some (.slice A n c2))
    (ht : P.underlying t = some (.slice e)) (hi : P.info? e = some i) (hsize : i.size = 1) (hr' : ∀ w m, K w m → RowAt m A news) (hl : news.length = n) (h1 : news.all (·.oneCell') = true) :
    ObT P K us ch pre T (fun _ => .mrow (.slice o n cap) n 1 e olds) (fun _ => .mrow (.slice o n cap) n 1 e news) ⟨some d, .call { callee := .builtin .copy, args := #[x, y], argTypes := #[t, t2] }, ty, pos, af, gd⟩ (.eq (.int .i64 (n : Int))) := fun σ w m hk hr hn => by
  obtain ⟨holds, o', cap', e1, hnc, hcm, hr⟩ := hr
  injection e1 with e1 e2 e3; subst e1; subst e3
  have hsz : (P.info? e).map (·.size) = some 1 := by rw [hi]; simp [hsize]
  have fin : ∀ w', (Builtin.copy_ #[t, t2] ty #[.slice o n cap, .slice A n c2]).run P w = .ok (goInt n) w' → (execOp (evalO σ) ⟨some d, .call { callee := .builtin .copy, args := #[x, y], argTypes := #[t, t2] }, ty, pos, af, gd⟩).run P w = .ok (.value (.int .i64 (n : Int))) w' := fun w' h => by
    simp only [execOp, resolve, List.map_toArray, List.map_cons, List.map_nil, hn.ev hx, hn.ev hy, Sem.run_bind, Sem.run_pure, Result.andThen_ok, invoke, builtin]
    rw [h]; rfl
  by_cases h0 : n = 0
  · subst h0
    obtain rfl : news = [] := List.eq_nil_of_length_eq_zero hl
    have hrun := run_copy_none (P := P) w t t2 ty e o A 0 cap 0 c2 ht hsz rfl
    unfold Does; rw [fin w hrun]
    refine ⟨m, ⟨ExtG.refl _ (hK.agree hk), ⟨by simp, o, cap, rfl, hnc, hcm, ?_⟩, mrow_nodup _ _ _ _ _, fun g hg => .inl hg⟩, rfl⟩
    rcases hr with h | ⟨g, cur, h1, h2, h3, h4, h5⟩
    · exact .inl h
    · exact .inr ⟨g, cur, h1, h2, h3, by simp, h5⟩
  · rcases hr with h | ⟨g, cur, rfl, hh, h3, h4, h5⟩
    · omega
    · obtain ⟨ad, rfl, hcell⟩ : ∃ p, A = some p ∧ CellsAt m p news := by
        rcases hr' w m hk with h | h
        · rw [h] at hl; simp at hl; omega
        · exact h
      have hsrc : ∀ j u, news[j]? = some u → w.cell? (ad.add j) = some u := fun j u e => cell_of_cells (hK.agree hk) hcell e
      have hrun := run_copy_row (P := P) w t t2 ty e g 0 n cap ad n c2 cur e news ht hsz hh (by rw [hl]; exact (Nat.min_self n).symm) hsrc (by rw [hl, h3]; omega) (fun u hu => List.all_eq_true.1 h1 u hu)
      rw [hl] at hrun
      unfold Does; rw [fin _ hrun]
      refine ⟨m, mrow_write (hK.agree hk) (by omega) hcm hh h5 hnc (by rw [hl]; simp) (setRow_heap w g cur _ e (0, 0) hh) ?_ ?_ rfl rfl rfl (by simp [World.setRow]) (fun b _ hb => setRow_other w g b _ hb), rfl⟩
      · simp only [List.size_toArray, List.length_append, List.length_take, List.length_drop, Array.length_toList, hl]; omega
      · simp only [List.take_zero, List.nil_append, Nat.zero_add, Nat.mul_one]
        rw [List.take_append_of_le_length (by omega), List.take_of_length_le (by omega)]
def MP.anyB : MP := MP.mem (fun b : Bool => .bool b) (fun _ _ => True) fun _ h => h
def MP.anyI : MP := MP.mem (fun n : Int => .int .i64 n) (fun _ _ => True) fun _ h => h
def MP.anyIB : MP := MP.mem (fun y : Int × Bool => .tuple #[.int .i64 y.1, .bool y.2]) (fun _ _ => True) fun _ h => h
/-- 'a || b', 'a && b': of b, looked at under a alone, no one knows more than that it is a bool. -/
theorem ob_orX [hK : KC K m0 L] {sc ta : Nat} {x : Bool} {φ : MP} (hφ : ∀ y, ∃ b, φ.f y = .bool b) (hc : evT us ch pre T sc = some (.bool x)) (hu : has us ta = true) (ha : find pre ta = some (some (sc, false), .val (.ex φ))) :
    Ob P K us ch pre T ⟨dst, .pick (.tmp sc) (.const (.bool true)) (.tmp ta), ty, pos, af, gd⟩ (.ex MP.anyB) := fun σ w m hk hn => by
  have h1 := hn.evT hc
  cases x with
  | true =>
    have hr : (execOp (evalO σ) ⟨dst, .pick (.tmp sc) (.const (.bool true)) (.tmp ta), ty, pos, af, gd⟩).run P w = .ok (.value (.bool true)) w := by simp [execOp, evalO, h1, asBool]
    unfold Does; rw [hr]; exact ⟨m, ExtG.refl _ (hK.agree hk), true, rfl, trivial⟩
  | false =>
    obtain ⟨y, e, _⟩ : φ.p m (σ ta) := hn.ent ta _ _ (has_mem hu) ha (fun gd e => by injection e with e; subst e; exact h1)
    obtain ⟨b, eb⟩ := hφ y
    have hr : (execOp (evalO σ) ⟨dst, .pick (.tmp sc) (.const (.bool true)) (.tmp ta), ty, pos, af, gd⟩).run P w = .ok (.value (.bool b)) w := by simp [execOp, evalO, h1, e, eb, asBool]
    unfold Does; rw [hr]; exact ⟨m, ExtG.refl _ (hK.agree hk), b, rfl, trivial⟩
theorem ob_andX [hK : KC K m0 L] {sc ta : Nat} {x : Bool} {φ : MP} (hφ : ∀ y, ∃ b, φ.f y = .bool b) (hc : evT us ch pre T sc = some (.bool x)) (hu : has us ta = true) (ha : find pre ta = some (some (sc, true), .val (.ex φ))) :
    Ob P K us ch pre T ⟨dst, .pick (.tmp sc) (.tmp ta) (.const (.bool false)), ty, pos, af, gd⟩ (.ex MP.anyB) := fun σ w m hk hn => by
  have h1 := hn.evT hc
  cases x with
  | false =>
    have hr : (execOp (evalO σ) ⟨dst, .pick (.tmp sc) (.tmp ta) (.const (.bool false)), ty, pos, af, gd⟩).run P w = .ok (.value (.bool false)) w := by simp [execOp, evalO, h1, asBool]
    unfold Does; rw [hr]; exact ⟨m, ExtG.refl _ (hK.agree hk), false, rfl, trivial⟩
  | true =>
    obtain ⟨y, e, _⟩ : φ.p m (σ ta) := hn.ent ta _ _ (has_mem hu) ha (fun gd e => by injection e with e; subst e; exact h1)
    obtain ⟨b, eb⟩ := hφ y
    have hr : (execOp (evalO σ) ⟨dst, .pick (.tmp sc) (.tmp ta) (.const (.bool false)), ty, pos, af, gd⟩).run P w = .ok (.value (.bool b)) w := by simp [execOp, evalO, h1, e, eb, asBool]
    unfold Does; rw [hr]; exact ⟨m, ExtG.refl _ (hK.agree hk), b, rfl, trivial⟩
/-- A call that changes a resource which is known by an operand's value. -/
theorem ob_callTV [KC K m0 L] {f x : Operand} {fid : FuncId} {cap : List Value} {xs : List Operand} {vs : List Value} {ats : Array TypeId} {κ : Kn} {v : Value} {r : (Nat → Value) → Res} {r' : Value → Res} (R : Value → Res) (hx : ev us ch pre T x = some v) (hr : ∀ σ, r σ = R (evalO σ x))
    (hf : ev us ch pre T f = some (.func (.func fid) #[] cap.toArray)) (hxs : Evs us ch pre T xs vs) (hc : ∀ args w, (callFunc fid args).run P w = .ok (.enter fid args) w)
    (h : ∀ w m, K w m → (R v).holds w m → Calls P fid (vs ++ cap).toArray w fun e w' => ∃ u m', e = .returned u ∧ Touch (R v) (r' (keepV dst u)) w m w' m' ∧ κ.holds m' u) :
    ObT P K us ch pre T r r' ⟨dst, .call { callee := .value f, args := xs.toArray, argTypes := ats }, ty, pos, af, gd⟩ κ :=
  ob_callT hf hxs hc fun σ w m hk hrr hn => by
    have e := hr σ; rw [hn.ev hx] at e
    rw [e] at hrr ⊢
    exact h w m hk hrr
end
end Go.Proofs.Ytfphefkfbhjfdaa
