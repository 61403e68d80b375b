/-
  Texts that the law rests on: Rowx, Range, Mapx, Mapt, Mapw, Cparts. Conditions: those of each theorem.
-/
import Derived.Test.YtnppknioifgdfaaSqA
import Derived.Lib.SliceRun
import Derived.Test.YtnppknioifgdfaaRows
namespace Go.Proofs.Ytnppknioifgdfaa
set_option linter.all false
open Go.RowKit
def MP.reads {α : Type} (R : Mem → List Value → α → Prop) [RepR R] (sz : Nat) (l : List α) : MP := MP.mem (fun xs : List Value => .agg xs.toArray) (fun xs m => Reads R sz m xs l) fun hm h => h.mono hm
theorem MP.reads_p {α : Type} {R : Mem → List Value → α → Prop} [RepR R] {sz : Nat} {l : List α} {m : Mem} {xs : List Value} : (MP.reads R sz l).p m (.agg xs.toArray) ↔ Reads R sz m xs l := by
 constructor
 ·rintro ⟨y, e, h⟩
  change Value.agg xs.toArray = Value.agg (List.toArray y) at e
  injection e with e2
  have : xs = y := congrArg Array.toList e2
  subst this; exact h
 ·exact fun h => ⟨xs, rfl, h⟩
def MP.slx {α : Type} (R : Mem → List Value → α → Prop) [hR : RepR R] (sz : Nat) (l : List α) : MP := MP.mem (fun y : Option Addr × Nat => .slice y.1 l.length y.2) (fun y m => Sl R sz m y.1 l.length y.2 l) fun hm h => Sl.mono h (fun _ _ e => hR.mono hm e) hm
def splice (p : Nat) (ws xs : List Value) : List Value := xs.take p ++ ws ++ xs.drop (p + ws.length)
theorem zCs {p : Nat} {ws xs : List Value} (h : p + ws.length ≤ xs.length) : (splice p ws xs).length = xs.length := by simp [splice]; omega
theorem zAo {p : Nat} {ws xs : List Value} (h : p + ws.length ≤ xs.length) (q : Nat) : (splice p ws xs)[q]? = if p ≤ q ∧ q < p + ws.length then ws[q - p]? else xs[q]? := by
 unfold splice
 rw [List.append_assoc, List.getElem?_append]
 have hl : (xs.take p).length = p := by rw [List.length_take]; omega
 rw [hl]
 by_cases h1 : q < p
 ·rw [if_pos h1, if_neg (by omega), List.getElem?_take, if_pos h1]
 ·rw [if_neg h1, List.getElem?_append]
  by_cases h2 : q < p + ws.length
  ·rw [if_pos (by omega), if_pos ⟨by omega, h2⟩]
  ·rw [if_neg (by omega), if_neg (by omega), List.getElem?_drop]; congr 1; omega
section
variable {α : Type} {R : Mem → List Value → α → Prop} [hR : RepR R] {sz : Nat} {m : Mem} {l : List α} {xs : List Value}
theorem Reads.splice {i off : Nat} {ws : List Value} {a b : α} (h : Reads R sz m xs l) (hi : l[i]? = some a) (ho : off + ws.length ≤ sz) (hb : R m (splice off ws ((xs.drop (i * sz)).take sz)) b) (h1 : ws.all (·.oneCell') = true) : Reads R sz m (splice (i * sz + off) ws xs) (l.set i b) := by
 have hil : i < l.length := (List.getElem?_eq_some_iff.1 hi).1
 have h2 : (i + 1) * sz ≤ l.length * sz := Nat.mul_le_mul_right _ hil
 rw [Nat.succ_mul] at h2
 have hlen := h.len
 have hfit : i * sz + off + ws.length ≤ xs.length := by omega
 refine ⟨by rw [zCs hfit, hlen, List.length_set], fun j x hx => ?_, ?_⟩
 ·rw [List.getElem?_set] at hx
  by_cases hj : i = j
  ·subst hj
   rw [if_pos rfl, if_pos hil] at hx
   injection hx with hx; subst hx
   have e : ((Go.Proofs.Ytnppknioifgdfaa.splice (i * sz + off) ws xs).drop (i * sz)).take sz = Go.Proofs.Ytnppknioifgdfaa.splice off ws ((xs.drop (i * sz)).take sz) := by
    apply List.ext_getElem?
    intro q
    rw [List.getElem?_take, List.getElem?_drop, zAo hfit, zAo (by rw [List.length_take, List.length_drop]; omega), List.getElem?_take, List.getElem?_drop]
    by_cases hq : q < sz
    ·rw [if_pos hq, if_pos hq]
     by_cases hw : off ≤ q ∧ q < off + ws.length
     ·rw [if_pos hw, if_pos ⟨by omega, by omega⟩]; congr 1; omega
     ·rw [if_neg hw, if_neg (by omega)]
    ·rw [if_neg hq, if_neg hq, if_neg (by omega)]
   rw [e]; exact hb
  ·rw [if_neg hj] at hx
   have hjl : j < l.length := (List.getElem?_eq_some_iff.1 hx).1
   have e : ((Go.Proofs.Ytnppknioifgdfaa.splice (i * sz + off) ws xs).drop (j * sz)).take sz = (xs.drop (j * sz)).take sz := by
    apply List.ext_getElem?
    intro q
    rw [List.getElem?_take, List.getElem?_drop, zAo hfit, List.getElem?_take, List.getElem?_drop]
    by_cases hq : q < sz
    ·rw [if_pos hq, if_pos hq, if_neg]
     intro ⟨h3, h4⟩
     rcases Nat.lt_or_gt_of_ne hj with hlt | hgt
     ·have : (i + 1) * sz ≤ j * sz := Nat.mul_le_mul_right _ hlt
      rw [Nat.succ_mul] at this; omega
     ·have : (j + 1) * sz ≤ i * sz := Nat.mul_le_mul_right _ hgt
      rw [Nat.succ_mul] at this; omega
    ·rw [if_neg hq, if_neg hq]
   rw [e]; exact h.at_ j x hx
 ·unfold Go.Proofs.Ytnppknioifgdfaa.splice
  have ho1 := h.one
  rw [List.all_eq_true] at ho1 h1 ⊢
  intro v hv
  rw [List.mem_append, List.mem_append] at hv
  rcases hv with (hv | hv) | hv
  ·exact ho1 v (List.mem_of_mem_take hv)
  ·exact h1 v hv
  ·exact ho1 v (List.mem_of_mem_drop hv)
theorem Reads.nth {i : Nat} {a : α} (h : Reads R sz m xs l) (hi : l[i]? = some a) : ((xs.drop (i * sz)).take sz).length = sz ∧ R m ((xs.drop (i * sz)).take sz) a := by
 have hil : i < l.length := (List.getElem?_eq_some_iff.1 hi).1
 have h2 : (i + 1) * sz ≤ l.length * sz := Nat.mul_le_mul_right _ hil
 rw [Nat.succ_mul] at h2
 refine ⟨by rw [List.length_take, List.length_drop, h.len]; omega, h.at_ i a hi⟩
theorem zEK {w : World} {e : TypeId} : (Res.rowx (.slice none 0 0) 0 sz e (MP.reads R sz [])).holds w m := ⟨[], ⟨by simp, .inl ⟨rfl, rfl⟩⟩, MP.reads_p.2 Reads.nil⟩
end
theorem Res.mrowx_val {v : Value} {n size : Nat} {e : TypeId} {ψ : MP} {w : World} {m : Mem} (h : (Res.mrowx v n size e ψ).holds w m) : ∃ o cap, v = .slice o n cap ∧ n ≤ cap ∧ cap ≤ maxLen ∧ (0 < n → ∃ g, o = some ⟨g, 0, none⟩) := by
 obtain ⟨xs, ⟨_, o, cap, h1, h2, h3, h4⟩, _⟩ := h
 refine ⟨o, cap, h1, h2, h3, fun hn => ?_⟩
 rcases h4 with h4 | ⟨g, _, h4, _⟩
 ·omega
 ·exact ⟨g, h4⟩
theorem St.freezeX {α : Type} {R : Mem → List Value → α → Prop} [hR : RepR R] {G0 : List Nat} {W : World} {mE : Mem} {L : List Res} {w : World} {m : Mem} {k : Nat} {v : Value} {n size : Nat} {e : TypeId} {l : List α} (h : St G0 W mE L w m) (hk : L[k]? = some (.mrowx v n size e (MP.reads R size l))) (hl : l.length = n) (hsz : 0 < size) (hb : n ≤ 9223372036854775807) :
  ∃ m', MLe m m' ∧ St G0 W mE (L.set k (.rowx (nz v) n size e (MP.reads R size l))) w m' ∧ ∃ o cap, v = .slice o n cap ∧ Sl R size m' o n cap l := by
 obtain ⟨xs, hr, hp⟩ := h.loc.at_ hk
 obtain ⟨m', ht, o, cap, hv, h1, h2, h3⟩ := mrow_freeze (v := v) (n := n) (size := size) (e := e) (xs := xs) h.agree hr
 have hp' := (MP.reads R size l).mono ht.ext.le hp
 have ht2 : ZR (.mrowx v n size e (MP.reads R size l)) (.rowx (nz v) n size e (MP.reads R size l)) w m w m' := ⟨ht.ext, ⟨xs, ht.now, hp'⟩, ht.nodup, ht.where_⟩
 exact ⟨m', ht.ext.le, h.touch hk ht2, o, cap, hv, (MP.reads_p.1 hp').sl h3 hsz hl h1 hb⟩
section
variable {P : Program} {K : World → Mem → Prop} {m0 : Mem} {L : List Res} {us : List Nat} {ch : List (Nat × Bool)} {pre : List Ent} {T : List (Nat × Value)}
variable {dst : Option Nat} {ty : TypeId} {pos : String} {af : Array Edge} {gd : Option (Nat × Bool)}
variable {α : Type} {R : Mem → List Value → α → Prop} [hR : RepR R]
theorem zCm [hK : KC K m0 L] {d : Nat} {t e : TypeId} {i : TypeInfo} {z : Value} {size bytes n k c c0 : Nat} {o A : Option Addr} {l l' : List α} {x y : Operand} {r : (Nat → Value) → Res} (hv : ev us ch pre T x = some (.slice o n c0)) (hy : ev us ch pre T y = some (.slice A k c))
  (hrr : ∀ σ, r σ = .rowx (nz (zy σ x)) n size e (MP.reads R size l) ∨ r σ = .rowx (nz (.slice o n c0)) n size e (MP.reads R size l) ∨ (r σ = .free ∧ c0 = 0 ∧ n = 0 ∧ l = []))
  (ht : P.underlying t = some (.slice e)) (hi : P.info? e = some i) (hz : i.zero = some z) (hsize : i.size = size) (hby : i.bytes = bytes) (hzs : z.cells.size = size)
  (hx : ∀ w m, K w m → Sl R size m A k c l') (hn0 : l.length = n) (hsz : 0 < size) (h63 : n + k ≤ maxLen) (hbytes : (n + k) * bytes ≤ 140737488355328) :
  ObT P K us ch pre T r (fun v' => .rowx (nz v') (l ++ l').length size e (MP.reads R size (l ++ l'))) ⟨some d, .call { callee := .builtin .append, args := #[x, y], argTypes := #[t, t] }, ty, pos, af, gd⟩ (.ex (MP.slx R size (l ++ l'))) := fun σ w m hk hr hn => by
 have hsl := hx w m hk
 obtain ⟨news, hra, hrd, hnl⟩ := hsl.reads
 have hkl : l'.length = k := hsl.len
 have hle : (l ++ l').length = n + k := by rw [List.length_append, hn0, hkl]
 obtain ⟨olds, hro, hrp, hbl⟩ : ∃ olds, (Res.row (nz (.slice o n c0)) n size e olds).holds w m ∧ Reads R size m olds l ∧ ∀ g ∈ (Res.row (nz (.slice o n c0)) n size e olds).blocks, g ∈ (r σ).blocks := by
  rcases hrr σ with h | h | ⟨h, rfl, rfl, rfl⟩
  ·rw [h, hn.ev hv] at hr
   obtain ⟨olds, h1, h2⟩ := hr
   exact ⟨olds, h1, MP.reads_p.1 h2, by rw [h, hn.ev hv]; exact fun g hg => hg⟩
  ·rw [h] at hr
   obtain ⟨olds, h1, h2⟩ := hr
   exact ⟨olds, h1, MP.reads_p.1 h2, by rw [h]; exact fun g hg => hg⟩
  ·exact ⟨[], ⟨by simp, .inl ⟨rfl, rfl⟩⟩, Reads.nil, fun g hg => by cases hg⟩
 obtain ⟨o', cap, w', m', hrun, ht', hro', hle'⟩ := zCa (P := P) (ty := ty) (c := c) ht hi hz hsize hby hzs (hK.agree hk) hro hra hnl hsz (fun u hu => List.all_eq_true.1 hrd.one u hu) h63 hbytes
 have hr2 : (execOp (zy σ) ⟨some d, .call { callee := .builtin .append, args := #[x, y], argTypes := #[t, t] }, ty, pos, af, gd⟩).run P w = .ok (.value (.slice o' (n + k) cap)) w' := by
  simp only [execOp, resolve, List.map_toArray, List.map_cons, List.map_nil, hn.ev hv, hn.ev hy, Sem.run_bind, Sem.run_pure, Result.andThen_ok, invoke, builtin]
  rw [hrun]; rfl
 have hrd' : Reads R size m' (olds ++ news) (l ++ l') := (hrp.app hrd).mono ht'.ext.le
 unfold Does; rw [hr2]
 rw [hle]
 have ht2 : ZR (r σ) (.rowx (nz (.slice o' (n + k) cap)) (n + k) size e (MP.reads R size (l ++ l'))) w m w' m' :=
  Zv (r := .row (nz (.slice o n c0)) n size e olds) ⟨ht'.ext, ⟨olds ++ news, ht'.now, MP.reads_p.2 hrd'⟩, ht'.nodup, ht'.where_⟩ hbl
 refine ⟨m', ht2, (o', cap), by show _ = Value.slice o' (l ++ l').length cap; rw [hle], ?_⟩
 show Sl R size m' o' (l ++ l').length cap (l ++ l')
 have hb : n + k ≤ 9223372036854775807 := by simp only [maxLen] at h63; omega
 rw [hle]
 exact hrd'.sl hro' hsz hle hle' hb
theorem zEO (w : World) (o : Obj) : Below w.heap.size w (w.drew.alloc o) :=
 have h := (Below.refl w.drew.heap.size w.drew).alloc (Nat.le_refl _) o
 ⟨h.os, h.tape, h.output, h.size, fun b hb => h.block b hb⟩
theorem zDr [hK : KC K m0 L] {d : Nat} {t e : TypeId} {i : TypeInfo} {z : Value} {size bytes k c : Nat} {o A : Option Addr} {l : List α} {x y : Operand} (hv : ev us ch pre T x = some (.slice o 0 0)) (hy : ev us ch pre T y = some (.slice A k c))
  (ht : P.underlying t = some (.slice e)) (hi : P.info? e = some i) (hz : i.zero = some z) (hsize : i.size = size) (hby : i.bytes = bytes) (hzs : z.cells.size = size)
  (hx : ∀ w m, K w m → Sl R size m A k c l) (hsz : 0 < size) (h63 : k ≤ maxLen) (hbytes : k * bytes ≤ 140737488355328) :
  ObT P K us ch pre T (fun _ => .free) (fun v' => .mrowx v' k size e (MP.reads R size l)) ⟨some d, .call { callee := .builtin .append, args := #[x, y], argTypes := #[t, t] }, ty, pos, af, gd⟩ (.ex (MP.made' k)) := fun σ w m hk hr hn => by
 have hsl := hx w m hk
 obtain ⟨news, hra, hrd, hnl⟩ := hsl.reads
 have hkl : l.length = k := hsl.len
 have ha := hK.agree hk
 have fin : ∀ v w', (Builtin.append_ #[t, t] ty #[.slice o 0 0, .slice A k c]).run P w = .ok v w' → (execOp (zy σ) ⟨some d, .call { callee := .builtin .append, args := #[x, y], argTypes := #[t, t] }, ty, pos, af, gd⟩).run P w = .ok (.value v) w' := fun v w' h => by
  simp only [execOp, resolve, List.map_toArray, List.map_cons, List.map_nil, hn.ev hv, hn.ev hy, Sem.run_bind, Sem.run_pure, Result.andThen_ok, invoke, builtin]
  rw [h]; rfl
 by_cases hk0 : k = 0
 ·subst hk0
  obtain rfl : news = [] := List.eq_nil_of_length_eq_zero (by simpa using hnl)
  have hrun : (Builtin.append_ #[t, t] ty #[.slice o 0 0, .slice A 0 c]).run P w = .ok (.slice o 0 0) w := by
   cases o <;> cases A <;> simp [Builtin.append_, run_underlying ht, sizeOf, typeInfo, hi, Builtin.lenOf, Builtin.firstCells, loadCells, loadCellsFrom, storeCells]
  unfold Does; rw [fin _ _ hrun]
  exact ⟨m, ⟨ExtG.refl _ ha, ⟨[], ⟨by simp, o, 0, rfl, Nat.le_refl _, Nat.zero_le _, .inl rfl⟩, MP.reads_p.2 hrd⟩, List.nodup_nil, fun g hg => by cases hg⟩, (o, 0), rfl, Nat.le_refl _⟩
 ·subst hsize; subst hby
  have hne : news ≠ [] := fun hh => by
   rw [hh, List.length_nil] at hnl
   have := Nat.mul_pos (Nat.pos_of_ne_zero hk0) hsz; omega
  obtain ⟨ad, rfl, hcell⟩ : ∃ p, A = some p ∧ CellsAt m p news := by
   rcases hra with h | h
   ·exact absurd h hne
   ·exact h
  have hnews : ∀ j u, news[j]? = some u → w.cell? (ad.add j) = some u := fun j u e => ZM ha hcell e
  obtain ⟨cap, w', hrun, g, hg, hge, hcm, hb, hh⟩ : ∃ cap w', (Builtin.append_ #[t, t] ty #[.slice o 0 0, .slice (some ad) k c]).run P w = .ok (.slice (some ⟨w.heap.size, 0, none⟩) k cap) w' ∧ ∃ g, g = w.heap.size ∧ k ≤ cap ∧ cap ≤ maxLen ∧ Below w.heap.size w w' ∧ w'.heap[g]? = some (.cells (news.toArray ++ Builtin.zeroCells z.cells (cap - k)) e (0, 0)) := by
   cases o with
   | none =>
    have hrun := run_append_nil (P := P) w t ty e i z ht hi hz ad k c news hnl hnews (by omega) (by simp only [maxLen] at h63; omega) (by omega)
    exact ⟨_, _, hrun, _, rfl, grownCap_ge w k 0 e, grownCap_le_maxLen w k 0 e h63, zEO w _, heap_alloc_new w.drew _⟩
   | some b =>
    have hrun := run_append_grow (P := P) w t ty e i z ht hi hz b 0 0 [] (by simp) (fun j u h => by simp at h) ad k c news hnl hnews (by omega) (by simp only [maxLen] at h63; omega) (growslice_fits (by omega) (by rw [Nat.zero_add]; exact hbytes))
    simp only [Nat.zero_add, Array.empty_append] at hrun
    exact ⟨_, _, hrun, _, rfl, grownCap_ge w k 0 e, grownCap_le_maxLen w k 0 e h63, zEO w _, heap_alloc_new w.drew _⟩
  unfold Does; rw [fin _ _ hrun]
  subst hg
  have ht2 := mrow_new (size := i.size) (xs := news) ha hnl hge hcm (by simp only [Array.size_append, List.size_toArray, size_zeroCells, hzs, hnl, ← Nat.add_mul]; congr 1; omega) (by simp only [Array.toList_append, ← hnl]; exact List.take_left) hb (Nat.le_refl _) hh
  exact ⟨m, ⟨ht2.ext, ⟨news, ht2.now, MP.reads_p.2 hrd⟩, ht2.nodup, ht2.where_⟩, (_, cap), rfl, hge⟩
theorem ob_loadMX [hK : KC K m0 L] {t e : TypeId} {x : Operand} {i j g n cap size : Nat} {l : List α} {a : α} (hx : ev us ch pre T x = some (.pointer (some ((⟨g, 0, none⟩ : Addr).add (i * size)))))
  (hL : L[j]? = some (.mrowx (.slice (some ⟨g, 0, none⟩) n cap) n size e (MP.reads R size l))) (ha : ∀ w, (isAgg t).run P w = .ok true w) (hz : ∀ w, (sizeOf t).run P w = .ok size w) (hi : l[i]? = some a) (hsz : 0 < size) :
  Ob P K us ch pre T ⟨dst, .load t x, ty, pos, af, gd⟩ (.ex (MP.mem (fun vs : List Value => .agg vs.toArray) (fun vs m => R m vs a) fun hm h => hR.mono hm h)) := fun σ w m hk hn => by
 obtain ⟨xs, ⟨hlen, o, cap', e1, h1, h2, h3⟩, hp⟩ := hK.at_ hk hL
 injection e1 with e1 e2 e3; subst e1; subst e3
 rw [MP.reads_p] at hp
 have hil : i < l.length := (List.getElem?_eq_some_iff.1 hi).1
 have hln := hp.len
 have hmul : (i + 1) * size ≤ l.length * size := Nat.mul_le_mul_right _ hil
 rw [Nat.succ_mul] at hmul
 rcases h3 with h3 | ⟨g', cur, e4, hh, h4, h5, h6⟩
 ·subst h3
  obtain rfl : n = 0 := by omega
  rw [hln] at hlen; omega
 ·injection e4 with e4; injection e4 with e4; subst e4
  obtain ⟨q1, q2⟩ := hp.nth hi
  have hl := Z4 (P := P) (w := w) (a := (⟨g, 0, none⟩ : Addr).add (i * size)) (vs := (xs.drop (i * size)).take size) fun k v ek => by
   rw [zAs]
   rw [List.getElem?_take, List.getElem?_drop] at ek
   split at ek
   ·rename_i hk'
    rw [← h5, List.getElem?_take] at ek
    split at ek
    ·have e5 : (⟨g, 0, none⟩ : Addr).add (i * size + k) = ⟨g, i * size + k, none⟩ := by unfold Addr.add; split <;> simp_all
     rw [e5]; unfold World.cell?; simp only [hh]; simpa using ek
    ·cases ek
   ·cases ek
  rw [q1] at hl
  have hrun : (execOp (zy σ) ⟨dst, .load t x, ty, pos, af, gd⟩).run P w = .ok (.value (.agg ((xs.drop (i * size)).take size).toArray)) w := by
   simp [execOp, hn.ev hx, Instr.loadAt, Instr.sureAddr, loadVar, ha, hz, hl]
  unfold Does; rw [hrun]
  exact ⟨m, ExtG.refl _ (hK.agree hk), _, rfl, q2⟩
theorem zBe [hK : KC K m0 L] {t e : TypeId} {x y : Operand} {i off g n cap size : Nat} {l : List α} {a b : α} {v : Value} {ws : List Value} (hx : ev us ch pre T x = some (.pointer (some ((⟨g, 0, none⟩ : Addr).add (i * size + off))))) (hy : ev us ch pre T y = some v)
  (hv : v.cells = ws.toArray) (hz : ∀ w, (sizeOf t).run P w = .ok ws.length w) (hi : l[i]? = some a) (hsz : 0 < size) (ho : off + ws.length ≤ size) (hb : ∀ w m, K w m → ∀ vs, vs.length = size → R m vs a → R m (splice off ws vs) b) (h1 : ∀ w m, K w m → ws.all (·.oneCell') = true) :
  ObT P K us ch pre T (fun _ => .mrowx (.slice (some ⟨g, 0, none⟩) n cap) n size e (MP.reads R size l)) (fun _ => .mrowx (.slice (some ⟨g, 0, none⟩) n cap) n size e (MP.reads R size (l.set i b))) ⟨none, .store t x y, ty, pos, af, gd⟩ (.ex MP.any) := fun σ w m hk hr hkn => by
 obtain ⟨xs, ⟨hlen, o, cap', e1, hnc, hcm, h3⟩, hp⟩ := hr
 injection e1 with e1 e2 e3; subst e1; subst e3
 rw [MP.reads_p] at hp
 have h1' := h1 w m hk
 obtain ⟨q1, q2⟩ := hp.nth hi
 have hsp := hp.splice hi ho (hb w m hk _ q1 q2) h1'
 have hil : i < l.length := (List.getElem?_eq_some_iff.1 hi).1
 have hln := hp.len
 have hmul : (i + 1) * size ≤ l.length * size := Nat.mul_le_mul_right _ hil
 rw [Nat.succ_mul] at hmul
 have hfit : i * size + off + ws.length ≤ xs.length := by omega
 have hln' : l.length = n := Nat.eq_of_mul_eq_mul_right hsz (hln.symm.trans hlen)
 rcases h3 with h3 | ⟨g', cur, e4, hh, h4, h5, h6⟩
 ·omega
 ·injection e4 with e4; injection e4 with e4; subst e4
  have hcl : n * size ≤ cur.size := by rw [h4]; exact Nat.mul_le_mul_right _ hnc
  obtain ⟨w', r1, r2, r3, r4, r5, r6, r7⟩ := zAn (P := P) (g := g) (e := e) ws w cur.toList (i * size + off) 0 (by simpa using hh) (by simp only [Array.length_toList]; omega) (fun u hu => List.all_eq_true.1 h1' u hu)
  have hrun : (execOp (zy σ) ⟨none, .store t x y, ty, pos, af, gd⟩).run P w = .ok .skip w' := by
   simp only [execOp, hkn.ev hx, hkn.ev hy]
   rw [Sem.run_bind]
   have : (Instr.storeAt t (.pointer (some ((⟨g, 0, none⟩ : Addr).add (i * size + off)))) v).run P w = .ok () w' := by
    simp [Instr.storeAt, Instr.sureAddr, storeVar, hz, hv, r1]
   rw [this]; rfl
  simp only [Nat.add_zero] at r2
  have ht := mrow_write (w := w) (w' := w') (m := m) (g := g) (n := n) (cap := cap) (n' := n) (size := size) (e := e) (xs := xs) (ys := splice (i * size + off) ws xs) (cur := cur) (cur' := (splice (i * size + off) ws cur.toList).toArray) (hK.agree hk) (by omega) hcm hh h6 hnc (by rw [zCs hfit]; exact hlen) r2
   (by simp only [List.size_toArray]; rw [zCs (by simp only [Array.length_toList]; omega)]; simp [h4])
   (by
    simp only
    apply List.ext_getElem?
    intro q
    rw [List.getElem?_take, zAo (by simp only [Array.length_toList]; omega), zAo hfit, ← h5, List.getElem?_take]
    by_cases hq : q < n * size
    ·rw [if_pos hq, if_pos hq]
    ·rw [if_neg hq, if_neg hq, if_neg (by omega)])
   r3 r4 r5 (by omega) (fun b _ hb => r7 b hb)
  unfold Does; rw [hrun]
  exact ⟨m, ⟨ht.ext, ⟨_, ht.now, MP.reads_p.2 hsp⟩, ht.nodup, ht.where_⟩, _, rfl, trivial⟩
end
theorem join_any {α : Type} {rd : Option Nat} {P : Program} {Q : Exit → Act → World → Prop} {x y : Code} {n : FrN} {T : List (Nat × Value)} {G0 : List Nat} {W : World} {mE m0 : Mem} {a : Act} {w : World}
  (f : α → List (Nat × Value)) (Lf : α → List Res) (J : α → Mem → Prop) (y0 : α) (h0 : Head n T G0 W mE m0 f Lf (fun _ _ => True) y0 a w m0)
  (cont : ∀ (g : α) (a : Act) (w : World) (m : Mem), Head n T G0 W mE m0 f Lf J g a w m → y.wpIn (z4 rd) 0 P Q a w)
  (first : ∀ K : Act → World → Prop, (∀ (g : α) (a : Act) (w : World) (m : Mem), Head n T G0 W mE m0 f Lf J g a w m → K a w) → x.wpIn (z4 rd) 0 P (Exit.then K Q) a w) : (Code.seq x y).wpIn (z4 rd) 0 P Q a w :=
 zB fun K hK => first K fun g a w m h => hK a w (cont g a w m h)
theorem zEq : ∀ (l cs : List Value) (off : Nat), (putL cs off l).length = cs.length
 | [], _, _ => rfl
 | v :: l, cs, off => by rw [putL, zEq l, List.length_set]
theorem zCz : ∀ (l cs : List Value) (off i : Nat), off + l.length ≤ cs.length → (putL cs off l)[i]? = if off ≤ i ∧ i < off + l.length then l[i - off]? else cs[i]?
 | [], cs, off, i, _ => by rw [putL, if_neg (by simp only [List.length_nil]; omega)]
 | v :: l, cs, off, i, h => by
  simp only [List.length_cons] at h ⊢
  rw [putL, zCz l _ _ _ (by rw [List.length_set]; omega)]
  by_cases h1 : off + 1 ≤ i ∧ i < off + 1 + l.length
  ·rw [if_pos h1, if_pos (by omega), show i - off = (i - (off + 1)) + 1 by omega]; rfl
  ·rw [if_neg h1]
   by_cases h2 : i = off
   ·subst h2; rw [if_pos (by omega), Nat.sub_self, List.getElem?_set_self (by omega)]; rfl
   ·rw [if_neg (by omega), List.getElem?_set_ne (by omega)]
section
variable {P : Program} {K : World → Mem → Prop} {m0 : Mem} {L : List Res} {us : List Nat} {ch : List (Nat × Bool)} {pre : List Ent} {T : List (Nat × Value)}
variable {dst : Option Nat} {ty : TypeId} {pos : String} {af : Array Edge} {gd : Option (Nat × Bool)}
theorem ZV [hK : KC K m0 L] {t e : TypeId} {sz : Nat} {x : Operand} {vs : List Value} {z : Value} (hx : ev us ch pre T x = some (.agg vs.toArray)) (ht : P.underlying t = some (.slice e))
  (hsz : ∀ w, (sizeOf e).run P w = .ok sz w) (hz : ∀ w, (zeroValue e).run P w = .ok z w) (hl : Nat.beq vs.length sz = true) (hzs : Nat.beq z.cells.size sz = true) (hn : Nat.ble sz 16777216 = true) (h0 : Nat.beq sz 0 = false) :
  Ob P K us ch pre T ⟨dst, .buildSlice t 1 #[(0, x)], ty, pos, af, gd⟩ (.ex (MP.row 1 vs)) := by
 rw [Nat.beq_eq] at hl
 refine Zb (zero := z.cells.toList) (EvPs.cons hx .nil) ht hsz hz rfl (by rw [Nat.one_mul]; exact hn) (by rw [Nat.one_mul]; exact h0) ?_
 have hlen : ((List.range (1 * sz)).map fun i => z.cells.toList.toArray[i % z.cells.toList.toArray.size]!).length = sz := by simp
 have hc : (Value.agg vs.toArray).cells.toList = vs := rfl
 simp only [zDP, hc]
 have e1 : Nat.beq vs.length sz = true := by rw [Nat.beq_eq]; exact hl
 have e2 : Nat.ble (0 * sz + vs.length) ((List.range (1 * sz)).map fun i => z.cells.toList.toArray[i % z.cells.toList.toArray.size]!).length = true := by rw [hlen]; exact Nat.ble_eq_true_of_le (by omega)
 rw [e1, e2]
 simp only [Bool.not_true, Bool.or_self, cond_false]
 congr 1
 apply List.ext_getElem?
 intro i
 rw [zCz _ _ _ _ (by rw [hlen]; omega)]
 by_cases hi : i < sz
 ·rw [if_pos (by omega)]; simp
 ·rw [if_neg (by omega), List.getElem?_eq_none (by rw [hlen]; omega), List.getElem?_eq_none (by omega)]
theorem zh [hK : KC K m0 L] {t e : TypeId} {x : Operand} {n j g : Nat} {cs : List Value} {fz : Nat × Nat} (hx : ev us ch pre T x = some (.pointer (some ⟨g, 0, none⟩)))
  (hL : L[j]? = some (.blk (.pointer (some ⟨g, 0, none⟩)) (.cells cs.toArray e fz))) (ha : ∀ w, (isAgg t).run P w = .ok true w) (hz : ∀ w, (sizeOf t).run P w = .ok n w) (hn' : Nat.beq cs.length n = true) :
  Ob P K us ch pre T ⟨dst, .load t x, ty, pos, af, gd⟩ (.eq (.agg cs.toArray)) := ob_loadLS' hx hL ha hz (by rw [Nat.beq_eq] at hn'; rw [← hn', List.take_length]) (by rw [Nat.beq_eq] at hn'; exact hn')
end
end Go.Proofs.Ytnppknioifgdfaa
namespace Go.Proofs.Ytnppknioifgdfaa
set_option linter.all false
open Go.RowKit
def RoundR (bs : List Nat) (Ψ1 Ψx : World → Mem → Prop) (w : World) (m : Mem) : Ending → World → Prop := fun e w' => ∃ v m', e = .returned v ∧ ExtG bs w m w' m' ∧
 ((v = .bool true ∧ (Res.pack bs Ψ1).holds w' m') ∨ (v = .bool false ∧ (Res.pack bs Ψx).holds w' m'))
def YieldR (P : Program) (l : Nat) (args : List Value) (w : World) (R : Ending → World → Prop) : Prop :=
 ∃ fn tmps assign body, (Instr.yield l args.toArray).run P w = .ok (.round l fn tmps assign body) w ∧ RoundIn Fence.wide 0 P l fn tmps assign body w R
def YieldW (P : Program) (l : Nat) (bs : List Nat) (m0 : Mem) (Y : Mem → List Value → Prop) (Ψ0 Ψ1 Ψx : World → Mem → Prop) : Prop :=
 ∀ w m args, Agree w m → MLe m0 m → Y m args → (Res.pack bs Ψ0).holds w m → YieldR P l args w (RoundR bs Ψ1 Ψx w m)
def IterC (P : Program) (fid : FuncId) (cap : List Value) (N : Nat) (Y : Nat → Mem → List Value → Prop) (m0 : Mem) : Prop :=
 ∀ (l : Nat) (bs : List Nat) (Ψ : Nat → World → Mem → Prop) (Ψx : World → Mem → Prop) (w : World) (m : Mem), Agree w m → MLe m0 m → bs.Nodup → (Res.pack bs (Ψ 0)).holds w m →
  (∀ i, i < N → YieldW P l bs m0 (Y i) (Ψ i) (Ψ (i + 1)) Ψx) →
  FnG P fid (.func (.yield l) #[] #[] :: cap).toArray bs w m fun w' m' _ => (Res.pack bs fun w m => Ψ N w m ∨ Ψx w m).holds w' m'
theorem ZK {bs : List Nat} {ψ ψ' : World → Mem → Prop} {w : World} {m : Mem} (h : (Res.pack bs ψ).holds w m) (hh : ∀ w m, ψ w m → ψ' w m) : (Res.pack bs ψ').holds w m :=
 ⟨h.1, fun G w' m' hE hd => hh _ _ (h.2 G w' m' hE hd)⟩
theorem pack_at {bs : List Nat} {ψ : World → Mem → Prop} {w : World} {m : Mem} (h : (Res.pack bs ψ).holds w m) (ha : Agree w m) : ψ w m := h.2 [] w m (ExtG.refl _ ha) (by simp)
theorem zDO {α : Type} {bs : List Nat} {Ly : α → List Res} {J : α → Mem → Prop} (hJ : ∀ y m m', MLe m m' → J y m → J y m') {y : α} {w : World} {m : Mem} (hb : (Ly y).flatMap Res.blocks = bs)
  (h : ∀ r ∈ Ly y, r.holds w m) (hj : J y m) : (Res.pack bs fun w m => ∃ y, (Ly y).flatMap Res.blocks = bs ∧ (∀ r ∈ Ly y, r.holds w m) ∧ J y m).holds w m := by
 subst hb
 refine ⟨fun g hg => ?_, fun G w' m' hE hd => ⟨y, rfl, fun r hr => Res.keep (h r hr) hE fun g hg => hd g (List.mem_flatMap.2 ⟨r, hr, hg⟩), hJ y _ _ hE.le hj⟩⟩
 obtain ⟨r, hr, hgr⟩ := List.mem_flatMap.1 hg
 exact Res.lt (h r hr) g hgr
theorem St.weaken {G0 : List Nat} {W : World} {mE : Mem} {L : List Res} {k : Nat} {r r' : Res} {w : World} {m : Mem} (h : St G0 W mE L w m) (hk : L[k]? = some r) (hb : r'.blocks = r.blocks) (hh : r.holds w m → r'.holds w m) : St G0 W mE (L.set k r') w m := by
 have hnd : r.blocks.Nodup := by
  have := h.loc.apart
  have hm := List.mem_of_getElem? hk
  have hs : List.Sublist r.blocks (L.flatMap Res.blocks) := by
   obtain ⟨a, b, e⟩ := List.append_of_mem hm
   rw [e]; simp only [List.flatMap_append, List.flatMap_cons]
   exact (List.sublist_append_left _ _).trans (List.sublist_append_right _ _)
  exact this.sublist hs
 exact h.touch hk ⟨ExtG.refl _ h.agree, hh (h.loc.at_ hk), by rw [hb]; exact hnd, fun g hg => .inl (by rw [← hb]; exact hg)⟩
section
variable {P : Program} {rd : Option Nat} {K : World → Mem → Prop} {m0 : Mem} {L : List Res} {us : List Nat} {ch : List (Nat × Bool)} {pre : List Ent} {T : List (Nat × Value)}
variable {dst : Option Nat} {ty : TypeId} {pos : String} {af : Array Edge} {gd : Option (Nat × Bool)}
theorem zEp [hK : KC K m0 L] {d : Nat} {f : Operand} {l : Nat} {xs : List Operand} {vs : List Value} {ats : Array TypeId} {bs : List Nat} {mY : Mem} {Y : Mem → List Value → Prop} {Ψ0 Ψ1 Ψx : World → Mem → Prop}
  (hf : ev us ch pre T f = some (.func (.yield l) #[] #[])) (hxs : Evs us ch pre T xs vs) (hY : YieldW P l bs mY Y Ψ0 Ψ1 Ψx) (hm : MLe mY m0) (hbs : bs.Nodup) (hv : ∀ w m, K w m → Y m vs) :
  ObT P K us ch pre T (fun _ => .pack bs Ψ0) (fun v => .pack bs fun w m => (v = .bool true ∧ Ψ1 w m) ∨ (v = .bool false ∧ Ψx w m)) ⟨some d, .call { callee := .value f, args := xs.toArray, argTypes := ats }, ty, pos, af, gd⟩ (.ex (MP.mem Value.bool (fun _ _ => True) (fun _ h => h))) := fun σ w m hk hr hn => by
 have hag := hK.agree hk
 obtain ⟨fn, tmps, assign, body, hrun, hR⟩ := hY w m vs hag (hm.trans (hK.le hk)) (hv w m hk) hr
 unfold Does
 rw [show (execOp (zy σ) ⟨some d, .call { callee := .value f, args := xs.toArray, argTypes := ats }, ty, pos, af, gd⟩).run P w = .ok (.round l fn tmps assign body) w from by
  simp [execOp, resolve, Deferred.ofValue, hn.ev hf, hxs.map hn, invoke, hrun]]
 refine RoundIn.mono hR fun e w' ⟨v, m', e1, hE, h⟩ => ⟨v, e1, m', ⟨hE, ?_, hbs, fun g hg => .inl hg⟩, ?_⟩
 ·rcases h with ⟨rfl, h⟩ | ⟨rfl, h⟩
  ·exact ZK h fun w m hh => .inl ⟨rfl, hh⟩
  ·exact ZK h fun w m hh => .inr ⟨rfl, hh⟩
 ·rcases h with ⟨rfl, -⟩ | ⟨rfl, -⟩
  ·exact ⟨true, rfl, trivial⟩
  ·exact ⟨false, rfl, trivial⟩
end
def notV : Value → Value
 | .bool b => .bool (!b)
 | v => v
theorem zDY {P : Program} {l : List Oper} {pre : List Ent} {T : List (Nat × Value)} {d t : Nat} {bt ty : TypeId} {pos : String} {af : Array Edge} {p : Bool → Mem → Prop} {hp : ∀ {m m' : Mem} {y : Bool}, MLe m m' → p y m → p y m'}
  (hu : has (Zc l ⟨some d, .unOp .not bt (.tmp t), ty, pos, af, none⟩) t = true) (hf : find pre t = some (none, .val (.ex (MP.mem Value.bool p hp)))) :
  zCy P l pre T ⟨some d, .unOp .not bt (.tmp t), ty, pos, af, none⟩ t notV := fun σ w m hn => by
 obtain ⟨b, e, _⟩ : (MP.mem Value.bool p hp).p m (σ t) := hn.ent t none _ (Z8 hu) hf (fun _ e => by cases e)
 have e' : σ t = .bool b := e
 unfold Does
 have : (execOp (zy σ) ⟨some d, .unOp .not bt (.tmp t), ty, pos, af, none⟩).run P w = .ok (.value (.bool (!b))) w := by
  simp only [execOp, zy, e']; rfl
 rw [this]
 exact ⟨by rw [e']; rfl, rfl⟩
def ZX (l : Nat) (rc : Loop) : Res := .blk (.pointer (some ⟨l, 0, none⟩)) (.loop rc)
def zBx (D : Nat) : Res := .blk (.pointer (some ⟨D, 0, none⟩)) (.deferred (some []))
def zEs (D : Nat) : List Deferred := [{ target := .collected D, args := #[] }]
abbrev zAt (rc : Loop) : Loop := { rc with state := .busy }
abbrev zBb (rc : Loop) (j : Option Code) : Loop := { rc with state := if j.isNone then .ready else .done, pending := j }
theorem zCH {l : Nat} {o : Obj} {w : World} {m : Mem} (h : (Res.blk (.pointer (some ⟨l, 0, none⟩)) o).holds w m) : w.heap[l]? = some o ∧ ∀ off, m l off = none := by
 obtain ⟨g, e, h1, h2⟩ := h
 simp only [Value.pointer.injEq, Option.some.injEq, Addr.mk.injEq] at e
 obtain ⟨rfl, -⟩ := e
 exact ⟨h1, h2⟩
theorem zDl {l : Nat} {rc rc' : Loop} {w : World} {m : Mem} (h : (ZX l rc).holds w m) (ha : Agree w m) : ZR (ZX l rc) (ZX l rc') w m (w.putObj l (.loop rc')) m := by
 obtain ⟨hh, hm⟩ := zCH h
 have hlt := ZW hh
 have hoth : ∀ k, k ≠ l → (w.putObj l (.loop rc')).heap[k]? = w.heap[k]? := fun k hk => World.putObj_heap_other hk
 have hag : Agree (w.putObj l (.loop rc')) m := by
  refine ⟨fun b o v e => ?_, fun b x e => ?_⟩
  ·have hb : b ≠ l := fun e1 => by subst e1; rw [hm o] at e; cases e
   have := ha.cell b o v e
   unfold World.cell? at this ⊢
   simp only [hoth b hb]; exact this
  ·have hb : b ≠ l := fun e1 => by subst e1; have := ha.map _ x e; rw [hh] at this; cases this
   rw [hoth b hb]; exact ha.map b x e
 exact ⟨⟨rfl, rfl, rfl, by simp, fun b _ hb => hoth b (by simpa [ZX, Res.blocks, zn] using hb), hag, MLe.refl _, fun _ _ _ => ⟨rfl, rfl⟩⟩,
  ⟨l, rfl, World.putObj_heap_same hlt, hm⟩, by simp [ZX, Res.blocks, zn], fun g hg => .inl hg⟩
def zipT : List Nat → List Value → List (Nat × Value)
 | p :: ps, v :: vs => (p, v) :: zipT ps vs
 | _, _ => []
theorem foldl_size (l : List (Nat × Value)) : ∀ (t : Array Value), (l.foldl (fun tmps x => tmps.setIfInBounds x.1 x.2) t).size = t.size := by
 induction l with
 | nil => intro t; rfl
 | cons x r ih => intro t; rw [List.foldl_cons, ih]; simp
theorem foldl_other (l : List (Nat × Value)) (k : Nat) (h : ∀ x ∈ l, x.1 ≠ k) : ∀ (t : Array Value), (l.foldl (fun tmps x => tmps.setIfInBounds x.1 x.2) t)[k]? = t[k]? := by
 induction l with
 | nil => intro t; rfl
 | cons x r ih =>
  intro t
  rw [List.foldl_cons, ih (fun y hy => h y (.tail _ hy)), Array.getElem?_setIfInBounds_ne (h x (.head _))]
theorem look_zip : ∀ (ps : List Nat) (vs : List Value) (T : List (Nat × Value)) (t : Array Value), ps.Nodup → (∀ p ∈ ps, p < t.size) → vs.length = ps.length → ∀ k v, (k ∉ ps → look T k = some v → t.getD k undef = v) → look (zipT ps vs ++ T) k = some v →
  ((ps.zip vs).foldl (fun tmps x => tmps.setIfInBounds x.1 x.2) t).getD k undef = v
 | [], vs, T, t, _, _, _, k, v, hT, h => by simpa [zipT] using hT (by simp) (by simpa [zipT] using h)
 | p :: ps, [], T, t, _, _, hl, k, v, hT, h => by simp at hl
 | p :: ps, u :: vs, T, t, hn, hb, hl, k, v, hT, h => by
  rw [List.nodup_cons] at hn
  simp only [zipT, List.cons_append, look] at h
  rw [List.zip_cons_cons, List.foldl_cons]
  cases e : Nat.beq p k with
  | true =>
   rw [e] at h; rw [Nat.beq_eq] at e; subst e
   simp only [cond_true, Option.some.injEq] at h; subst h
   rw [Array.getD_eq_getD_getElem?, foldl_other _ _ (fun x hx (e : x.1 = p) => hn.1 (by have := (List.of_mem_zip (show (x.1, x.2) ∈ _ from hx)).1; rw [e] at this; exact this))]
   have hp := hb p (.head _)
   simp [hp]
  | false =>
   rw [e] at h
   have hne : p ≠ k := fun e' => by rw [← Nat.beq_eq] at e'; rw [e'] at e; cases e
   refine look_zip ps vs T (t.setIfInBounds p u) hn.2 (fun q hq => by simpa using hb q (.tail _ hq)) (by simpa using hl) k v (fun hk hl' => ?_) h
   rw [Array.getD_eq_getD_getElem?, Array.getElem?_setIfInBounds_ne hne, ← Array.getD_eq_getD_getElem?]
   exact hT (by rw [List.mem_cons, not_or]; exact ⟨fun e' => hne e'.symm, hk⟩) hl'
theorem zip_foldl (ps : Array Nat) (args : List Value) (t : Array Value) : (ps.zip args.toArray).foldl (fun tmps (t, a) => tmps.setIfInBounds t a) t = (ps.toList.zip args).foldl (fun tmps x => tmps.setIfInBounds x.1 x.2) t := by
 rw [← Array.foldl_toList, Array.toList_zip]
def RoundQ {α : Type} (G0 : List Nat) (W : World) (mE : Mem) (l : Nat) (rc : Loop) (Ly : α → List Res) (bs0 : List Nat) (J1 Jx : α → Mem → Prop) : Exit → Act → World → Prop
 | .normal, _, w' => ∃ (y : α) (m' : Mem) (Lz : List Res) (k : Nat), St G0 W mE Lz w' m' ∧ Lz[k]? = some (ZX l (zAt rc)) ∧ (Ly y).flatMap Res.blocks = bs0 ∧ (∀ r ∈ Ly y, r ∈ Lz) ∧ J1 y m'
 | .ret, _, w' => ∃ (y : α) (m' : Mem) (Lz : List Res) (k : Nat), St G0 W mE Lz w' m' ∧ Lz[k]? = some (ZX l (zAt rc)) ∧ (Ly y).flatMap Res.blocks = bs0 ∧ (∀ r ∈ Ly y, r ∈ Lz) ∧ Jx y m'
 | _, _, _ => False
theorem RoundQ.next {α : Type} {G0 : List Nat} {W : World} {mE : Mem} {l : Nat} {rc : Loop} {Ly : α → List Res} {bs0 : List Nat} {J1 Jx : α → Mem → Prop} {a : Act} {w : World} {m : Mem} {Lz : List Res} {k n0 : Nat} (y : α) (hst : St G0 W mE Lz w m)
  (hk : Lz[k]? = some (ZX l (zAt rc))) (hb : (Ly y).flatMap Res.blocks = bs0) (hin : Ly y = Lz.take n0) (hj : J1 y m) : RoundQ G0 W mE l rc Ly bs0 J1 Jx .normal a w := ⟨y, m, Lz, k, hst, hk, hb, fun r hr => List.mem_of_mem_take (hin ▸ hr), hj⟩
theorem RoundQ.left {α : Type} {G0 : List Nat} {W : World} {mE : Mem} {l : Nat} {rc : Loop} {Ly : α → List Res} {bs0 : List Nat} {J1 Jx : α → Mem → Prop} {a : Act} {w : World} {m : Mem} {Lz : List Res} {k n0 : Nat} (y : α) (hst : St G0 W mE Lz w m)
  (hk : Lz[k]? = some (ZX l (zAt rc))) (hb : (Ly y).flatMap Res.blocks = bs0) (hin : Ly y = Lz.take n0) (hj : Jx y m) : RoundQ G0 W mE l rc Ly bs0 J1 Jx .ret a w := ⟨y, m, Lz, k, hst, hk, hb, fun r hr => List.mem_of_mem_take (hin ▸ hr), hj⟩
def rndP {α : Type} (l : Nat) (rc : Loop) (Ly : α → List Res) (bs0 : List Nat) (J : α → Mem → Prop) : World → Mem → Prop := fun w m => ∃ y, (Ly y ++ [ZX l rc]).flatMap Res.blocks = bs0 ++ [l] ∧ (∀ r ∈ Ly y ++ [ZX l rc], r.holds w m) ∧ J y m
theorem Zu (l : Nat) (rc : Loop) : (ZX l rc).blocks = [l] := rfl
section
variable {P : Program}
theorem round_end {α : Type} {G0 : List Nat} {W : World} {mE : Mem} {l : Nat} {rc : Loop} {Ly : α → List Res} {bs0 : List Nat} {J1 Jx : α → Mem → Prop} (hrc : rc.state = .ready) (hrp : rc.pending = none)
  (hJ1 : ∀ y m m', MLe m m' → J1 y m → J1 y m') (hJx : ∀ y m m', MLe m m' → Jx y m → Jx y m') (hn : (bs0 ++ [l]).Nodup) (hG : ∀ g ∈ G0, g ∈ bs0 ++ [l]) {e : Exit} {a : Act} {w : World}
  (h : RoundQ G0 W mE l rc Ly bs0 J1 Jx e a w) : roundPost P l (RoundR (bs0 ++ [l]) (rndP l rc Ly bs0 J1) (rndP l (zBb rc (some .ret)) Ly bs0 Jx) W mE) e a w := by
 have key : ∀ (j : Option Code) (y : α) (m' : Mem) (Lz : List Res) (k : Nat), St G0 W mE Lz w m' → Lz[k]? = some (ZX l (zAt rc)) → (Ly y).flatMap Res.blocks = bs0 → (∀ r ∈ Ly y, r ∈ Lz) →
   ∀ w' rc', w' = w.putObj l (.loop (zBb (zAt rc) j)) → rc' = zBb (zAt rc) j → ExtG (bs0 ++ [l]) W mE w' m' ∧ (Ly y ++ [ZX l rc']).flatMap Res.blocks = bs0 ++ [l] ∧ ∀ r ∈ Ly y ++ [ZX l rc'], r.holds w' m' := by
  intro j y m' Lz k hst hk hb hin w' rc' hw' hrc'
  subst hw' hrc'
  have ht := zDl (rc' := zBb (zAt rc) j) (hst.loc.at_ hk) hst.agree
  have hst' := hst.touch hk ht
  refine ⟨hst'.ext.mono hG, by simp [Zu, hb], fun r hr => ?_⟩
  rcases List.mem_append.1 hr with hr1 | hr1
  ·refine Res.keep (hst.loc.all r (hin r hr1)) ht.ext fun g hg hg' => ?_
   rw [Zu, List.mem_singleton] at hg'; subst hg'
   rw [List.nodup_append] at hn
   exact hn.2.2 _ (by rw [← hb]; exact List.mem_flatMap.2 ⟨r, hr1, hg⟩) _ (by simp) rfl
  ·rw [List.mem_singleton] at hr1; subst hr1; exact ht.now
 cases e with
 | normal =>
  obtain ⟨y, m', Lz, k, hst, hk, hb, hin, hj⟩ := h
  refine ⟨_, _, run_endRound none (zCH (hst.loc.at_ hk)).1, _, m', rfl, ?_, .inl ⟨rfl, ?_⟩⟩
  ·exact (key none y m' Lz k hst hk hb hin _ _ rfl rfl).1
  ·have e1 : rc = zBb (zAt rc) none := by cases rc; simp only at hrc hrp; subst hrc; subst hrp; rfl
   have h1 := key none y m' Lz k hst hk hb hin _ rc rfl e1
   have h2 := zDO (Ly := fun y => Ly y ++ [ZX l rc]) (J := J1) hJ1 (y := y) h1.2.1 h1.2.2 hj
   exact ZK h2 fun w m hh => hh
 | ret =>
  obtain ⟨y, m', Lz, k, hst, hk, hb, hin, hj⟩ := h
  refine ⟨_, _, run_endRound (some .ret) (zCH (hst.loc.at_ hk)).1, _, m', rfl, ?_, .inr ⟨rfl, ?_⟩⟩
  ·exact (key (some .ret) y m' Lz k hst hk hb hin _ _ rfl rfl).1
  ·have h1 := key (some .ret) y m' Lz k hst hk hb hin _ _ rfl rfl
   have h2 := zDO (Ly := fun y => Ly y ++ [ZX l (zBb rc (some .ret))]) (J := Jx) hJx (y := y) h1.2.1 h1.2.2 hj
   exact ZK h2 fun w m hh => hh
 | exit id => exact h.elim
 | goto id => exact h.elim
 | panic c => exact h.elim
 | outgrown => exact h.elim
theorem zBI {α : Type} {ps : Array Nat} {assign body : Code} {g : Operand} {n : Nat} {fid : FuncId} {cap : List Value} {Q : Exit → Act → World → Prop} {a : Act} {w : World} {m : Mem} {W : World} {mE : Mem} {G0 : List Nat} {T : List (Nat × Value)}
  (Ly : α → List Res) (N : Nat) (Y : Nat → Mem → List Value → Prop) (J : Nat → α → Mem → Prop) (Jx : α → Mem → Prop) (y0 : α)
  (hst : St G0 W mE (Ly y0) w m) (hfr : Fr ⟨n, []⟩ T a) (hg : evT0 T g = some (.func (.func fid) #[] cap.toArray)) (hc : ∀ args w, (callFunc fid args).run P w = .ok (.enter fid args) w)
  (hps : ps.toList.Nodup ∧ ∀ p ∈ ps.toList, p < n) (hJ : ∀ i y m m', MLe m m' → J i y m → J i y m') (hJx : ∀ y m m', MLe m m' → Jx y m → Jx y m') (h0 : J 0 y0 m) (hit : IterC P fid cap N Y m)
  (round : ∀ i, i < N → ∀ (y : α) (w1 : World) (m1 : Mem) (args : List Value) (l : Nat) (rc : Loop), MLe m m1 → Y i m1 args → J i y m1 → (Ly y).flatMap Res.blocks = (Ly y0).flatMap Res.blocks →
   args.length = ps.size ∧ ∀ (G1 : List Nat) a1, Fr ⟨n, []⟩ (zipT ps.toList args ++ T) a1 → St G1 w1 m1 (Ly y ++ [ZX l rc]) w1 m1 →
    ∀ K, (∀ a2 w2 m2 Lz k, St G1 w1 m1 Lz w2 m2 → Lz[k]? = some (ZX l rc) → (∀ w3, St G1 w1 m1 (Lz.set k (ZX l (zAt rc))) w3 m2 → body.wpIn (z4 (some l)) 0 P (RoundQ G1 w1 m1 l rc Ly ((Ly y0).flatMap Res.blocks) (J (i + 1)) Jx) a2 w3) → K a2 w2) →
     assign.wpIn (z4 (some l)) 0 P (Exit.then K (fun _ _ _ => False)) a1 w1)
  (cont : ∀ y D l rc a' w' m', St G0 W mE (Ly y ++ [ZX l rc, zBx D]) w' m' → MLe m m' → J N y m' → Fr ⟨n, zEs D⟩ T a' → Q .normal a' w')
  (contx : ∀ y D l rc a' w' m', St G0 W mE (Ly y ++ [ZX l rc, zBx D]) w' m' → MLe m m' → Jx y m' → Fr ⟨n, zEs D⟩ T a' → Q .ret a' w') :
  (Code.rangeFunc g ps assign body).wpIn (z4 none) 0 P Q a w := by
 refine wpIn_rangeFunc fun fn _ => ?_
 let D := w.heap.size
 let l := w.heap.size + 1
 let rc : Loop := { state := .ready, pending := none, fn, tmps := a.tmps, params := ps, assign, body, defers := D }
 let w1 := (w.alloc (.deferred (some []))).alloc (.loop rc)
 let bs0 := (Ly y0).flatMap Res.blocks
 have hev : a.eval g = .func (.func fid) #[] cap.toArray := by rw [eval_eq]; exact evT0_eq hfr hg
 refine ⟨l, zEs D, w1, { target := .fn (.func fid) cap.toArray, args := #[.func (.yield l) #[] #[]] }, w1, fid, #[.func (.yield l) #[] #[]] ++ cap.toArray, w1, run_enterLoop_outer _ _ _ _ _, ?_, fun _ _ => trivial, ?_, fun h => (by cases h), ?_⟩
 ·have hf : a.eval (.const (.func (.yield l) #[] #[])) = .func (.yield l) #[] #[] := rfl
  simp [resolve, Deferred.ofValue, hev, hf]
 ·simp [invoke, hc]
 -- the two new blocks
 have hk : ExtG [] w m w1 m := (zBV hst.agree _).trans (zBV (zCI hst.agree _) _)
 have hst1 := hst.keep hk
 have hall : ∀ g ∈ (Ly y0).flatMap Res.blocks, g < w.heap.size := fun g hg => by
  obtain ⟨x, hx, hgx⟩ := List.mem_flatMap.1 hg; exact Res.lt (hst.loc.all x hx) g hgx
 have hD : (zBx D).holds w1 m := ⟨D, rfl, by
  show ((w.alloc (.deferred (some []))).alloc (.loop rc)).heap[w.heap.size]? = _
  rw [Below.heap_alloc _ _ _ (by simp)]; exact World.alloc_heap_new _ _, zBZ hst.agree (Nat.le_refl _)⟩
 have hl : (ZX l rc).holds w1 m := ⟨l, rfl, by
  have h6 := World.alloc_heap_new (w.alloc (.deferred (some []))) (.loop rc)
  rw [World.size_alloc] at h6
  exact h6, zBZ hst.agree (by show w.heap.size ≤ w.heap.size + 1; omega)⟩
 have hst2 : St G0 W mE (Ly y0 ++ [ZX l rc]) w1 m := hst1.more hl (by simp [ZX, Res.blocks, zn]) fun g hg => by
  simp only [ZX, Res.blocks, zn, List.mem_singleton] at hg; subst hg
  refine ⟨by have := hst.ext.size; show W.heap.size ≤ w.heap.size + 1; omega, fun hh => by have := hall _ hh; simp only [l] at this; omega⟩
 have hst3 : St G0 W mE ((Ly y0 ++ [ZX l rc]) ++ [zBx D]) w1 m := hst2.more hD (by simp [zBx, Res.blocks, zn]) fun g hg => by
  simp only [zBx, Res.blocks, zn, List.mem_singleton] at hg; subst hg
  refine ⟨hst.ext.size, fun hh => ?_⟩
  rw [zAc, List.mem_append] at hh
  rcases hh with hh | hh
  ·have := hall _ hh; simp only [D] at this; omega
  ·simp [ZX, Res.blocks, zn, l, D] at hh
 have hflat : (Ly y0 ++ [ZX l rc]).flatMap Res.blocks = bs0 ++ [l] := by simp [Zu, bs0]
 have hnd : (bs0 ++ [l]).Nodup := by rw [← hflat]; exact hst2.loc.apart
 have hp0 := zDO (Ly := fun y => Ly y ++ [ZX l rc]) (J := J 0) (hJ 0) (y := y0) hflat hst2.loc.all h0
 have hcall := hit l (bs0 ++ [l]) (fun i => rndP l rc Ly bs0 (J i)) (rndP l (zBb rc (some .ret)) Ly bs0 Jx) w1 m hk.agree (MLe.refl _) hnd hp0 ?_
 ·rw [show (#[Value.func (.yield l) #[] #[]] ++ cap.toArray) = (.func (.yield l) #[] #[] :: cap : List Value).toArray by simp]
  refine callsIn_wide.2 (Calls.mono hcall fun e w2 ⟨v, m2, e1, hE, hp⟩ => ?_)
  subst e1
  have hstep : ∀ (y : α) (rc' : Loop) (w3 : World), (Ly y ++ [ZX l rc']).flatMap Res.blocks = bs0 ++ [l] → (∀ r ∈ Ly y ++ [ZX l rc'], r.holds w3 m2) → ExtG (bs0 ++ [l]) w1 m w3 m2 → St G0 W mE (Ly y ++ [ZX l rc', zBx D]) w3 m2 := fun y rc' w3 hb hh hE' => by
   have ht : MTouch (Ly y0 ++ [ZX l rc]) (Ly y ++ [ZX l rc']) w1 m w3 m2 := ⟨by rw [hflat]; exact hE', hh, by rw [hb]; exact hnd, fun g hg => .inl (by rw [hflat, ← hb]; exact hg)⟩
   have h5 := St.multi (A := []) (B := [zBx D]) (by simpa using hst3) ht
   simpa using h5
  have hfr' : Fr ⟨n, zEs D⟩ T { a with defers := zEs D ++ a.defers } := ⟨by rw [hfr.defers]; rfl, hfr.size, hfr.at_⟩
  have hend : ∀ (y : α) (rc' : Loop), rc'.state ≠ .busy → (Ly y ++ [ZX l rc']).flatMap Res.blocks = bs0 ++ [l] → (∀ r ∈ Ly y ++ [ZX l rc'], r.holds w2 m2) → ∃ w3, (Instr.endLoop l).run P w2 = .ok rc'.pending w3 ∧ St G0 W mE (Ly y ++ [ZX l { rc' with state := .exhausted }, zBx D]) w3 m2 := fun y rc' hb hbl hh => by
   have hr := hh (ZX l rc') (by simp)
   refine ⟨_, run_endLoop (zCH hr).1 hb, ?_⟩
   have ht := zDl (rc' := { rc' with state := .exhausted }) hr hE.agree
   refine hstep y _ _ (by simpa [Zu] using hbl) (fun r hr' => ?_) (hE.trans (ht.ext.mono fun g hg => by rw [Zu, List.mem_singleton] at hg; subst hg; simp))
   rcases List.mem_append.1 hr' with hr1 | hr1
   ·refine Res.keep (hh r (List.mem_append_left _ hr1)) ht.ext fun g hg hg' => ?_
    rw [Zu, List.mem_singleton] at hg'; subst hg'
    have hb2 : (Ly y).flatMap Res.blocks = bs0 := by
     have : (Ly y).flatMap Res.blocks ++ [l] = bs0 ++ [l] := by simpa [Zu] using hbl
     exact List.append_cancel_right this
    rw [List.nodup_append] at hnd
    exact hnd.2.2 _ (by rw [← hb2]; exact List.mem_flatMap.2 ⟨r, hr1, hg⟩) _ (by simp) rfl
   ·rw [List.mem_singleton] at hr1; subst hr1; exact ht.now
  rcases pack_at hp hE.agree with ⟨y, hb, hh, hj⟩ | ⟨y, hb, hh, hj⟩
  ·obtain ⟨w3, h1, h2⟩ := hend y rc (by simp [rc]) hb hh
   exact ⟨none, w3, h1, cont y D l _ _ w3 m2 h2 hE.le hj hfr'⟩
  ·obtain ⟨w3, h1, h2⟩ := hend y (zBb rc (some .ret)) (by simp [zBb]) hb hh
   exact ⟨some .ret, w3, h1, wpIn_ret (contx y D l _ _ w3 m2 h2 hE.le hj hfr')⟩
 ·intro i hi w2 m2 args ha hm hY hp
  obtain ⟨y, hb, hh, hj⟩ := pack_at hp ha
  have hb2 : (Ly y).flatMap Res.blocks = bs0 := by
   have : (Ly y).flatMap Res.blocks ++ [l] = bs0 ++ [l] := by simpa [Zu] using hb
   exact List.append_cancel_right this
  obtain ⟨hlen, hr⟩ := round i hi y w2 m2 args l rc hm hY hj hb2
  have hrl := (zCH (hh (ZX l rc) (by simp))).1
  refine ⟨_, _, _, _, run_yield hrl (by simp [hlen, rc]), ?_⟩
  refine roundIn_of_wpIn trivial ?_
  have hst0 : St (bs0 ++ [l]) w2 m2 (Ly y ++ [ZX l rc]) w2 m2 := ⟨ExtG.refl _ ha, hh, by rw [hb]; exact hnd, fun g hg => .inl (by rw [← hb]; exact hg)⟩
  refine hr (bs0 ++ [l]) _ ⟨rfl, ?_, fun t v e => ?_⟩ hst0 _ ?_
  ·exact (congrArg Array.size (zip_foldl ps args a.tmps)).trans ((foldl_size _ _).trans hfr.size)
  ·refine (congrArg (fun x : Array Value => x.getD t undef) (zip_foldl ps args a.tmps)).trans ?_
   exact look_zip _ _ _ _ hps.1 (fun p hp => by rw [hfr.size]; exact hps.2 p hp) (by simpa using hlen) t v (fun _ => hfr.at_ t v) e
  ·intro a2 w3 m3 Lz k hst3 hk hbody
   have hrk := hst3.loc.at_ hk
   refine ⟨_, run_beginRound (zCH hrk).1 rfl, ?_⟩
   have ht := zDl (rc' := zAt rc) hrk hst3.agree
   exact wpIn_mono (hbody _ (hst3.touch hk ht)) fun e a w h => round_end rfl rfl (hJ (i + 1)) hJx hnd (fun g hg => hg) h
abbrev PostM (P : Program) (fn : Func) (G0 : List Nat) (w : World) (m : Mem) (φ : World → Mem → Value → Prop) : Exit → Act → World → Prop :=
 bodyPostM (z4 none) 0 P fn fun e w' => ∃ v m', e = .returned v ∧ ExtG G0 w m w' m' ∧ φ w' m' v
theorem fn_enterM {f : FuncId} {fn : Func} {c : Code} {n : Nat} {vs : List Value} {G0 : List Nat} {w : World} {m : Mem} {φ : World → Mem → Value → Prop} (hf : P.funcs[f]? = some fn) (hb : fn.body = some c) (hn : fn.ntmps = n)
  (h : ∀ a, Fr ⟨n, []⟩ (zBz 0 vs) a → c.wpIn (z4 none) 0 P (PostM P fn G0 w m φ) a w) (hlen : Nat.ble vs.length n = true := by rfl) : FnG P f vs.toArray G0 w m φ := by
 have hl : vs.length ≤ n := Nat.le_of_ble_eq_true hlen
 refine (callsIn_wide (n := 0)).1 (callsIn_of_wp_marks (F := z4 none) hf hb trivial (h _ ⟨rfl, by simp [hn]; omega, fun t v e => ?_⟩))
 obtain ⟨_, h2⟩ := zBK vs 0 t v e
 simp only [Nat.sub_zero] at h2
 have hlt : t < vs.length := (List.getElem?_eq_some_iff.1 h2).1
 simp only [zV, Array.getD_eq_getD_getElem?]
 rw [Array.getElem?_append_left (by simpa using hlt)]
 simp [h2]
theorem zCL {fn : Func} {G0 : List Nat} {W : World} {mE : Mem} {L : List Res} {φ : World → Mem → Value → Prop} {T : List (Nat × Value)} {n : Nat} {a : Act} {w : World} {m : Mem} {rs : List ResultVar} {vs : List Value}
  (hst : St G0 W mE L w m) (hfr : Fr ⟨n, []⟩ T a) (hr : fn.results = rs.toArray) (h : zCE P w T rs vs) (hφ : φ w m (ZS vs)) : PostM P fn G0 W mE φ .ret a w := by
 show LeavesInM (z4 none) 0 P fn a.tmps _ a.defers .returning w
 rw [hfr.defers]
 exact ⟨_, zBB hr hfr h, _, m, rfl, hst.ext, hφ⟩
theorem touch_shut {D : Nat} {w : World} {m : Mem} (h : (zBx D).holds w m) (ha : Agree w m) : ZR (zBx D) (.blk (.pointer (some ⟨D, 0, none⟩)) (.deferred none)) w m (w.putObj D (.deferred none)) m := by
 obtain ⟨hh, hm⟩ := zCH h
 have hlt := ZW hh
 have hoth : ∀ k, k ≠ D → (w.putObj D (.deferred none)).heap[k]? = w.heap[k]? := fun k hk => World.putObj_heap_other hk
 have hag : Agree (w.putObj D (.deferred none)) m := by
  refine ⟨fun b o v e => ?_, fun b x e => ?_⟩
  ·have hb : b ≠ D := fun e1 => by subst e1; rw [hm o] at e; cases e
   have := ha.cell b o v e
   unfold World.cell? at this ⊢
   simp only [hoth b hb]; exact this
  ·have hb : b ≠ D := fun e1 => by subst e1; have := ha.map _ x e; rw [hh] at this; cases this
   rw [hoth b hb]; exact ha.map b x e
 exact ⟨⟨rfl, rfl, rfl, by simp, fun b _ hb => hoth b (by simpa [zBx, Res.blocks, zn] using hb), hag, MLe.refl _, fun _ _ _ => ⟨rfl, rfl⟩⟩,
  ⟨D, rfl, World.putObj_heap_same hlt, hm⟩, by simp [Res.blocks, zn], fun g hg => .inl hg⟩
theorem zCP {fn : Func} {G0 : List Nat} {W : World} {mE : Mem} {L : List Res} {φ : World → Mem → Value → Prop} {T : List (Nat × Value)} {n D k : Nat} {a : Act} {w : World} {m : Mem} {rs : List ResultVar} {vs : List Value}
  (hst : St G0 W mE L w m) (hk : L[k]? = some (zBx D)) (hfr : Fr ⟨n, zEs D⟩ T a) (hr : fn.results = rs.toArray) (h : ∀ w, St G0 W mE (L.set k (.blk (.pointer (some ⟨D, 0, none⟩)) (.deferred none))) w m → zCE P w T rs vs) (hφ : ∀ w, φ w m (ZS vs)) : PostM P fn G0 W mE φ .ret a w := by
 show LeavesInM (z4 none) 0 P fn a.tmps _ a.defers .returning w
 rw [hfr.defers]
 have hd := hst.loc.at_ hk
 have hst' := hst.touch hk (touch_shut hd hst.agree)
 refine ⟨by simp, .inl ⟨D, _, rfl, run_takeDeferred (zCH hd).1, ?_⟩⟩
 exact ⟨_, zBB hr (n := ⟨n, zEs D⟩) hfr (h _ hst'), _, m, rfl, hst'.ext, hφ _⟩
end
end Go.Proofs.Ytnppknioifgdfaa
namespace Go.Proofs.Ytnppknioifgdfaa
set_option linter.all false
open Go.RowKit Go.MapKept
def MapAt {κ : Type} (ek : κ → Value) (m : Mem) (g : Nat) (es : List (κ × Value)) : Prop := ∃ ents clock, m.mp g = some (ents, clock) ∧ Zz ents = zAL ek es ∧ Stamps ents clock
theorem MapAt.mono {κ : Type} {ek : κ → Value} {m m' : Mem} {g : Nat} {es : List (κ × Value)} (h : MapAt ek m g es) (hm : MLe m m') : MapAt ek m' g es := by obtain ⟨e, c, h1, h2⟩ := h; exact ⟨e, c, hm.map _ _ h1, h2⟩
def MapR {κ : Type} (ek : κ → Value) (m : Mem) (vs : List Value) (es : List (κ × Value)) : Prop := ∃ g, vs = [.map (some g)] ∧ MapAt ek m g es
instance {κ : Type} (ek : κ → Value) : RepR (MapR ek) := ⟨fun hm h => by obtain ⟨g, e, h1⟩ := h; exact ⟨g, e, h1.mono hm⟩, fun h => by obtain ⟨g, rfl, h1⟩ := h; rfl⟩
theorem MLe.addMap {w : World} {m : Mem} {g : Nat} (x : Array MapEntry × Nat) (hm : m.mp g = none) : MLe m (m.addMap g x) := ⟨fun _ _ _ h => h, fun b es' hb => by
 show (if b = g then some x else m.mp b) = some es'
 split
 ·rename_i e; subst e; rw [hm] at hb; cases hb
 ·exact hb⟩
theorem Agree.addMap {w : World} {m : Mem} {g : Nat} {x : Array MapEntry × Nat} (ha : Agree w m) (hh : w.heap[g]? = some (.map x.1 x.2)) : Agree w (m.addMap g x) := ⟨ha.cell, fun b es' hb => by
 change (if b = g then some x else m.mp b) = some es' at hb
 split at hb
 ·rename_i e; subst e; injection hb with hb; subst hb; exact hh
 ·exact ha.map b es' hb⟩
theorem St.freezeMap {G0 : List Nat} {W : World} {mE : Mem} {L : List Res} {w : World} {m : Mem} {k : Nat} {v : Value} {κ : Type} {ek : κ → Value} {es : List (κ × Value)} (h : St G0 W mE L w m) (hk : L[k]? = some (.map v (zAL ek es))) :
  ∃ m', MLe m m' ∧ St G0 W mE (L.set k .free) w m' ∧ ∃ g, v = .map (some g) ∧ MapAt ek m' g es := by
 obtain ⟨g, ents, clock, rfl, hh, he, hm, hs⟩ := h.loc.at_ hk
 have hle := MLe.addMap (w := w) (g := g) (ents, clock) hm
 refine ⟨m.addMap g (ents, clock), hle, h.touch (r' := .free) hk ⟨⟨rfl, rfl, rfl, Nat.le_refl _, fun _ _ _ => rfl, h.agree.addMap hh, hle, fun b _ hb => ⟨rfl, ?_⟩⟩, trivial, List.nodup_nil, fun g hg => by cases hg⟩, g, rfl, ents, clock, ?_, he, hs⟩
 ·show (if b = g then some (ents, clock) else m.mp b) = m.mp b
  rw [if_neg (fun e => hb (by simp [Res.blocks, zAK, e]))]
 ·show (if g = g then some (ents, clock) else m.mp g) = some (ents, clock)
  rw [if_pos rfl]
section
variable {P : Program} {K : World → Mem → Prop} {m0 : Mem} {L : List Res} {us : List Nat} {ch : List (Nat × Bool)} {pre : List Ent} {T : List (Nat × Value)}
variable {dst : Option Nat} {ty : TypeId} {pos : String} {af : Array Edge} {gd : Option (Nat × Bool)}
theorem ob_lookupM [hK : KC K m0 L] {κ : Type} [DecidableEq κ] {enc : κ → Value} {d : TypeDesc} {t kt et : TypeId} {x y : Operand} {k : κ} {g : Nat} {z v : Value} {b : Bool} {es : List (κ × Value)} (hKe : Keys d enc) (hx : ev us ch pre T x = some (.map (some g))) (hy : ev us ch pre T y = some (enc k))
  (hM : ∀ w m, K w m → MapAt enc m g es) (hm : P.underlying t = some (.map kt et)) (hd : P.underlying kt = some d) (hz : ∀ w, (zeroValue et).run P w = .ok z w)
  (hv : (match z5 k es with | some u => (u, true) | none => (z, false)) = (v, b)) :
  Ob P K us ch pre T ⟨dst, .lookup t x y true, ty, pos, af, gd⟩ (.eq (.tuple #[v, .bool b])) :=
 ZZ fun σ w m hk hn => by
  obtain ⟨ents, clock, hh0, he, -⟩ := hM w m hk
  have hh := (hK.agree hk).map g _ hh0
  have hf := zAV hKe k ents.toList es 0 he
  have hget : (getObj g).run P w = .ok (.map ents clock) w := by simp [getObj, Sem.run, hh]
  rw [zBd k es 0] at hv
  cases ha : zDc k es 0 with
  | none =>
   rw [ha] at hf hv
   simp only [Option.map_none, Prod.mk.injEq] at hv
   obtain ⟨rfl, rfl⟩ := hv
   simp [execOp, hn.ev hx, hn.ev hy, Instr.lookup, run_underlying hm, Result.andThen, hget, run_checkKey hd (hKe.key k), run_findKey hd hf, hz]
  | some q =>
   rw [ha] at hf hv
   simp only [Option.map_some, Prod.mk.injEq] at hv
   obtain ⟨rfl, rfl⟩ := hv
   simp [execOp, hn.ev hx, hn.ev hy, Instr.lookup, run_underlying hm, Result.andThen, hget, run_checkKey hd (hKe.key k), run_findKey hd hf]
theorem ob_mapUpdate [hK : KC K m0 L] {κ : Type} [DecidableEq κ] {enc : κ → Value} {d : TypeDesc} {t kt et : TypeId} {x y z : Operand} {k : κ} {g : Nat} {v : Value} {es : List (κ × Value)} (hKe : Keys d enc) (hx : ev us ch pre T x = some (.map (some g))) (hy : ev us ch pre T y = some (enc k)) (hz : ev us ch pre T z = some v)
  (hm : P.underlying t = some (.map kt et)) (hd : P.underlying kt = some d) :
  ObT P K us ch pre T (fun _ => .map (.map (some g)) (zAL enc es)) (fun _ => .map (.map (some g)) (zAL enc (zBH k v es))) ⟨none, .mapUpdate t x y z, ty, pos, af, gd⟩ (.ex MP.any) := fun σ w m hk hr hkn => by
 obtain ⟨g', ents, clock, e1, hh, he, hmp, hsp⟩ := hr
 injection e1 with e1; injection e1 with e1; subst e1
 obtain ⟨ents', clock', hrun, he', hsp'⟩ := zEY (P := P) hKe hm hd hh he hsp k v
 have hx' : (execOp (zy σ) ⟨none, .mapUpdate t x y z, ty, pos, af, gd⟩).run P w = .ok .skip { w with heap := w.heap.setIfInBounds g (.map ents' clock') } := by
  simp only [execOp, hkn.ev hx, hkn.ev hy, hkn.ev hz]
  rw [Sem.run_bind, hrun]; rfl
 unfold Does; rw [hx']
 exact ⟨m, touch_map (hK.agree hk) rfl hh hmp he' hsp', _, rfl, trivial⟩
theorem ob_slnil [KC K m0 L] {t e yt : TypeId} {x : Operand} {o : Option Addr} {n c n' c' : Nat} (hx : ev us ch pre T x = some (.slice o n c)) (ht : P.underlying t = some (.slice e)) :
  Ob P K us ch pre T ⟨dst, .binOp .eql t x (.const (.slice none n' c')) yt, ty, pos, af, gd⟩ (.eq (.bool o.isNone)) := Zl hx (y := .const (.slice none n' c')) rfl fun w => by
 rw [Sem.run_bind, show (eqGuard .eql t x (.const (.slice none n' c')) (.slice o n c) (.slice none n' c')).run P w = .ok () w from by simp [eqGuard]]
 exact Go.Lib.run_eql_slice_nil w t e o n c n' c' ht
theorem ob_loadMXS [hK : KC K m0 L] {α : Type} {R : Mem → List Value → α → Prop} [hR : RepR R] {t e : TypeId} {x : Operand} {i off k j g n cap size : Nat} {l : List α} {a : α} {φ : MP} (hx : ev us ch pre T x = some (.pointer (some ((⟨g, 0, none⟩ : Addr).add (i * size + off)))))
  (hL : L[j]? = some (.mrowx (.slice (some ⟨g, 0, none⟩) n cap) n size e (MP.reads R size l))) (ha : ∀ w, (isAgg t).run P w = .ok true w) (hz : ∀ w, (sizeOf t).run P w = .ok k w) (hi : l[i]? = some a) (ho : off + k ≤ size) (hk0 : 0 < size) (hsel : ∀ m vs, R m vs a → φ.p m (.agg ((vs.drop off).take k).toArray)) :
  Ob P K us ch pre T ⟨dst, .load t x, ty, pos, af, gd⟩ (.ex φ) := fun σ w m hk hn => by
 obtain ⟨xs, ⟨hlen, o, cap', e1, h1, h2, h3⟩, hp⟩ := hK.at_ hk hL
 injection e1 with e1 e2 e3; subst e1; subst e3
 rw [MP.reads_p] at hp
 obtain ⟨q1, q2⟩ := hp.nth hi
 have hil : i < l.length := (List.getElem?_eq_some_iff.1 hi).1
 have hln := hp.len
 have hmul : (i + 1) * size ≤ l.length * size := Nat.mul_le_mul_right _ hil
 rw [Nat.succ_mul] at hmul
 rcases h3 with h3 | ⟨g', cur, e4, hh, h4, h5, h6⟩
 ·subst h3
  obtain rfl : n = 0 := by omega
  rw [hln] at hlen; omega
 ·injection e4 with e4; injection e4 with e4; subst e4
  have hl := Z4 (P := P) (w := w) (a := (⟨g, 0, none⟩ : Addr).add (i * size + off)) (vs := (((xs.drop (i * size)).take size).drop off).take k) fun q v ek => by
   rw [zAs]
   rw [List.getElem?_take, List.getElem?_drop, List.getElem?_take, List.getElem?_drop] at ek
   split at ek
   ·split at ek
    ·rw [← h5, List.getElem?_take] at ek
     split at ek
     ·have e5 : (⟨g, 0, none⟩ : Addr).add (i * size + off + q) = ⟨g, i * size + off + q, none⟩ := by unfold Addr.add; split <;> simp_all
      rw [e5]; unfold World.cell?; simp only [hh]; rw [← Nat.add_assoc] at ek; simpa using ek
     ·cases ek
    ·cases ek
   ·cases ek
  rw [show ((((xs.drop (i * size)).take size).drop off).take k).length = k by rw [List.length_take, List.length_drop, q1]; omega] at hl
  have hrun : (execOp (zy σ) ⟨dst, .load t x, ty, pos, af, gd⟩).run P w = .ok (.value (.agg ((((xs.drop (i * size)).take size).drop off).take k).toArray)) w := by
   simp [execOp, hn.ev hx, Instr.loadAt, Instr.sureAddr, loadVar, ha, hz, hl]
  unfold Does; rw [hrun]
  exact ⟨m, ExtG.refl _ (hK.agree hk), hsel m _ q2⟩
end
theorem MP.made_some {n size : Nat} {e : TypeId} {ψ : MP} {w : World} {m : Mem} {o : Option Addr} {c : Nat} (h : (Res.mrowx (.slice o n c) n size e ψ).holds w m) (h0 : 0 < n) : ∃ g, o = some ⟨g, 0, none⟩ := by
 obtain ⟨o', cap, e1, h1, h2, h3⟩ := Res.mrowx_val h
 injection e1 with e1 e2 e3; subst e1
 exact h3 h0
theorem Sl.none_nil {α : Type} {R : Mem → List Value → α → Prop} {sz : Nat} {m : Mem} {n cap : Nat} {xs : List α} (h : Sl R sz m none n cap xs) : xs = [] := by
 cases xs with
 | nil => rfl
 | cons x xs => obtain ⟨p, vs, e, -⟩ := h.at_ 0 x rfl; cases e
end Go.Proofs.Ytnppknioifgdfaa
namespace Go.Proofs.Ytnppknioifgdfaa
set_option linter.all false
open Go.RowKit Go.MapKept
section
variable {κ α : Type} {R : Mem → List Value → α → Prop} {ek : κ → Value} {m m' : Mem} {es : List (κ × Value)} {l : List (κ × α)}
end
section
variable {P : Program} {K : World → Mem → Prop} {m0 : Mem} {L : List Res} {us : List Nat} {ch : List (Nat × Bool)} {pre : List Ent} {T : List (Nat × Value)}
variable {dst : Option Nat} {ty : TypeId} {pos : String} {af : Array Edge} {gd : Option (Nat × Bool)}
open Classical in
end
end Go.Proofs.Ytnppknioifgdfaa
namespace Go.Proofs.Ytnppknioifgdfaa
set_option linter.all false
open Go.RowKit Go.MapKept
def zFB {κ α : Type} (f : α → Value) (l : List (κ × α)) : List (κ × Value) := l.map fun p => (p.1, f p.2)
theorem encW_look {κ α : Type} [DecidableEq κ] (f : α → Value) (k : κ) : ∀ l : List (κ × α), z5 k (zFB f l) = (z5 k l).map f
 | [] => rfl
 | (k', x) :: l => by
  have ih := encW_look f k l
  simp only [zFB, List.map_cons, z5] at ih ⊢
  split
  ·rfl
  ·exact ih
theorem encW_set {κ α : Type} [DecidableEq κ] (f : α → Value) (k : κ) (x : α) : ∀ l : List (κ × α), zBH k (f x) (zFB f l) = zFB f (zBH k x l)
 | [] => rfl
 | (k', y) :: l => by
  have ih := encW_set f k x l
  simp only [zFB, List.map_cons, zBH] at ih ⊢
  split
  ·rfl
  ·rw [List.map_cons, ih]
section
variable {P : Program} {K : World → Mem → Prop} {m0 : Mem} {L : List Res} {us : List Nat} {ch : List (Nat × Bool)} {pre : List Ent} {T : List (Nat × Value)}
variable {dst : Option Nat} {ty : TypeId} {pos : String} {af : Array Edge} {gd : Option (Nat × Bool)}
end
theorem zDu {κ α : Type} [DecidableEq κ] {k s : κ} {x : α} : ∀ {l : List (κ × α)}, z5 s (zBH k x l) = if s = k then some x else z5 s l
 | [] => by simp only [zBH, z5]
 | (k', y) :: l => by
  have ih := zDu (k := k) (s := s) (x := x) (l := l)
  simp only [zBH]
  by_cases e : k = k'
  ·subst e; simp only [if_true, z5]
   by_cases h : s = k
   ·simp [h]
   ·simp [h]
  ·simp only [e, if_false, z5, ih]
   by_cases h : s = k
   ·subst h; simp [e]
   ·simp [h]
section
variable {P : Program} {K : World → Mem → Prop} {m0 : Mem} {L : List Res} {us : List Nat} {ch : List (Nat × Bool)} {pre : List Ent} {T : List (Nat × Value)}
variable {dst : Option Nat} {ty : TypeId} {pos : String} {af : Array Edge} {gd : Option (Nat × Bool)}
theorem append_touchW {w : World} {m : Mem} {t ty e : TypeId} {i : TypeInfo} {z : Value} {size bytes n k c : Nat} {v : Value} {A : Option Addr} {olds news : List Value} (ht : P.underlying t = some (.slice e)) (hi : P.info? e = some i) (hz : i.zero = some z)
  (hsize : i.size = size) (hby : i.bytes = bytes) (hzs : z.cells.size = size) (ha : Agree w m) (hr : (Res.mrow v n size e olds).holds w m)
  (hx : RowAt m A news) (hl : news.length = k * size) (hsz : 0 < size) (hk : 0 < k) (h1 : ∀ u ∈ news, u.oneCell' = true) (h63 : n + k ≤ maxLen) (hbytes : (n + k) * bytes ≤ 140737488355328) :
  ∃ o cap w', (Builtin.append_ #[t, t] ty #[v, .slice A k c]).run P w = .ok (.slice o (n + k) cap) w' ∧ ZR (.mrow v n size e olds) (.mrow (.slice o (n + k) cap) (n + k) size e (olds ++ news)) w m w' m ∧ n + k ≤ cap := by
 subst hsize; subst hby
 obtain ⟨hlo, o, cap, rfl, hnc, hcm, hr⟩ := hr
 have hlen : (olds ++ news).length = (n + k) * i.size := by rw [List.length_append, hlo, hl, Nat.add_mul]
 have hne : news ≠ [] := fun hh => by
  rw [hh, List.length_nil] at hl
  have := Nat.mul_pos hk hsz; omega
 obtain ⟨ad, rfl, hcell⟩ : ∃ p, A = some p ∧ CellsAt m p news := by
  rcases hx with h | h
  ·exact absurd h hne
  ·exact h
 have hnews : ∀ j u, news[j]? = some u → w.cell? (ad.add j) = some u := fun j u e => ZM ha hcell e
 have fresh : ∀ old, old < n + k → ZR .free (.mrow (.slice (some ⟨w.heap.size, 0, none⟩) (n + k) (grownCap w (n + k) old e)) (n + k) i.size e (olds ++ news)) w m
   (w.drew.alloc (.cells (olds.toArray ++ news.toArray ++ Builtin.zeroCells z.cells (grownCap w (n + k) old e - (n + k))) e)) m := fun old ho => by
  have hge := grownCap_ge w (n + k) old e
  refine mrow_new ha hlen hge (grownCap_le_maxLen w (n + k) old e h63) ?_ ?_ (zEO w _) (Nat.le_refl _) (heap_alloc_new w.drew _)
  ·simp only [Array.size_append, List.size_toArray, size_zeroCells, hzs, hlo, hl, ← Nat.add_mul]
   congr 1; omega
  ·simp only [Array.toList_append, List.append_assoc]
   rw [← List.append_assoc, ← hlen]
   exact List.take_left
 by_cases hroom : n + k ≤ cap
 ·rcases hr with rfl | ⟨g, cur, rfl, hh, hcs, htk, hout⟩
  ·omega
  ·have hfit : n * i.size + news.length ≤ cur.size := by rw [hl, hcs, ← Nat.add_mul]; exact Nat.mul_le_mul_right _ hroom
   have hrun := run_append_room (P := P) w t ty e i ht hi g n cap cur hh ad k c news hl hnews h1 hroom hfit
   have hh' := setRow_heap w g cur (cur.toList.take (n * i.size) ++ news ++ cur.toList.drop (n * i.size + news.length)).toArray e (0, 0) hh
   have htk' : (cur.toList.take (n * i.size) ++ news ++ cur.toList.drop (n * i.size + news.length)).toArray.toList.take ((n + k) * i.size) = olds ++ news := by
    rw [htk, ← hlen]; exact List.take_left
   have hag : Agree (w.setRow g (cur.toList.take (n * i.size) ++ news ++ cur.toList.drop (n * i.size + news.length)).toArray) m := ⟨fun b o u hu => by
    have hb : b ≠ g := fun e => by subst e; rw [hout o] at hu; cases hu
    rw [World.cell?_of_block (setRow_other w g b _ hb)]
    exact ha.cell b o u hu, fun b es e => by
    have h1 := ha.map b es e
    have hb : b ≠ g := fun e => by subst e; rw [hh] at h1; cases h1
    exact (setRow_other w g b _ hb).trans h1⟩
   obtain ⟨c', rfl⟩ : ∃ c', cap = c' + 1 := ⟨cap - 1, by omega⟩
   refine ⟨_, _, _, hrun, ⟨⟨rfl, rfl, rfl, by simp [World.setRow], fun b _ hb => setRow_other w g b _ (fun e => hb (by simp [Res.blocks, Z3, e])), hag, MLe.refl _, fun b _ hb => ⟨rfl, rfl⟩⟩,
    ⟨hlen, _, c' + 1, rfl, hroom, hcm, .inr ⟨g, _, rfl, hh', ?_, htk', hout⟩⟩, by simp [Res.blocks, Z3], fun g' hg => .inl hg⟩, hroom⟩
   simp only [List.size_toArray, List.length_append, List.length_take, List.length_drop, Array.length_toList]; omega
 ·have hge := grownCap_ge w (n + k) cap e
  have hgrow : ∀ b : Addr, (∀ j u, olds[j]? = some u → w.cell? (b.add j) = some u) → (Builtin.append_ #[t, t] ty #[.slice (some b) n cap, .slice (some ad) k c]).run P w = .ok (.slice (some ⟨w.heap.size, 0, none⟩) (n + k) (grownCap w (n + k) cap e)) (w.drew.alloc (.cells (olds.toArray ++ news.toArray ++ Builtin.zeroCells z.cells (grownCap w (n + k) cap e - (n + k))) e)) := fun b hb =>
   run_append_grow (P := P) w t ty e i z ht hi hz b n cap olds hlo hb ad k c news hl hnews (by omega) (by simp only [maxLen] at h63; omega) (growslice_fits (by omega) hbytes)
  rcases hr with rfl | ⟨g, cur, rfl, hh, hcs, htk, hout⟩
  ·obtain rfl : n = 0 := by omega
   have ho : olds = [] := List.eq_nil_of_length_eq_zero (by simpa using hlo)
   subst ho
   cases o with
   | none =>
    have hrun := run_append_nil (P := P) w t ty e i z ht hi hz ad k c news hl hnews (by omega) (by simp only [maxLen] at h63; omega) (by simp only [Nat.zero_add] at hbytes; omega)
    have hf := fresh 0 (by omega)
    simp only [Nat.zero_add, List.nil_append, Array.empty_append] at hf hge ⊢
    exact ⟨_, _, _, hrun, Zv hf (by simp [Res.blocks]), hge⟩
   | some b => exact ⟨_, _, _, hgrow b (by simp), Zv (fresh 0 (by omega)) (by simp [Res.blocks]), hge⟩
  ·refine ⟨_, _, _, hgrow ⟨g, 0, none⟩ (fun j u e => ?_), Zv (fresh cap (by omega)) (by simp [Res.blocks]), hge⟩
   rw [← htk] at e
   rw [List.getElem?_take] at e
   split at e
   ·exact zCM (cs := cur.toList) (fz := (0, 0)) (by simpa using hh) e
   ·cases e
theorem ZO [hK : KC K m0 L] {t e : TypeId} {sz : Nat} {x y : Operand} {vs us' : List Value} {z : Value} (hx : ev us ch pre T x = some (.agg vs.toArray)) (hy : ev us ch pre T y = some (.agg us'.toArray)) (ht : P.underlying t = some (.slice e))
  (hsz : ∀ w, (sizeOf e).run P w = .ok sz w) (hz : ∀ w, (zeroValue e).run P w = .ok z w) (hl : Nat.beq vs.length sz = true) (hl2 : Nat.beq us'.length sz = true) (hzs : Nat.beq z.cells.size sz = true) (hn : Nat.ble (2 * sz) 16777216 = true) (h0 : Nat.beq (2 * sz) 0 = false) :
  Ob P K us ch pre T ⟨dst, .buildSlice t 2 #[(0, x), (1, y)], ty, pos, af, gd⟩ (.ex (MP.row 2 (vs ++ us'))) := by
 rw [Nat.beq_eq] at hl hl2
 refine Zb (xs := [(0, x), (1, y)]) (vs := [(0, .agg vs.toArray), (1, .agg us'.toArray)]) (zero := z.cells.toList) (EvPs.cons hx (EvPs.cons hy .nil)) ht hsz hz rfl hn h0 ?_
 generalize hZ : ((List.range (2 * sz)).map fun i => z.cells.toList.toArray[i % z.cells.toList.toArray.size]!) = Z
 have hlen : Z.length = 2 * sz := by rw [← hZ]; simp
 have hc : (Value.agg vs.toArray).cells.toList = vs := rfl
 have hc2 : (Value.agg us'.toArray).cells.toList = us' := rfl
 simp only [zDP, hc, hc2]
 have e1 : Nat.beq vs.length sz = true := by rw [Nat.beq_eq]; exact hl
 have e1' : Nat.beq us'.length sz = true := by rw [Nat.beq_eq]; exact hl2
 have e2 : Nat.ble (0 * sz + vs.length) Z.length = true := by rw [hlen]; exact Nat.ble_eq_true_of_le (by omega)
 have e3 : Nat.ble (1 * sz + us'.length) (putL Z (0 * sz) vs).length = true := by rw [zEq, hlen]; exact Nat.ble_eq_true_of_le (by omega)
 rw [e1, e1', e2]
 simp only [Bool.not_true, Bool.or_self, cond_false]
 rw [e3]
 simp only [Bool.not_true, Bool.or_self, cond_false]
 congr 1
 apply List.ext_getElem?
 intro i
 rw [zCz _ _ _ _ (by rw [zEq, hlen]; omega), zCz _ _ _ _ (by rw [hlen]; omega)]
 by_cases h2 : 1 * sz ≤ i ∧ i < 1 * sz + us'.length
 ·rw [if_pos h2, List.getElem?_append_right (by omega)]; congr 1; omega
 ·rw [if_neg h2]
  by_cases h1 : 0 * sz ≤ i ∧ i < 0 * sz + vs.length
  ·rw [if_pos h1, List.getElem?_append_left (by omega)]; congr 1; omega
  ·rw [if_neg h1, List.getElem?_eq_none (by rw [hlen]; omega), List.getElem?_eq_none (by simp only [List.length_append]; omega)]
end
end Go.Proofs.Ytnppknioifgdfaa
namespace Go.Proofs.Ytnppknioifgdfaa
open Go.Proofs.Try
set_option linter.all false
set_option maxRecDepth 4000
open Go.RowKit
theorem zw : Try.prog.follows .mixedOrders = true := by kernel_rfl
def ZF (t : Cd) : List Cd := t.kids ++ t.arms.map Ca.body
theorem zFP (t : Cd) : (ZF t).length = t.kids.length + t.arms.length := by simp [ZF]
theorem partsC_kid {t : Cd} {i : Nat} {u : Cd} (h : t.kids[i]? = some u) : (ZF t)[i]? = some u := by
 unfold ZF; rw [List.getElem?_append_left (List.getElem?_eq_some_iff.1 h).1]; exact h
theorem partsC_arm {t : Cd} {i : Nat} {a : Ca} (h : t.arms[i]? = some a) : (ZF t)[t.kids.length + i]? = some a.body := by
 unfold ZF; rw [List.getElem?_append_right (by omega)]; simp [h]
theorem zEL {t u : Cd} (h : u ∈ ZF t) : u ∈ t.kids ∨ ∃ a ∈ t.arms, a.body = u := by
 unfold ZF at h
 rcases List.mem_append.1 h with h | h
 ·exact .inl h
 ·obtain ⟨a, ha, e⟩ := List.mem_map.1 h; exact .inr ⟨a, ha, e⟩
def CPartY (t : Cd) (i : Nat) (m : Mem) (args : List Value) : Prop := ∃ (u : Cd) (vs : List Value), args = [.agg vs.toArray] ∧ CdR m u vs ∧ (ZF t)[i]? = some u
theorem zAl {α : Type} {l r : List α} {k : Nat} {x : α} (h : l.drop k = x :: r) : l[k]? = some x := by
 have := congrArg (·[0]?) h
 simpa using this
mutual
/-- How many pieces. -/
def zBO : Cd → Nat
 | ⟨_, _, _, _, ks, az⟩ => 1 + zEk ks + zCo az
def zEk : List Cd → Nat
 | [] => 0
 | t :: ts => zBO t + zEk ts
def zCo : List Ca → Nat
 | [] => 0
 | ⟨_, _, _, b⟩ :: ts => zBO b + zCo ts
end
theorem sizeC_eq (t : Cd) : zBO t = 1 + zEk t.kids + zCo t.arms := by obtain ⟨k, s, p, n, ks, az⟩ := t; rw [zBO]; rfl
theorem sizeAs_cons (a : Ca) (ts : List Ca) : zCo (a :: ts) = zBO a.body + zCo ts := by obtain ⟨s, l, tl, b⟩ := a; rw [zCo]; rfl
theorem zEV : ∀ l : List Cd, zEk l = (l.map zBO).sum
 | [] => rfl
 | t :: ts => by rw [zEk, List.map_cons, List.sum_cons, zEV ts]
theorem zEW : ∀ l : List Ca, zCo l = ((l.map Ca.body).map zBO).sum
 | [] => rfl
 | a :: ts => by rw [sizeAs_cons, List.map_cons, List.map_cons, List.sum_cons, zEW ts]
theorem sizeC_parts (t : Cd) : zBO t = 1 + ((ZF t).map zBO).sum := by rw [sizeC_eq, zEV, zEW]; unfold ZF; rw [List.map_append, List.sum_append]; omega
theorem zDq {α : Type} (f : α → Nat) : ∀ (l : List α) (i : Nat), ((l.take i).map f).sum ≤ (l.map f).sum
 | [], i => by simp
 | x :: l, 0 => by simp
 | x :: l, i + 1 => by simp only [List.take_succ_cons, List.map_cons, List.sum_cons]; have := zDq f l i; omega
theorem sum_take_succ {α : Type} (f : α → Nat) {l : List α} {i : Nat} {x : α} (h : l[i]? = some x) : ((l.take (i + 1)).map f).sum = ((l.take i).map f).sum + f x := by
 rw [List.take_succ, h]; simp
theorem zEM {t u : Cd} (h : u ∈ ZF t) : zBO u + 1 ≤ zBO t := by
 rw [sizeC_parts t]
 obtain ⟨i, hi⟩ := List.mem_iff_getElem?.1 h
 have h1 := sum_take_succ zBO hi; have h2 := zDq zBO (ZF t) (i + 1)
 omega
def MP.partsW (t : Cd) : MP := MP.mem (fun y : Nat × List Value => .func (.func 62) #[] #[.pointer (some ⟨y.1, 0, none⟩)]) (fun y m => CellsAt m ⟨y.1, 0, none⟩ y.2 ∧ CdR m t y.2) fun hm h => ⟨h.1.mono hm, h.2.mono hm⟩
set_option maxHeartbeats 400000 in
theorem parts_c {w : World} {m : Mem} {t : Cd} {vs_t : List Value} (hA : Agree w m) (h_t : CdR m t vs_t) : FnV Try.prog 43 #[.agg vs_t.toArray] w m (fun _ m v => (MP.partsW t).p m v) := by
 obtain ⟨⟨oK_t, cK_t, oA_t, cA_t⟩, rfl, ⟨hik_t, hin_t⟩, hkk_t, haa_t⟩ := h_t.open_
 dsimp only at hkk_t haa_t
 have hbg_t := hkk_t.big; have hcp_t := hkk_t.cap; have hbh_t := haa_t.big; have hcq_t := haa_t.cap
 refine zZ (vs := [_]) func43 rfl rfl rfl fun a0 hfr0 => ?_
 have hst0 := zW hA (zg [] _ w m)
 have hM : MLe m m := MLe.refl m
 refine zB fun _ hK1 => ?_
 refine rp0 hst0 hfr0 (.cons rfl (zr rfl rfl) <| .cons rfl (zD rfl) <| .nil) fun a1 w1 m1 hst1 hle1 hk1 => ?_
 have hfr1 := hk1.fr (.nil)
 obtain ⟨g9, e2, hg9⟩ := hk1.ex 1 rfl
 replace hfr1 := hfr1.cons e2
 replace h_t := h_t.mono hle1
 clear hst0 hfr0 hk1
 refine hK1 _ _ ?_
 refine zB fun _ hK3 => ?_
 refine rp0 hst1 hfr1 (.cons rfl (ZN (.cons rfl <| .nil)) <| .cons rfl (zD rfl) <| .nil) fun a2 w2 m2 hst2 hle2 hk2 => ?_
 have hfr2 := hk2.fr (.n 2 <| .nil)
 replace h_t := h_t.mono hle2
 replace hg9 := hg9.mono hle2
 clear hst1 hfr1 hk2
 refine hK3 _ _ ?_
 refine zN ?_
 repeat (with_reducible first | refine zH ?_ | refine zG ?_)
 exact zO hst2 hfr2 rfl (.tmp rfl <| .nil) (⟨(g9, _), rfl, hg9, h_t⟩)
set_option maxHeartbeats 800000 in
theorem parts1_c {w : World} {m : Mem} {l : Nat} {bs : List Nat} {Ψ : Nat → World → Mem → Prop} {Ψx : World → Mem → Prop} {mY : Mem} {q : Addr} {vs_t : List Value} {t : Cd} (hA : Agree w m) (hq : CellsAt m q vs_t) (h_t : CdR m t vs_t) (hmY : MLe mY m) (hbs : bs.Nodup) (hp : (Res.pack bs (Ψ 0)).holds w m) (hy : ∀ i, i < (ZF t).length → YieldW Try.prog l bs mY (CPartY t i) (Ψ i) (Ψ (i + 1)) Ψx) : FnG Try.prog 62 #[.func (.yield l) #[] #[], .pointer (some q)] bs w m (fun w m _ => (Res.pack bs fun w m => Ψ (ZF t).length w m ∨ Ψx w m).holds w m) := by
 obtain ⟨⟨oK_t, cK_t, oA_t, cA_t⟩, rfl, ⟨hik_t, hin_t⟩, hkk_t, haa_t⟩ := h_t.open_
 dsimp only at hkk_t haa_t
 have hbg_t := hkk_t.big; have hcp_t := hkk_t.cap; have hbh_t := haa_t.big; have hcq_t := haa_t.cap
 refine zZ (vs := [_, _]) func62 rfl rfl rfl fun a0 hfr0 => ?_
 have hst0 := zW hA (zAN hp hbs)
 have hM : MLe m m := MLe.refl m
 rw [zFP] at hy
 rw [zFP]
 refine zB fun _ hK1 => ?_
 refine zB fun _ hK2 => ?_
 refine rp0 hst0 hfr0 (.cons rfl (zA (off := 4) rfl underlying25 rfl rfl sizeOf22 rfl) <| .cons rfl (zJ rfl hq isAgg22 rfl) <| .cons rfl (zl rfl underlying22) <| .cons rfl (zC rfl) <| .nil) fun a1 w1 m1 hst1 hle1 hk1 => ?_
 have hfr1 := hk1.fr (.o 0 <| .o 1 <| .n 8 <| .n 9 <| .n 10 <| .nil)
 replace hq := hq.mono hle1
 replace hkk_t := hkk_t.mono hle1
 replace haa_t := haa_t.mono hle1
 replace hM := hM.trans hle1
 clear hst0 hfr0 hk1
 refine hK2 _ _ ?_
 refine zT ?_
 refine zx (T := [(0, _), (1, _), (8, _), (9, _)]) (fun (y : Nat) => ([(10, .int .i64 (y : Int))] : List (Nat × Value))) (fun y => [.pack bs (Ψ y)]) (fun (y : Nat) m => (y ≤ t.kids.length)) (fun y => t.kids.length - y) (0) ⟨hst1, MLe.refl _, hfr1.sub (.c <| .c <| .c <| .c <| .c <| .nil), Nat.zero_le _⟩ fun y a2 w2 m2 hh2 => ?_
 have hst2 := hh2.st; have hle2 := hh2.le; have hfr2 := hh2.fr; have hrel := hh2.rel; clear hh2
 replace hq := hq.mono hle2
 replace hkk_t := hkk_t.mono hle2
 replace haa_t := haa_t.mono hle2
 clear hst1 hfr1
 replace hM := hM.trans hle2
 have hyn := hrel
 have hlh2 := hle2
 refine zB fun _ hK4 => ?_
 refine rp0 hst2 hfr2 (.cons rfl (ZA rfl rfl) <| .nil) fun a3 w3 m3 hst3 hle3 hk3 => ?_
 have hfr3 := hk3.fr (.o 10 <| .o 0 <| .o 1 <| .o 8 <| .o 9 <| .n 11 <| .nil)
 replace hq := hq.mono hle3
 replace hkk_t := hkk_t.mono hle3
 replace haa_t := haa_t.mono hle3
 have hlh3 := hlh2.trans hle3
 replace hM := hM.trans hle3
 clear hst2 hfr2 hk3
 refine hK4 _ _ ?_
 refine zB fun _ hK5 => ?_
 refine zE hfr3 rfl rfl (fun hb11 => ?_) (fun hb11 => ?_)
 ·try simp only [nqs] at hb11
  refine zR ?_
  refine hK5 _ _ ?_
  refine zB fun _ hK6 => ?_
  refine zT ?_
  refine zB fun _ hK7 => ?_
  obtain ⟨p8, vs8, x8, ho8, hd8, hm_x8, ht8, hcv8, hl8, hv8⟩ := hkk_t.nth (k := y) (by omega)
  cases ho8
  obtain ⟨⟨oK8, cK8, oA8, cA8⟩, rfl, ⟨hik8, hin8⟩, hkk8, haa8⟩ := hv8.open_
  dsimp only at hkk8 haa8
  have hbg8 := hkk8.big; have hcp8 := hkk8.cap; have hbh8 := haa8.big; have hcq8 := haa8.cap
  replace hst3 := hst3.more (r := .free) trivial List.nodup_nil (by simp [Res.blocks])
  refine ra0 (tch := [(2, 1, (fun v => .blk v _)), (3, 1, (fun v => .blk v _))]) hst3 hfr3 (.cons rfl (zI (k := y) rfl rfl underlying22 sizeOf25 rfl (by omega)) <| .cons rfl (zY rfl hcv8 isAgg25 sizeOf25 rfl rfl) <| .consT rfl rfl (fun _ => rfl) rfl (zP zeroValue25 rfl) <| .consT rfl rfl (fun _ => rfl) rfl (zb 4 rfl rfl rfl fun y4 => za rfl rfl rfl rfl rfl sizeOf25 rfl rfl hv8.one) <| .nil) fun a4 w4 m4 hst4 hle4 hk4 => ?_
  have hfr4 := hk4.fr (.o 10 <| .o 0 <| .o 1 <| .o 8 <| .o 9 <| .nil)
  obtain ⟨g9, e9, _⟩ := hk4.ex 4 rfl
  replace hfr4 := hfr4.cons e9
  replace hst4 := hst4.fin (L' := [_, _]) (.cons e9 <| .cons e9 <| .nil)
  try simp only [List.take_succ_cons, List.take_zero, List.drop_succ_cons, List.drop_zero, List.cons_append, List.nil_append, List.append_nil, List.length_cons, List.length_nil, Nat.zero_add, Nat.reduceAdd] at hst4
  clear hst3 hfr3 hk4
  refine hK7 _ _ ?_
  refine zB fun _ hK10 => ?_
  replace hv8 := hv8.mono hle4
  replace hM := hM.trans hle4
  refine ra0 (tch := [(2, 0, (fun v => .pack bs _))]) hst4 hfr4 (.cons rfl (zC rfl) <| .cons rfl (zh (j := 1) rfl rfl isAgg25 sizeOf25 rfl) <| .consT rfl rfl (fun _ => rfl) rfl (zEp rfl (.cons rfl <| .nil) (hy (y) (by omega)) (hmY.trans hM) hbs (fun w m hK => ⟨x8, _, rfl, hv8.mono (KC.le hK), partsC_kid (zAl hd8)⟩)) <| .consN 16 notV rfl rfl (zDY rfl rfl) <| .nil) fun a5 w5 m5 hst5 hle5 hk5 => ?_
  have hfr5 := hk5.fr (.o 10 <| .o 0 <| .o 1 <| .o 8 <| .o 9 <| .nil)
  obtain ⟨b16, e11, _⟩ := hk5.ex 16 rfl
  replace hfr5 := hfr5.cons (hk5.made 17 rfl e11)
  replace hst5 := hst5.fin (L' := [_, _]) (.cons e11 <| .nil)
  clear hst4 hfr4 hk5
  refine hK10 _ _ ?_
  refine zE hfr5 rfl rfl (fun hb17 => ?_) (fun hb17 => ?_)
  ·try simp only [nqs] at hb17
   have hst9 := hst5.weaken (k := 0) (r' := .pack bs (Ψx)) rfl rfl (fun h => ZK h fun w m h => h.elim (fun h => by have h1 : Value.bool b16 = Value.bool true := h.1; injection h1 with h1; rw [h1] at hb17; exact absurd hb17 (by decide)) (fun h => h.2))
   simp only [List.set_cons_zero] at hst9
   clear hst5; have hst5 := hst9; clear hst9
   refine zN ?_
   repeat (with_reducible first | refine zH ?_ | refine zG ?_)
   exact zO hst5 hfr5 rfl (.nil) (ZK (hst5.loc.at_ (k := 0) rfl) fun w m h => .inr h)
  ·try simp only [nqs] at hb17
   have hst9 := hst5.weaken (k := 0) (r' := .pack bs (Ψ (y + 1))) rfl rfl (fun h => ZK h fun w m h => h.elim (fun h => h.2) (fun h => by have h1 : Value.bool b16 = Value.bool false := h.1; injection h1 with h1; rw [h1] at hb17; exact absurd hb17 (by decide)))
   simp only [List.set_cons_zero] at hst9
   clear hst5; have hst5 := hst9; clear hst9
   refine zR ?_
   refine hK6 _ _ ?_
   refine rp0 hst5 hfr5 (.cons rfl (z6 rfl rfl ⟨by omega, by omega⟩) <| .cons rfl (zC rfl) <| .nil) fun a6 w6 m6 hst6 hle6 hk6 => ?_
   have hfr6 := hk6.fr (.o 0 <| .o 1 <| .o 8 <| .o 9 <| .n 10 <| .nil)
   clear hst5 hfr5 hk6
   have hst6 := hst6.take 1
   have zq1 := hle5.trans hle6
   have zq2 := hle4.trans zq1
   have hlh6 := hlh3.trans zq2
   exact ⟨y + 1, m6, by show t.kids.length - (y + 1) < t.kids.length - y; omega, ⟨hst6, hlh6, hfr6.sub (.c <| .c <| .c <| .c <| .c <| .nil), by show y + 1 ≤ t.kids.length; omega⟩⟩
 ·try simp only [nqs] at hb11
  have hge : y = t.kids.length := by omega
  subst hge
  refine zv ?_
  refine hK1 _ _ ?_
  refine zB fun _ hK13 => ?_
  refine rp0 hst3 hfr3 (.cons rfl (zA (off := 5) rfl underlying25 rfl rfl sizeOf23 rfl) <| .cons rfl (zJ rfl hq isAgg23 rfl) <| .cons rfl (zl rfl underlying23) <| .cons rfl (zC rfl) <| .nil) fun a4 w4 m4 hst4 hle4 hk4 => ?_
  have hfr4 := hk4.fr (.o 10 <| .o 0 <| .n 20 <| .n 21 <| .n 22 <| .nil)
  clear hst3 hfr3 hk4
  refine hK13 _ _ ?_
  refine zT ?_
  have hlh4 := hlh3.trans hle4
  have hlq14 := hlh4
  refine zx (T := [(10, _), (0, _), (20, _), (21, _)]) (fun (y : Nat) => ([(22, .int .i64 (y : Int))] : List (Nat × Value))) (fun y => [.pack bs (Ψ (t.kids.length + y))]) (fun (y : Nat) m => (y ≤ t.arms.length)) (fun y => t.arms.length - y) (0) ⟨hst4, MLe.refl _, hfr4.sub (.c <| .c <| .c <| .c <| .c <| .nil), Nat.zero_le _⟩ fun y a5 w5 m5 hh5 => ?_
  have hst5 := hh5.st; have hle5 := hh5.le; have hfr5 := hh5.fr; have hrel := hh5.rel; clear hh5
  clear hst4 hfr4
  have hyn := hrel
  have hlh5 := hle5
  refine zB fun _ hK15 => ?_
  refine rp0 hst5 hfr5 (.cons rfl (ZA rfl rfl) <| .nil) fun a6 w6 m6 hst6 hle6 hk6 => ?_
  have hfr6 := hk6.fr (.o 22 <| .o 10 <| .o 0 <| .o 20 <| .o 21 <| .n 23 <| .nil)
  clear hst5 hfr5 hk6
  refine hK15 _ _ ?_
  refine zB fun _ hK16 => ?_
  refine zE hfr6 rfl rfl (fun hb23 => ?_) (fun hb23 => ?_)
  ·try simp only [nqs] at hb23
   refine zR ?_
   refine hK16 _ _ ?_
   refine zB fun _ hK17 => ?_
   refine zT ?_
   refine zB fun _ hK18 => ?_
   have zq3 := hle5.trans hle6
   have zq4 := hle4.trans zq3
   replace haa_t := haa_t.mono zq4
   obtain ⟨p19, vs19, x19, ho19, hd19, hm_x19, ht19, hcv19, hl19, hv19⟩ := haa_t.nth (k := y) (by omega)
   cases ho19
   obtain ⟨oV19, cV19, bs19, rfl, hva19, hbd19⟩ := hv19.open_
   have hbv19 := hva19.big; have hcv19_ := hva19.cap
   obtain ⟨⟨oK19b, cK19b, oA19b, cA19b⟩, rfl, ⟨hik19b, hin19b⟩, hkk19b, haa19b⟩ := hbd19.open_
   dsimp only at hkk19b haa19b
   have hbg19b := hkk19b.big; have hcp19b := hkk19b.cap; have hbh19b := haa19b.big; have hcq19b := haa19b.cap
   replace hst6 := hst6.more (r := .free) trivial List.nodup_nil (by simp [Res.blocks])
   refine ra0 (tch := [(2, 1, (fun v => .blk v _)), (3, 1, (fun v => .blk v _))]) hst6 hfr6 (.cons rfl (zI (k := y) rfl rfl underlying23 sizeOf47 rfl (by omega)) <| .cons rfl (zY rfl hcv19 isAgg47 sizeOf47 rfl rfl) <| .consT rfl rfl (fun _ => rfl) rfl (zP zeroValue47 rfl) <| .consT rfl rfl (fun _ => rfl) rfl (zb 6 rfl rfl rfl fun y6 => za rfl rfl rfl rfl rfl sizeOf47 rfl rfl hv19.one) <| .nil) fun a7 w7 m7 hst7 hle7 hk7 => ?_
   have hfr7 := hk7.fr (.o 22 <| .o 10 <| .o 0 <| .o 20 <| .o 21 <| .nil)
   obtain ⟨g20, e20, _⟩ := hk7.ex 6 rfl
   replace hfr7 := hfr7.cons e20
   replace hst7 := hst7.fin (L' := [_, _]) (.cons e20 <| .cons e20 <| .nil)
   try simp only [List.take_succ_cons, List.take_zero, List.drop_succ_cons, List.drop_zero, List.cons_append, List.nil_append, List.append_nil, List.length_cons, List.length_nil, Nat.zero_add, Nat.reduceAdd] at hst7
   clear hst6 hfr6 hk7
   refine hK18 _ _ ?_
   refine zB fun _ hK21 => ?_
   have zq5 := zq4.trans hle7
   replace hM := hM.trans zq5
   replace hbd19 := hbd19.mono hle7
   refine ra0 (tch := [(3, 0, (fun v => .pack bs _))]) hst7 hfr7 (.cons rfl (zC rfl) <| .cons rfl (zA (off := 3) rfl underlying47 rfl rfl sizeOf25 rfl) <| .cons rfl (zz (j := 1) rfl rfl isAgg25 sizeOf25 rfl rfl) <| .consT rfl rfl (fun _ => rfl) rfl (zEp rfl (.cons rfl <| .nil) (hy (t.kids.length + y) (by omega)) (hmY.trans hM) hbs (fun w m hK => ⟨x19.body, _, rfl, hbd19.mono (KC.le hK), partsC_arm (zAl hd19)⟩)) <| .consN 29 notV rfl rfl (zDY rfl rfl) <| .nil) fun a8 w8 m8 hst8 hle8 hk8 => ?_
   have hfr8 := hk8.fr (.o 22 <| .o 10 <| .o 0 <| .o 20 <| .o 21 <| .nil)
   obtain ⟨b29, e22, _⟩ := hk8.ex 29 rfl
   replace hfr8 := hfr8.cons (hk8.made 30 rfl e22)
   replace hst8 := hst8.fin (L' := [_, _]) (.cons e22 <| .nil)
   clear hst7 hfr7 hk8
   refine hK21 _ _ ?_
   refine zE hfr8 rfl rfl (fun hb30 => ?_) (fun hb30 => ?_)
   ·try simp only [nqs] at hb30
    have hst9 := hst8.weaken (k := 0) (r' := .pack bs (Ψx)) rfl rfl (fun h => ZK h fun w m h => h.elim (fun h => by have h1 : Value.bool b29 = Value.bool true := h.1; injection h1 with h1; rw [h1] at hb30; exact absurd hb30 (by decide)) (fun h => h.2))
    simp only [List.set_cons_zero] at hst9
    clear hst8; have hst8 := hst9; clear hst9
    refine zN ?_
    repeat (with_reducible first | refine zH ?_ | refine zG ?_)
    exact zO hst8 hfr8 rfl (.nil) (ZK (hst8.loc.at_ (k := 0) rfl) fun w m h => .inr h)
   ·try simp only [nqs] at hb30
    have hst9 := hst8.weaken (k := 0) (r' := .pack bs (Ψ (t.kids.length + (y + 1)))) rfl rfl (fun h => ZK h fun w m h => h.elim (fun h => h.2) (fun h => by have h1 : Value.bool b29 = Value.bool false := h.1; injection h1 with h1; rw [h1] at hb30; exact absurd hb30 (by decide)))
    simp only [List.set_cons_zero] at hst9
    clear hst8; have hst8 := hst9; clear hst9
    refine zR ?_
    refine hK17 _ _ ?_
    refine rp0 hst8 hfr8 (.cons rfl (z6 rfl rfl ⟨by omega, by omega⟩) <| .cons rfl (zC rfl) <| .nil) fun a9 w9 m9 hst9 hle9 hk9 => ?_
    have hfr9 := hk9.fr (.o 10 <| .o 0 <| .o 20 <| .o 21 <| .n 22 <| .nil)
    clear hst8 hfr8 hk9
    have hst9 := hst9.take 1
    have zq6 := hle8.trans hle9
    have zq7 := hle7.trans zq6
    have zq8 := hle6.trans zq7
    have hlh9 := hlh5.trans zq8
    exact ⟨y + 1, m9, by show t.arms.length - (y + 1) < t.arms.length - y; omega, ⟨hst9, hlh9, hfr9.sub (.c <| .c <| .c <| .c <| .c <| .nil), by show y + 1 ≤ t.arms.length; omega⟩⟩
  ·try simp only [nqs] at hb23
   have hge : y = t.arms.length := by omega
   subst hge
   refine zv ?_
   repeat (with_reducible first | refine Zi ?_ | refine ZT ?_ | refine ZD ?_)
   exact fn_end hst6 hfr6 rfl (.nil) (ZK (hst6.loc.at_ (k := 0) rfl) fun w m h => .inl h)
theorem zEU {m : Mem} {q : Addr} {vs : List Value} {t : Cd} (hq : CellsAt m q vs) (h_t : CdR m t vs) : IterC Try.prog 62 [.pointer (some q)] (ZF t).length (CPartY t) m :=
 fun l bs Ψ Ψx w m' hA hm hbs hp hy => parts1_c hA (hq.mono hm) (h_t.mono hm) hm hbs hp hy
end Go.Proofs.Ytnppknioifgdfaa
namespace Go.Proofs.Ytnppknioifgdfaa
set_option linter.all false
open Go.RowKit Go.MapKept
def FU {κ : Type} [DecidableEq κ] (S : Nat → Bool) : List (Nat × κ × Value) → κ → Option Value
 | [], _ => none
 | (i, k', v) :: r, k => if S i = true then (if k = k' then some v else FU S r k) else FU S r k
section
variable {κ : Type} [DecidableEq κ]
theorem zEF {S S' : Nat → Bool} : ∀ (ins : List (Nat × κ × Value)), (∀ x ∈ ins, S' x.1 = S x.1) → ∀ k, FU S' ins k = FU S ins k
 | [], _, _ => rfl
 | (i, k', v) :: r, h, k => by
  have h1 : S' i = S i := h _ (.head _)
  simp only [FU, h1, zEF r (fun x hx => h x (.tail _ hx)) k]
theorem FU_none {S : Nat → Bool} : ∀ (ins : List (Nat × κ × Value)), (∀ x ∈ ins, S x.1 = false) → ∀ k, FU S ins k = none
 | [], _, _ => rfl
 | (i, k', v) :: r, h, k => by
  have h1 : S i = false := h _ (.head _)
  simp only [FU, h1, FU_none r (fun x hx => h x (.tail _ hx)) k]; simp
theorem FU_all {S : Nat → Bool} : ∀ (ins : List (Nat × κ × Value)), (∀ x ∈ ins, S x.1 = true) → ∀ k, FU S ins k = z5 k (ins.map (·.2))
 | [], _, _ => rfl
 | (i, k', v) :: r, h, k => by
  have h1 : S i = true := h _ (.head _)
  simp only [FU, h1, FU_all r (fun x hx => h x (.tail _ hx)) k, List.map_cons, z5]; simp
theorem FU_step {S : Nat → Bool} {i : Nat} {k : κ} {v : Value} (hS : S i = false) : ∀ (ins : List (Nat × κ × Value)), (ins.map (·.1)).Nodup → (ins.map (·.2.1)).Nodup → (i, k, v) ∈ ins →
  ∀ q, FU (fun j => if j = i then true else S j) ins q = if q = k then some v else FU S ins q
 | [], _, _, h, _ => by cases h
 | (j, k', v') :: r, h1, h2, h, q => by
  simp only [List.map_cons, List.nodup_cons] at h1 h2
  by_cases hj : j = i
  ·subst hj
   have e : (j, k, v) = (j, k', v') := by
    cases h with
    | head => rfl
    | tail _ h => exact absurd (List.mem_map.2 ⟨_, h, rfl⟩) h1.1
   injection e with _ e; injection e with e1 e2; subst e1; subst e2
   have hr := zEF (S := S) (S' := fun x => if x = j then true else S x) r (fun x hx => if_neg (fun e => h1.1 (List.mem_map.2 ⟨x, hx, e⟩))) q
   simp only [FU, hr, hS]; simp
  ·have hm : (i, k, v) ∈ r := by
    cases h with
    | head => exact absurd rfl hj
    | tail _ h => exact h
   have ih := FU_step hS r h1.2 h2.2 hm q
   simp only [FU, ih, if_neg hj]
   by_cases hq : q = k
   ·subst hq
    have : ¬ q = k' := fun e => h2.1 (List.mem_map.2 ⟨_, hm, e⟩)
    simp [this]
   ·simp [hq]
end
def reach (l : List Oper) (o : Oper) (j : Nat) : Bool := ZG o j || o.after.toList.any fun e => Region.binds .any e && zAY l e.on j
theorem zFE {l : List Oper} {S : Nat → Bool} (hs : Shut l S) {o : Oper} {j : Nat} (hr : ∀ e ∈ o.after.toList, Region.binds .any e = true → S e.on = true) (h : reach l o j = true) : S j = true := by
 unfold reach at h
 rw [Bool.or_eq_true] at h
 rcases h with h | h
 ·obtain ⟨ed, hed, hb, hon⟩ := zu h
  exact hon ▸ hr ed hed hb
 ·rw [List.any_eq_true] at h
  obtain ⟨e, he, hb⟩ := h
  rw [Bool.and_eq_true] at hb
  exact hs _ _ hb.2 (hr e he hb.1)
def uchk (l : List Oper) (im : Nat) (is : List Nat) : Bool := (is.all fun i => zAY l i im && i != im) && decide is.Nodup
section
variable {rd : Option Nat} {P : Program} {l : List Oper} {G0 : List Nat} {W : World} {mE m0 : Mem} {L : List Res} {tch : Tch} {T : List (Nat × Value)} {κ : Type} [DecidableEq κ] {enc : κ → Value} {im p : Nat} {ins : List (Nat × κ × Value)}
def ObL (P : Program) (K : World → Mem → Prop) (us : List Nat) (ch : List (Nat × Bool)) (pre : List Ent) (T : List (Nat × Value)) (p : Nat) (enc : κ → Value) (F : List (κ × Value)) (o : Oper) (κn : Kn) : Prop :=
 ∀ (σ : Nat → Value) (w : World) (m : Mem), K w m → Know σ m us ch pre T → (∃ es : List (κ × Value), (Res.map (σ p) (zAL enc es)).holds w m ∧ ∀ k, z5 k es = z5 k F) → Does P o σ w fun v w' => ∃ m', ExtG [] w m w' m' ∧ κn.holds m' v
inductive OblU (P : Program) (l : List Oper) (G0 : List Nat) (W : World) (mE m0 : Mem) (L : List Res) (tch : Tch) (T : List (Nat × Value)) (enc : κ → Value) (im p : Nat) (ins : List (Nat × κ × Value)) (i : Nat) (pre : List Ent) (o : Oper) : Ke → Prop where
 | plain {ke : Ke} (h : zFM P l G0 W mE m0 L tch T i pre o ke) (hn : (i != im && ins.all fun x => x.1 != i) = true) : OblU P l G0 W mE m0 L tch T enc im p ins i pre o ke
 | make {κn : Kn} (ht : Za tch i = none) (hi : i = im) (hg : o.guard = none) (hd : o.dst = some p) (hp : ∀ σ v, Z1 pre o σ v = v) (h : ObT P (Ctx G0 W mE m0 (Z5 tch L)) (Zc l o) (ZI l 12 o.guard) pre T (fun _ => .free) (fun v => .map v (zAL enc ([] : List (κ × Value)))) o κn) : OblU P l G0 W mE m0 L tch T enc im p ins i pre o (.val κn)
 | put {κn : Kn} {k : κ} {v : Value} (ht : Za tch i = none) (hm : (i, k, v) ∈ ins) (hg : o.guard = none) (hd : o.dst = none) (hp : ∀ σ v, Z1 pre o σ v = σ p) (h : ∀ es : List (κ × Value), ObT P (Ctx G0 W mE m0 (Z5 tch L)) (Zc l o) (ZI l 12 o.guard) pre T (fun σ => .map (σ p) (zAL enc es)) (fun x => .map x (zAL enc (zBH k v es))) o κn) : OblU P l G0 W mE m0 L tch T enc im p ins i pre o (.val κn)
 | look {κn : Kn} (ht : Za tch i = none) (hn : (i != im && ins.all fun x => x.1 != i && reach l o x.1 && reach l o im) = true) (hne : (! ins.isEmpty) = true) (h : ObL P (Ctx G0 W mE m0 (Z5 tch L)) (Zc l o) (ZI l 12 o.guard) pre T p enc (ins.map (·.2)) o κn) : OblU P l G0 W mE m0 L tch T enc im p ins i pre o (.val κn)
inductive OblsU (P : Program) (l : List Oper) (G0 : List Nat) (W : World) (mE m0 : Mem) (L : List Res) (tch : Tch) (T : List (Nat × Value)) (enc : κ → Value) (im p : Nat) (ins : List (Nat × κ × Value)) : Nat → List Ent → List Oper → List Ent → Prop where
 | nil {i : Nat} {pre : List Ent} : OblsU P l G0 W mE m0 L tch T enc im p ins i pre [] pre
 | step {i : Nat} {pre : List Ent} {o : Oper} {os : List Oper} {ke : Ke} {fin : List Ent} (h : OblU P l G0 W mE m0 L tch T enc im p ins i pre o ke)
   (hs : OblsU P l G0 W mE m0 L tch T enc im p ins (i + 1) (zAd l o ke :: pre) os fin) : OblsU P l G0 W mE m0 L tch T enc im p ins i pre (o :: os) fin
theorem OblsU.cons {i : Nat} {pre : List Ent} {o : Oper} {os : List Oper} {κn : Kn} {fin : List Ent} (ht : Za tch i = none) (hn : (i != im && ins.all fun x => x.1 != i) = true)
   (h : Ob P (Ctx G0 W mE m0 (Lsel l tch L i)) (Zc l o) (ZI l 12 o.guard) pre T o κn)
   (hs : OblsU P l G0 W mE m0 L tch T enc im p ins (i + 1) (zAd l o (.val κn) :: pre) os fin) : OblsU P l G0 W mE m0 L tch T enc im p ins i pre (o :: os) fin :=
 .step (.plain (.inl ⟨κn, rfl, ht, h⟩) hn) hs
theorem OblsU.consA {i : Nat} {pre : List Ent} {o : Oper} {os : List Oper} {fin : List Ent} (t : Nat) (ht : Za tch i = none) (hn : (i != im && ins.all fun x => x.1 != i) = true) (h : zED l o t = true)
   (hs : OblsU P l G0 W mE m0 L tch T enc im p ins (i + 1) (zAd l o (.same t id) :: pre) os fin) : OblsU P l G0 W mE m0 L tch T enc im p ins i pre (o :: os) fin :=
 .step (.plain (.inr (.inr ⟨t, id, rfl, ht, zBp h⟩)) hn) hs
theorem OblsU.consT {i : Nat} {pre : List Ent} {o : Oper} {os : List Oper} {κn : Kn} {fin : List Ent} {k : Nat} {r : (Nat → Value) → Res} {r' : Value → Res} (ht : Za tch i = some (k, r')) (hn : (i != im && ins.all fun x => x.1 != i) = true) (hkl : Nat.ble (k + 1) L.length = true) (hr : ∀ σ, zCh l L tch i k σ = some (r σ)) (hg : o.guard = none)
   (h : ObT P (Ctx G0 W mE m0 (Z5 tch L)) (Zc l o) (ZI l 12 o.guard) pre T r r' o κn)
   (hs : OblsU P l G0 W mE m0 L tch T enc im p ins (i + 1) (zAd l o (.val κn) :: pre) os fin) (hp : zBT l i = none := by rfl) : OblsU P l G0 W mE m0 L tch T enc im p ins i pre (o :: os) fin :=
 .step (.plain (.inr (.inl ⟨κn, k, r, r', rfl, ht, Nat.le_of_ble_eq_true hkl, hr, .inl hg, .inl ⟨hp, h⟩⟩)) hn) hs
theorem OblsU.make {i : Nat} {pre : List Ent} {o : Oper} {os : List Oper} {κn : Kn} {fin : List Ent} (ht : Za tch i = none) (hi : i = im) (hg : o.guard = none) (hd : o.dst = some p) (hp : ∀ σ v, Z1 pre o σ v = v)
   (h : ObT P (Ctx G0 W mE m0 (Z5 tch L)) (Zc l o) (ZI l 12 o.guard) pre T (fun _ => .free) (fun v => .map v (zAL enc ([] : List (κ × Value)))) o κn)
   (hs : OblsU P l G0 W mE m0 L tch T enc im p ins (i + 1) (zAd l o (.val κn) :: pre) os fin) : OblsU P l G0 W mE m0 L tch T enc im p ins i pre (o :: os) fin :=
 .step (.make ht hi hg hd hp h) hs
theorem OblsU.put {i : Nat} {pre : List Ent} {o : Oper} {os : List Oper} {κn : Kn} {fin : List Ent} {k : κ} {v : Value} (ht : Za tch i = none) (hm : (i, k, v) ∈ ins) (hg : o.guard = none) (hd : o.dst = none) (hp : ∀ σ v, Z1 pre o σ v = σ p)
   (h : ∀ es : List (κ × Value), ObT P (Ctx G0 W mE m0 (Z5 tch L)) (Zc l o) (ZI l 12 o.guard) pre T (fun σ => .map (σ p) (zAL enc es)) (fun x => .map x (zAL enc (zBH k v es))) o κn)
   (hs : OblsU P l G0 W mE m0 L tch T enc im p ins (i + 1) (zAd l o (.val κn) :: pre) os fin) : OblsU P l G0 W mE m0 L tch T enc im p ins i pre (o :: os) fin :=
 .step (.put ht hm hg hd hp h) hs
theorem OblsU.look {i : Nat} {pre : List Ent} {o : Oper} {os : List Oper} {κn : Kn} {fin : List Ent} (ht : Za tch i = none) (hn : (i != im && ins.all fun x => x.1 != i && reach l o x.1 && reach l o im) = true) (hne : (! ins.isEmpty) = true)
   (h : ObL P (Ctx G0 W mE m0 (Z5 tch L)) (Zc l o) (ZI l 12 o.guard) pre T p enc (ins.map (·.2)) o κn)
   (hs : OblsU P l G0 W mE m0 L tch T enc im p ins (i + 1) (zAd l o (.val κn) :: pre) os fin) : OblsU P l G0 W mE m0 L tch T enc im p ins i pre (o :: os) fin :=
 .step (.look ht hn hne h) hs
theorem oblsU_at {i : Nat} {pre : List Ent} {os : List Oper} {fin : List Ent} (h : OblsU P l G0 W mE m0 L tch T enc im p ins i pre os fin) :
  ∀ (κs0 : List Ke), κs0.length = i → (∀ j, os[j]? = l[i + j]?) → pre = ZE l κs0 i →
  ∃ κs : List Ke, κs.length = i + os.length ∧ (∀ j, j < i → κs[j]? = κs0[j]?) ∧ fin = ZE l κs (i + os.length) ∧
   ∀ j o, i ≤ j → l[j]? = some o → j < i + os.length → ∃ κ, κs[j]? = some κ ∧ OblU P l G0 W mE m0 L tch T enc im p ins j (ZE l κs j) o κ := by
 have pre_congr : ∀ (κs κs' : List Ke) (n : Nat), (∀ j, j < n → κs[j]? = κs'[j]?) → ZE l κs n = ZE l κs' n := by
  intro κs κs' n
  induction n with
  | zero => intro _; rfl
  | succ n ih => intro hh; simp only [ZE, hh n (by omega), ih (fun j hj => hh j (by omega))]
 induction h with
 | nil =>
  intro κs0 h0 _ hp
  exact ⟨κs0, by simpa using h0, fun _ _ => rfl, by simpa using hp, fun j o h1 _ h2 => by simp at h2; omega⟩
 | @step i pre o os κ fin hob hs ih =>
  intro κs0 h0 hos hp
  have ho : l[i]? = some o := by simpa using (hos 0).symm
  have hk0 : (κs0 ++ [κ])[i]? = some κ := by rw [List.getElem?_append_right (by omega), h0]; simp
  have hlow : ∀ j, j < i → (κs0 ++ [κ])[j]? = κs0[j]? := fun j hj => by rw [List.getElem?_append_left (by omega)]
  obtain ⟨κs, hl, hlo, hf, hall⟩ := ih (κs0 ++ [κ]) (by simp [h0]) (fun j => by have := hos (j + 1); simpa [Nat.add_assoc, Nat.add_comm 1 j] using this)
   (by simp only [ZE, ho, hk0]; rw [pre_congr _ _ i hlow, ← hp]; rfl)
  refine ⟨κs, by simp [hl]; omega, fun j hj => (hlo j (by omega)).trans (hlow j hj), by rw [hf]; simp [Nat.add_assoc, Nat.add_comm 1], fun j o' h1 h2 h3 => ?_⟩
  by_cases hj : j = i
  ·subst hj
   rw [ho] at h2; injection h2 with h2; subst h2
   refine ⟨κ, (hlo j (by omega)).trans hk0, ?_⟩
   rw [pre_congr κs κs0 j (fun q hq => (hlo q (by omega)).trans (hlow q hq)), ← hp]
   exact hob
  ·exact hall j o' (by omega) h2 (by simp at h3; omega)
structure MapU (G0 : List Nat) (W : World) (mE : Mem) (L : List Res) (enc : κ → Value) (im p : Nat) (ins : List (Nat × κ × Value)) (S : Nat → Bool) (σ : Nat → Value) (w : World) (m : Mem) : Prop where
 no : S im = false → St G0 W mE (L ++ [.free]) w m
 yes : S im = true → ∃ es : List (κ × Value), St G0 W mE (L ++ [.map (σ p) (zAL enc es)]) w m ∧ ∀ k, z5 k es = FU S ins k
theorem MapU.keep {S S' : Nat → Bool} {σ σ' : Nat → Value} {w w' : World} {m m' : Mem} (h : MapU G0 W mE L enc im p ins S σ w m) (hE : ExtG [] w m w' m') (hS : S' im = S im) (hF : ∀ x ∈ ins, S' x.1 = S x.1) (hp : S im = true → σ' p = σ p) : MapU G0 W mE L enc im p ins S' σ' w' m' :=
 ⟨fun e => (h.no (hS ▸ e)).keep hE, fun e => by
  have e1 : S im = true := hS ▸ e
  obtain ⟨es, h1, h2⟩ := h.yes e1
  exact ⟨es, by rw [hp e1]; exact h1.keep hE, fun k => (h2 k).trans (zEF ins hF k).symm⟩⟩
theorem MapU.touch {S S' : Nat → Bool} {σ σ' : Nat → Value} {w w' : World} {m m' : Mem} {k : Nat} {r r' : Res} (h : MapU G0 W mE L enc im p ins S σ w m) (hk : L[k]? = some r) (ht : ZR r r' w m w' m') (hS : S' im = S im) (hF : ∀ x ∈ ins, S' x.1 = S x.1) (hp : S im = true → σ' p = σ p) : MapU G0 W mE (L.set k r') enc im p ins S' σ' w' m' := by
 have hkl : k < L.length := (List.getElem?_eq_some_iff.1 hk).1
 have hk' : ∀ x, (L ++ [x])[k]? = some r := fun x => by rw [List.getElem?_append_left hkl]; exact hk
 have hset : ∀ x, (L ++ [x]).set k r' = L.set k r' ++ [x] := fun x => List.set_append_left _ _ hkl
 refine ⟨fun e => ?_, fun e => ?_⟩
 ·rw [← hset]; exact (h.no (hS ▸ e)).touch (hk' _) ht
 ·have e1 : S im = true := hS ▸ e
  obtain ⟨es, h1, h2⟩ := h.yes e1
  exact ⟨es, by rw [hp e1, ← hset]; exact h1.touch (hk' _) ht, fun k => (h2 k).trans (zEF ins hF k).symm⟩
theorem st_last {w : World} {m : Mem} {r : Res} (h : St G0 W mE (L ++ [r]) w m) : St G0 W mE L w m := by
 have := h.take L.length
 rwa [List.take_left] at this
theorem zFN {w w' : World} {m m' : Mem} {r r' : Res} (h : St G0 W mE (L ++ [r]) w m) (ht : ZR r r' w m w' m') : St G0 W mE (L ++ [r']) w' m' := by
 have := h.touch (k := L.length) (r := r) (by simp) ht
 simpa using this
theorem invU_step {Q : Exit → Act → World → Prop} {κs : List Ke} {a0 : Act} {S : Nat → Bool} {a : Act} {w : World} {m : Mem} {i : Nat} {o : Oper} {om : Oper}
  (hchk : chk l = true) (htch : zAy l tch = true) (huc : uchk l im (ins.map (·.1)) = true) (hnk : (ins.map (·.2.1)).Nodup) (him : l[im]? = some om) (hpm : om.dst = some p) (hsz : ∀ (j : Nat) (o : Oper) (d : Nat), l[j]? = some o → o.dst = some d → d < a0.tmps.size)
  (hob : ∀ (j : Nat) (o : Oper), l[j]? = some o → ∃ κ, κs[j]? = some κ ∧ OblU P l G0 W mE m0 L tch T enc im p ins j (ZE l κs j) o κ)
  (hT : ∀ t v, look T t = some v → zV a0 t = v)
  (h : Inv l κs G0 W mE m0 L tch a0 S a w m) (hU : MapU G0 W mE (Lof (z3 l (zV a)) S tch L) enc im p ins S (zV a) w m) (hi : l[i]? = some o) (hS : S i = false) (hready : ∀ e ∈ o.after.toList, Region.binds .any e = true → S e.on = true) :
  wpOpIn (z4 rd) 0 P l.toArray Q i (fun a' w' => ∃ m', Inv l κs G0 W mE m0 L tch a0 (fun j => if j = i then true else S j) a' w' m' ∧ MapU G0 W mE (Lof (z3 l (zV a')) (fun j => if j = i then true else S j) tch L) enc im p ins (fun j => if j = i then true else S j) (zV a') w' m') a w := by
 have hgi := Zm hchk hi
 have hκ : ∀ j o, l[j]? = some o → (κs[j]?).isSome := fun j o hj => by obtain ⟨κ, hk, _⟩ := hob j o hj; rw [hk]; rfl
 have hoi : (l.toArray)[i]? = some o := by simpa using hi
 have hsz' : ∀ d, o.dst = some d → d < a.tmps.size := fun d hd => by rw [h.size]; exact hsz i o d hi hd
 simp only [uchk, Bool.and_eq_true, List.all_eq_true, decide_eq_true_eq, bne_iff_ne, ne_eq] at huc
 obtain ⟨huc1, hnd⟩ := huc
 have hins : ∀ x ∈ ins, zAY l x.1 im = true ∧ x.1 ≠ im := fun x hx => huc1 x.1 (List.mem_map.2 ⟨x, hx, rfl⟩)
 have hshut : Shut l S := fun q s he hq => by
  unfold zAY at he
  cases hlq : l[q]? with
  | none => rw [hlq] at he; cases he
  | some oq =>
   rw [hlq] at he
   obtain ⟨ed, hed, hb, hon⟩ := zu he
   rw [← hon]; exact h.shut q oq hlq hq ed hed hb
 obtain ⟨κ, hk, hobl⟩ := hob i o hi
 have hwanted : Region.wanted o (yielded l.toArray a.tmps) = true → ∀ j b, o.guard = some (j, b) → S j = true ∧ (∃ oj d, l[j]? = some oj ∧ oj.dst = some d) ∧ zAO (zV a) (zDS l j, b) := by
  intro hw j b hg
  obtain ⟨he, oj, d, hj, hd⟩ := hgi.guard j b hg
  obtain ⟨ed, hed, hb, hon⟩ := zu he
  refine ⟨hon ▸ hready ed hed hb, ⟨oj, d, hj, hd⟩, ?_⟩
  simp only [Region.wanted, hg] at hw
  have := (zAe (ops := l.toArray) (a := a) (by simpa using hj) hd b).1 hw
  unfold zAO
  simp only
  rw [zBS hj hd]; exact this
 have hunwanted : Region.wanted o (yielded l.toArray a.tmps) ≠ true → (∃ gd, gOf l o.guard = some gd) ∧ ∀ gd, gOf l o.guard = some gd → ¬ zAO (zV a) gd := by
  intro hw
  cases hg : o.guard with
  | none => exact absurd (by simp [Region.wanted, hg]) hw
  | some jb =>
   obtain ⟨j, b⟩ := jb
   obtain ⟨he, oj, d, hj, hd⟩ := hgi.guard j b hg
   refine ⟨⟨_, rfl⟩, fun gd e => ?_⟩
   simp only [gOf, Option.some.injEq] at e; subst e
   intro hh
   unfold zAO at hh
   simp only at hh
   rw [zBS hj hd] at hh
   exact hw (by simp only [Region.wanted, hg]; exact (zAe (ops := l.toArray) (a := a) (by simpa using hj) hd b).2 hh)
 have hknow : Region.wanted o (yielded l.toArray a.tmps) = true → Know (zV a) m (Zc l o) (ZI l 12 o.guard) (ZE l κs i) T := by
  intro hw
  refine ⟨fun t v ht hf hl => ?_, fun t g κ' ht hf hg => ?_, zDg hchk hκ h 12 _ (hwanted hw)⟩
  ·rw [h.same t fun j oj hj hd => ?_]
   ·exact hT t v hl
   ·rcases hgi.uses t ht j oj hj hd with rfl | ⟨hlt, _⟩ | ⟨hlt, he⟩
    ·exact hS
    ·exact absurd hd (ZQ i hf j oj hlt hj (hκ j oj hj))
    ·obtain ⟨ed, hed, hb, hon⟩ := zu he
     cases hSj : S j with
     | false => rfl
     | true => have := h.shut j oj hj hSj ed hed hb; rw [hon, hS] at this; cases this
  ·obtain ⟨j, oj, hlt, hj, hkj, hd, rfl⟩ := ZP i hf
   rcases hgi.uses t ht j oj hj hd with rfl | ⟨_, he⟩ | ⟨hlt', _⟩
   ·omega
   ·exact (h.fact j oj t κ' hj hkj (zAh h.shut 12 o j hready he) hd).1 hg
   ·omega
 have hpS : S im = true → ∀ v, zV (a.put o.dst v) p = zV a p := fun hSm v => by
  cases hd : o.dst with
  | none => rfl
  | some d =>
   rw [Z0 (hsz' d hd), if_neg]
   rintro rfl
   have := hgi.once im om _ him hd hpm
   subst this; rw [hS] at hSm; cases hSm
 -- what changes nothing of the map
 have hlof : ∀ v, Za tch i = none → Lof (z3 l (zV (a.put o.dst v))) (fun j => if j = i then true else S j) tch L = Lof (z3 l (zV a)) S tch L := fun v ht =>
  (zBN (V := z3 l (zV a)) (S := S) tch L (fun x hx => ⟨by rw [if_neg (zAC ht x hx)], fun hSx => zBR hchk hi hsz' h.shut hS hSx (zAC ht x hx)⟩)).symm
 have hlr : Ctx G0 W mE m0 (Z5 tch L) w m := ⟨zEJ tch L h.ctx.st, h.ctx.le⟩
 have hls : Ctx G0 W mE m0 (Lsel l tch L i) w m := by
  unfold Lsel
  refine ⟨zEf tch L (fun x hx he => ?_) h.ctx.st, h.ctx.le⟩
  cases hs : l[x.1]? with
  | none => rw [hs] at he; cases he
  | some os =>
   rw [hs] at he
   cases hSs : S x.1 with
   | false => rfl
   | true => have := zCF h.shut 8 x.1 os hs hSs he; rw [hS] at this; cases this
 have hkeep : ∀ {v w' m'}, Za tch i = none → i ≠ im → (∀ x ∈ ins, x.1 ≠ i) → ExtG [] w m w' m' → MapU G0 W mE (Lof (z3 l (zV (a.put o.dst v))) (fun j => if j = i then true else S j) tch L) enc im p ins (fun j => if j = i then true else S j) (zV (a.put o.dst v)) w' m' := fun {v w' m'} ht h1 h2 hE => by
  rw [hlof v ht]
  exact hU.keep hE (if_neg (fun e => h1 e.symm)) (fun x hx => if_neg (h2 x hx)) (fun e => hpS e v)
 have hnolink : ∀ t f, κs[i]? = some (.same t f) → ∀ κn, κ = .val κn → ∃ q oq, l[q]? = some oq ∧ oq.dst = some t ∧ S q = true := fun t f ht κn e => by
  subst e; rw [hk] at ht; cases ht
 -- an operation that changes no resource
 have hplain : ∀ κn, κ = .val κn → Za tch i = none → i ≠ im → (∀ x ∈ ins, x.1 ≠ i) → (Region.wanted o (yielded l.toArray a.tmps) = true → Does P o (zV a) w fun v w' => ∃ m', ExtG [] w m w' m' ∧ κn.holds m' v) →
   wpOpIn (z4 rd) 0 P l.toArray Q i (fun a' w' => ∃ m', Inv l κs G0 W mE m0 L tch a0 (fun j => if j = i then true else S j) a' w' m' ∧ MapU G0 W mE (Lof (z3 l (zV a')) (fun j => if j = i then true else S j) tch L) enc im p ins (fun j => if j = i then true else S j) (zV a') w' m') a w := by
  intro κn hκe ht h1 h2 hO
  unfold wpOpIn
  rw [hoi]
  show if Region.wanted o (yielded l.toArray a.tmps) = true then _ else _
  split
  ·rename_i hw
   refine (ZU (hO hw) fun v w' ⟨m', hE, hh⟩ => ⟨m', Z9 hchk hsz h hi hS hready hE.le (by rw [hlof v ht]; exact ⟨h.ctx.st.keep hE, h.ctx.le.trans hE.le⟩) (fun t f ht => hnolink t f ht κn hκe) fun t κ' hk' _ => ?_, hkeep ht h1 h2 hE⟩)
   rw [hk, hκe] at hk'; injection hk' with hk'; subst hk'
   refine ⟨fun _ => hh, fun gd e hn => absurd ?_ hn⟩
   cases hg : o.guard with
   | none => rw [hg] at e; cases e
   | some jb =>
    obtain ⟨j, b⟩ := jb
    rw [hg] at e; simp only [gOf, Option.some.injEq] at e; subst e
    exact (hwanted hw j b hg).2.2
  ·rename_i hw
   obtain ⟨⟨gd0, hgd0⟩, hns⟩ := hunwanted hw
   exact ⟨fun _ _ => trivial, m, Z9 hchk hsz h hi hS hready (MLe.refl _) (by rw [hlof undef ht]; exact h.ctx) (fun t f ht => hnolink t f ht κn hκe) fun t κ' _ _ =>
    ⟨fun hall => absurd (hall gd0 hgd0) (hns gd0 hgd0), fun _ _ _ => rfl⟩, hkeep ht h1 h2 (ExtG.refl [] h.ctx.agree)⟩
 cases hobl with
 | plain hO hn =>
  simp only [Bool.and_eq_true, bne_iff_ne, ne_eq, List.all_eq_true] at hn
  rcases hO with ⟨κ', e, ht, hO⟩ | ⟨κ', k, r, r', e, ht, hkl, hr, hg, hO⟩ | ⟨t0, f0, e, ht0, hh, hN⟩
  ·exact hplain κ' e ht hn.1 hn.2 fun hw => hO (zV a) w m hls (hknow hw)
  ·subst e
   have hw : Region.wanted o (yielded l.toArray a.tmps) = true := by
    rcases hg with hg | ⟨s, b, c, hgo, hf, hcb⟩
    ·simp [Region.wanted, hg]
    ·apply Classical.byContradiction
     intro hn
     refine (hunwanted hn).2 _ hgo ?_
     obtain ⟨p, op, hp, hlp, hkp, hdp, hgp⟩ := ZP i hf
     have hu : s ∈ Zc l o := by
      unfold Zc
      refine List.mem_append_right _ (List.mem_map.2 ⟨(s, b), ?_, rfl⟩)
      cases hog : o.guard with
      | none => rw [hog] at hgo; cases hgo
      | some jb =>
       rw [hog] at hgo; simp only [gOf, Option.some.injEq] at hgo
       show (s, b) ∈ ZI l 12 (some jb)
       unfold ZI; rw [← hgo]; exact .head _
     have he : link l 12 o p = true := by
      rcases hgi.uses s hu p op hlp hdp with rfl | ⟨_, he⟩ | ⟨hlt', _⟩
      ·omega
      ·exact he
      ·omega
     have hh := (h.fact p op s _ hlp hkp (zAh h.shut 12 o p hready he) hdp).1 (fun gd e => by rw [← hgp] at e; cases e)
     unfold zAO
     subst hcb
     exact hh
   have hgn : ∀ gd, gOf l o.guard = some gd → zAO (zV a) gd := fun gd e => by
    cases hg : o.guard with
    | none => rw [hg] at e; cases e
    | some jb =>
     obtain ⟨j, b⟩ := jb
     rw [hg] at e; simp only [gOf, Option.some.injEq] at e; subst e
     exact (hwanted hw j b hg).2.2
   have hst := fun v => zFH (V := z3 l (zV a)) (V' := z3 l (zV (a.put o.dst v))) (S := S) hshut (fun j hj hSj => zBR hchk hi hsz' h.shut hS hSj hj) tch L htch ht hS
   have hrk : (Lof (z3 l (zV a)) S tch L)[k]? = some (r (zV a)) := by
    rcases lof_pre (V := z3 l (zV a)) hshut hS hi hready htch ht rfl (hr (zV a)) with h1 | h1
    ·exact h1
    ·rw [List.getElem?_eq_none_iff, zCi] at h1; omega
   unfold wpOpIn
   rw [hoi]
   show if Region.wanted o (yielded l.toArray a.tmps) = true then _ else _
   rw [if_pos hw]
   rcases hO with ⟨hp, hO⟩ | ⟨d', hp, hsl, hO⟩
   ·refine (ZU (hO (zV a) w m hlr (h.ctx.st.loc.at_ hrk) (hknow hw)) fun v w' ⟨m', hT', hh⟩ => ⟨m', ?_⟩)
    refine ⟨Z9 hchk hsz h hi hS hready hT'.ext.le ?_ (fun t f ht => hnolink t f ht κ' rfl) fun t κ' hk' _ => ?_, ?_⟩
    ·rw [← hst v, zEN hchk hκ hi hsz' hp]
     exact ⟨h.ctx.st.touch hrk hT', h.ctx.le.trans hT'.ext.le⟩
    ·rw [hk] at hk'; injection hk' with hk'; subst hk'
     exact ⟨fun _ => hh, fun gd e hn => absurd (hgn gd e) hn⟩
    ·rw [← hst v, zEN hchk hκ hi hsz' hp]
     exact hU.touch hrk hT' (if_neg (fun e => hn.1 e.symm)) (fun x hx => if_neg (hn.2 x hx)) (fun e => hpS e v)
   ·refine (ZU (hO (zV a) w m hlr (h.ctx.st.loc.at_ hrk) (hknow hw)) fun v w' ⟨m', hT', hh⟩ => ⟨m', ?_⟩)
    refine ⟨Z9 hchk hsz h hi hS hready hT'.ext.le ?_ (fun t f ht => hnolink t f ht κ' rfl) fun t κ' hk' _ => ?_, ?_⟩
    ·rw [← hst v, zDb (S := S) hchk hκ hi hsz' hp hsl]
     exact ⟨h.ctx.st.touch hrk hT', h.ctx.le.trans hT'.ext.le⟩
    ·rw [hk] at hk'; injection hk' with hk'; subst hk'
     exact ⟨fun _ => hh, fun gd e hn => absurd (hgn gd e) hn⟩
    ·rw [← hst v, zDb (S := S) hchk hκ hi hsz' hp hsl]
     exact hU.touch hrk hT' (if_neg (fun e => hn.1 e.symm)) (fun x hx => if_neg (hn.2 x hx)) (fun e => hpS e v)
  ·subst e
   have hg : o.guard = none := by
    unfold zCA at hh; simp only [Bool.and_eq_true] at hh
    cases hg : o.guard with
    | none => rfl
    | some x => rw [hg] at hh; cases hh.1.1
   have hw : Region.wanted o (yielded l.toArray a.tmps) = true := by simp [Region.wanted, hg]
   have hlink : ∀ t f, κs[i]? = some (.same t f) → ∃ q oq, l[q]? = some oq ∧ oq.dst = some t ∧ S q = true := fun t f ht => by
    rw [hk] at ht; injection ht with ht; injection ht with e e'; subst e
    unfold zCA at hh
    simp only [Bool.and_eq_true, List.any_eq_true] at hh
    obtain ⟨_, x, hx, hd, he⟩ := hh
    obtain ⟨ed, hed, hb, hon⟩ := zu he
    exact ⟨x.2, x.1, List.mem_zipIdx_iff_getElem?.1 hx, by simpa using hd, hon ▸ hready ed hed hb⟩
   unfold wpOpIn
   rw [hoi]
   show if Region.wanted o (yielded l.toArray a.tmps) = true then _ else _
   rw [if_pos hw]
   refine (ZU (hN (zV a) w m (hknow hw)) fun v w' hv => ⟨m, ?_⟩)
   obtain ⟨rfl, rfl⟩ := hv
   refine ⟨Z9 hchk hsz h hi hS hready (MLe.refl _) (by rw [hlof _ ht0]; exact h.ctx) hlink fun t κ' hk' _ => ?_, hkeep ht0 hn.1 hn.2 (ExtG.refl [] h.ctx.agree)⟩
   rw [hk] at hk'; injection hk' with hk'; subst hk'
   exact ⟨fun _ => rfl, fun gd e hn => by rw [hg] at e; cases e⟩
 | @make κn ht0 hi0 hg hd hp hO =>
  subst hi0
  have hw : Region.wanted o (yielded l.toArray a.tmps) = true := by simp [Region.wanted, hg]
  unfold wpOpIn
  rw [hoi]
  show if Region.wanted o (yielded l.toArray a.tmps) = true then _ else _
  rw [if_pos hw]
  refine (ZU (hO (zV a) w m hlr trivial (hknow hw)) fun v w' ⟨m', hTo, hh⟩ => ⟨m', ?_⟩)
  rw [hp] at hTo
  have hst := zFN (hU.no hS) hTo
  refine ⟨Z9 hchk hsz h hi hS hready hTo.ext.le (by rw [hlof v ht0]; exact ⟨st_last hst, h.ctx.le.trans hTo.ext.le⟩) (fun t f ht => hnolink t f ht κn rfl) fun t κ' hk' _ => ?_, fun e => by simp at e, fun _ => ⟨[], ?_, fun k => ?_⟩⟩
  ·rw [hk] at hk'; injection hk' with hk'; subst hk'
   exact ⟨fun _ => hh, fun gd e hn => by rw [hg] at e; cases e⟩
  ·rw [hlof v ht0, show zV (a.put o.dst v) p = v by rw [hd, Z0 (hsz' p hd), if_pos rfl]]
   exact hst
  ·rw [FU_none ins (fun x hx => ?_)]; rfl
   show (if x.1 = i then true else S x.1) = false
   rw [if_neg (hins x hx).2]
   cases hSx : S x.1 with
   | false => rfl
   | true => have := hshut x.1 i (hins x hx).1 hSx; rw [hS] at this; cases this
 | @put κn k v0 ht0 hm hg hd hp hO =>
  have hw : Region.wanted o (yielded l.toArray a.tmps) = true := by simp [Region.wanted, hg]
  have hSm : S im = true := by
   have he := (hins _ hm).1
   unfold zAY at he; rw [hi] at he
   obtain ⟨ed, hed, hb, hon⟩ := zu he
   exact hon ▸ hready ed hed hb
  obtain ⟨es, hst0, hes⟩ := hU.yes hSm
  unfold wpOpIn
  rw [hoi]
  show if Region.wanted o (yielded l.toArray a.tmps) = true then _ else _
  rw [if_pos hw]
  refine (ZU (hO es (zV a) w m hlr (hst0.loc.at_ (k := (Lof (z3 l (zV a)) S tch L).length) (by simp)) (hknow hw)) fun v w' ⟨m', hTo, hh⟩ => ⟨m', ?_⟩)
  rw [hp] at hTo
  have hst := zFN hst0 hTo
  refine ⟨Z9 hchk hsz h hi hS hready hTo.ext.le (by rw [hlof v ht0]; exact ⟨st_last hst, h.ctx.le.trans hTo.ext.le⟩) (fun t f ht => hnolink t f ht κn rfl) fun t κ' hk' _ => ?_, fun e => ?_, fun _ => ⟨zBH k v0 es, ?_, fun q => ?_⟩⟩
  ·rw [hk] at hk'; injection hk' with hk'; subst hk'
   exact ⟨fun _ => hh, fun gd e hn => by rw [hg] at e; cases e⟩
  ·have e : (if im = i then true else S im) = false := e
   rw [if_neg (fun e => (hins _ hm).2 e.symm), hSm] at e; cases e
  ·rw [hlof v ht0, hpS hSm v]; exact hst
  ·rw [FU_step hS ins hnd hnk hm q, zDu, hes q]
 | @look κn ht0 hn hne hO =>
  simp only [Bool.and_eq_true, bne_iff_ne, ne_eq, List.all_eq_true] at hn
  have hall : ∀ x ∈ ins, S x.1 = true := fun x hx => zFE hshut hready (hn.2 x hx).1.2
  have hSm : S im = true := by
   cases ins with
   | nil => cases hne
   | cons x r => exact zFE hshut hready (hn.2 x (.head _)).2
  obtain ⟨es, hst0, hes⟩ := hU.yes hSm
  exact hplain κn rfl ht0 hn.1 (fun x hx => (hn.2 x hx).1.1) fun hw => hO (zV a) w m hlr (hknow hw) ⟨es, hst0.loc.at_ (k := (Lof (z3 l (zV a)) S tch L).length) (by simp), fun k => (hes k).trans (FU_all ins hall k)⟩
theorem region_by {Q : Exit → Act → World → Prop} {I : (Nat → Bool) → Act → World → Prop} {a0 : Act} {id : Nat} {w0 : World} (hm : P.follows .mixedOrders = true) (hchk : chk l = true)
  (step : ∀ S a w i o, I S a w → l[i]? = some o → S i = false → (∀ e ∈ o.after.toList, Region.binds .any e = true → S e.on = true) → wpOpIn (z4 rd) 0 P l.toArray Q i (fun a' w' => I (fun j => if j = i then true else S j) a' w') a w)
  (h0' : I (fun _ => false) a0 { w0 with drawn := w0.drawn + 1 }) (cont : ∀ a w S, (∀ i, i < l.length → S i = true) → I S a w → Q .normal a w) :
  (Code.region id l.toArray true).wpIn (z4 rd) 0 P Q a0 w0 := by
 refine wpIn_region_any hm ?_
 have key : ∀ (fuel : Nat) (listed : Array Bool) (a : Act) (w : World), listed.size = l.length → (listed.toList.countP (fun b => !b)) = fuel →
   I (fun j => listed.getD j false) a w → wpAnyIn (z4 rd) 0 P .any l.toArray Q fuel listed a w := by
  intro fuel
  have hreadyall : ∀ (listed : Array Bool), listed.size = l.length → Region.ready .any l.toArray listed = [] → ∀ i, i < l.length → listed.getD i false = true := by
   intro listed hl hr
   refine all_ready hchk fun i o ho hS => ?_
   have hi : i < l.length := (List.getElem?_eq_some_iff.1 ho).1
   have hni : i ∉ Region.ready .any l.toArray listed := by rw [hr]; simp
   simp only [Region.ready, List.mem_filter, List.mem_range, not_and, List.size_toArray] at hni
   have h1 := hni hi
   have hS' : listed.getD i true = false := by
    simp only [Array.getD_eq_getD_getElem?] at hS ⊢
    rw [Array.getElem?_eq_getElem (by omega)] at hS ⊢; exact hS
   have hoi : (l.toArray)[i]? = some o := by simpa using ho
   simp only [hS', hoi, Bool.not_false, Bool.true_and, Option.map_some, Option.getD_some, Bool.not_eq_true] at h1
   rw [← Array.all_toList] at h1
   rw [List.all_eq_false] at h1
   obtain ⟨e, he, hb⟩ := h1
   simp only [Bool.or_eq_true, Bool.not_eq_true', not_or, Bool.not_eq_false, Bool.not_eq_true] at hb
   exact ⟨e, he, hb.1, hb.2⟩
  induction fuel with
  | zero =>
   intro listed a w hl hc h
   have hall : ∀ i, i < l.length → listed.getD i false = true := by
    intro i hi
    rw [List.countP_eq_zero] at hc
    have := hc (listed[i]'(by omega)) (by simp)
    simp only [Array.getD_eq_getD_getElem?]
    rw [Array.getElem?_eq_getElem (by omega)]
    simpa using this
   refine ⟨?_, cont a w _ hall h⟩
   simp only [Region.ready, List.filter_eq_nil_iff, List.mem_range, List.size_toArray]
   intro i hi
   have := hall i hi
   simp only [Array.getD_eq_getD_getElem?] at this ⊢
   rw [Array.getElem?_eq_getElem (by omega)] at this ⊢
   simp only [Option.getD_some] at this ⊢
   simp [this]
  | succ fuel ih =>
   intro listed a w hl hc h
   refine ⟨fun hr => cont a w _ (hreadyall listed hl hr) h, fun i hi => ?_⟩
   simp only [Region.ready, List.mem_filter, List.mem_range, List.size_toArray, Bool.and_eq_true, Bool.not_eq_true'] at hi
   obtain ⟨hil, hun, hed⟩ := hi
   have ho : l[i]? = some l[i] := List.getElem?_eq_getElem hil
   have hoi : (l.toArray)[i]? = some l[i] := by simp
   have hun' : listed[i]? = some false := by
    simp only [Array.getD_eq_getD_getElem?] at hun
    rw [Array.getElem?_eq_getElem (by omega)] at hun ⊢
    simpa using hun
   have hs := step _ _ _ _ _ h ho (by simp [Array.getD_eq_getD_getElem?, hun']) fun e he hb => by
    rw [hoi] at hed
    simp only [Option.map_some, Option.getD_some, ← Array.all_toList, List.all_eq_true, Bool.or_eq_true, Bool.not_eq_true'] at hed
    rcases hed e he with h1 | h1
    ·rw [hb] at h1; cases h1
    ·exact h1
   refine wpOpIn_mono (fun a' w' h' => ih (listed.setIfInBounds i true) a' w' (by simpa using hl) ?_ ?_) hs
   ·have hset : (listed.setIfInBounds i true).toList = listed.toList.set i true := Array.toList_setIfInBounds ..
    rw [hset]
    exact zBm _ i fuel (by simpa using hun') hc
   ·have : (fun j => if j = i then true else listed.getD j false) = fun j => (listed.setIfInBounds i true).getD j false := by
     funext j
     simp only [Array.getD_eq_getD_getElem?, Array.getElem?_setIfInBounds]
     by_cases hj : j = i
     ·subst hj; simp [hl, hil]
     ·rw [if_neg hj, if_neg (fun e => hj e.symm)]
    rwa [this] at h'
 have hrep : (List.replicate l.length false).countP (fun b => !b) = l.length := by rw [List.countP_replicate]; rfl
 have := key l.length (Array.replicate l.length false) a0 { w0 with drawn := w0.drawn + 1 } (by simp) (by simpa using hrep) (by
  have : (fun j => (Array.replicate l.length false).getD j false) = fun _ : Nat => false := by
   funext j; simp only [Array.getD_eq_getD_getElem?, Array.getElem?_replicate]; split <;> rfl
  rw [this]; exact h0')
 simpa using this
theorem region_uno {Q : Exit → Act → World → Prop} {n : FrN} {id : Nat} {a : Act} {w : World} {m : Mem} {fin : List Ent} {om : Oper} (enc : κ → Value) (im p : Nat) (ins : List (Nat × κ × Value))
  (hm : P.follows .mixedOrders = true) (hst : St G0 W mE L w m) (hfr : Fr n T a)
  (hchk : chk l = true) (htch : zAy l tch = true) (huc : uchk l im (ins.map (·.1)) = true) (hnk : (ins.map (·.2.1)).Nodup) (him : l[im]? = some om) (hpm : om.dst = some p) (hd : zEz n l = true)
  (hob : OblsU P l G0 W mE m L tch T enc im p ins 0 [] l fin)
  (cont : ∀ (a' : Act) (w' : World) (m' : Mem), St G0 W mE (zDd (z3 l (zV a')) tch L) w' m' → MLe m m' → FinK n fin T a' m' → Q .normal a' w') :
  (Code.region id l.toArray true).wpIn (z4 rd) 0 P Q a w := by
 obtain ⟨κs, hlen, _, hfin, hall⟩ := oblsU_at hob [] rfl (fun j => by simp) rfl
 simp only [Nat.zero_add] at hlen hfin hall
 have hob' : ∀ (j : Nat) (o : Oper), l[j]? = some o → ∃ κ, κs[j]? = some κ ∧ OblU P l G0 W mE m L tch T enc im p ins j (ZE l κs j) o κ :=
  fun j o ho => hall j o (by omega) ho (List.getElem?_eq_some_iff.1 ho).1
 have hst' : St G0 W mE L { w with drawn := w.drawn + 1 } m := hst.keep ⟨rfl, rfl, rfl, Nat.le_refl _, fun _ _ _ => rfl, ⟨hst.agree.cell, hst.agree.map⟩, MLe.refl _, fun _ _ _ => ⟨rfl, rfl⟩⟩
 have hlof : Lof (z3 l (zV a)) (fun _ => false) tch L = L := zDA tch L fun _ _ => rfl
 have hinv : Inv l κs G0 W mE m L tch a (fun _ => false) a { w with drawn := w.drawn + 1 } m :=
  ⟨⟨by rw [hlof]; exact hst', MLe.refl _⟩, rfl, rfl, (fun _ _ => rfl), fun _ _ _ _ _ _ h => (Bool.noConfusion h), fun _ _ _ _ _ _ h => (Bool.noConfusion h), fun _ _ _ h => (Bool.noConfusion h)⟩
 have hsz : ∀ (j : Nat) (o : Oper) (d : Nat), l[j]? = some o → o.dst = some d → d < a.tmps.size := fun j o d ho hdst => by
  rw [hfr.size]
  unfold zEz at hd
  rw [List.all_eq_true] at hd
  have := hd o (List.mem_of_getElem? ho)
  rw [hdst] at this
  simpa using this
 refine region_by (I := fun S a' w' => ∃ m', Inv l κs G0 W mE m L tch a S a' w' m' ∧ MapU G0 W mE (Lof (z3 l (zV a')) S tch L) enc im p ins S (zV a') w' m') hm hchk (fun S a' w' i o ⟨m', h, hU⟩ hi hS hr => ?_)
  ⟨m, hinv, by rw [hlof]; exact fun _ => hst'.more (r := .free) trivial List.nodup_nil (fun g hg => by cases hg), fun e => (Bool.noConfusion e)⟩ fun a' w' S hS ⟨m', h, _⟩ => ?_
 ·exact invU_step hchk htch huc hnk him hpm hsz hob' hfr.at_ h hU hi hS hr
 ·have htl : ∀ x ∈ tch, S x.1 = true := by
   have : ∀ tc : Tch, zAy l tc = true → ∀ x ∈ tc, x.1 < l.length := by
    intro tc
    induction tc with
    | nil => intro _ x hx; cases hx
    | cons y tc ih =>
     obtain ⟨s, k, r⟩ := y
     intro ht x hx
     obtain ⟨_, h2, h3, _⟩ := zAF ht
     cases hx with
     | head => exact h3
     | tail _ hx => exact ih h2 x hx
   exact fun x hx => hS _ (this tch htch x hx)
  have hl' : Lof (z3 l (zV a')) S tch L = zDd (z3 l (zV a')) tch L := zEH tch L htl
  refine cont a' w' m' (by rw [← hl']; exact h.ctx.st) h.ctx.le ⟨h.defers.trans hfr.defers, h.size.trans hfr.size, fun t v hf hl => ?_, fun t g κ hf hg => ?_⟩
  ·rw [hfin] at hf
   rw [h.same t fun j o ho hdst => ?_]
   ·exact hfr.at_ t v hl
   ·have hj := (List.getElem?_eq_some_iff.1 ho).1
    obtain ⟨κ, hk, _⟩ := hob' j o ho
    exact absurd hdst (ZQ _ hf j o hj ho (by rw [hk]; rfl))
  ·rw [hfin] at hf
   obtain ⟨j, o, hj, ho, hk, hdst, rfl⟩ := ZP _ hf
   exact (h.fact j o t κ ho hk (hS j hj) hdst).1 hg
theorem ob_lookupU {K : World → Mem → Prop} {m1 : Mem} {L1 : List Res} [hK : KC K m1 L1] {us : List Nat} {ch : List (Nat × Bool)} {pre : List Ent} {dst : Option Nat} {ty : TypeId} {pos : String} {af : Array Edge} {gd : Option (Nat × Bool)} {d : TypeDesc} {t kt et : TypeId} {x : Nat} {y : Operand} {k : κ} {z v : Value} {b : Bool} {F : List (κ × Value)}
  (hKe : Keys d enc) (hx : find pre x = some (none, .same p id)) (hu : has us x = true) (hy : ev us ch pre T y = some (enc k))
  (hm : P.underlying t = some (.map kt et)) (hd : P.underlying kt = some d) (hz : ∀ w, (zeroValue et).run P w = .ok z w)
  (hv : (match z5 k F with | some u => (u, true) | none => (z, false)) = (v, b)) :
  ObL P K us ch pre T p enc F ⟨dst, .lookup t (.tmp x) y true, ty, pos, af, gd⟩ (.eq (.tuple #[v, .bool b])) := fun σ w m hk hn ⟨es, hr, hes⟩ => by
 suffices hs : (execOp (zy σ) ⟨dst, .lookup t (.tmp x) y true, ty, pos, af, gd⟩).run P w = .ok (.value (.tuple #[v, .bool b])) w by
  unfold Does; rw [hs]; exact ⟨m, ExtG.refl _ (hK.agree hk), rfl⟩
 obtain ⟨g, ents, clock, e1, hh, he, _⟩ := hr
 have hxe : zy σ (.tmp x) = .map (some g) := (hn.ent x none _ (Z8 hu) hx (fun _ e => by cases e)).trans e1
 have hf := zAV hKe k ents.toList es 0 he
 have hget : (getObj g).run P w = .ok (.map ents clock) w := by simp [getObj, Sem.run, hh]
 rw [← hes k, zBd k es 0] at hv
 cases ha : zDc k es 0 with
 | none =>
  rw [ha] at hf hv
  simp only [Option.map_none, Prod.mk.injEq] at hv
  obtain ⟨rfl, rfl⟩ := hv
  simp [execOp, hxe, hn.ev hy, Instr.lookup, run_underlying hm, Result.andThen, hget, run_checkKey hd (hKe.key k), run_findKey hd hf, hz]
 | some q =>
  rw [ha] at hf hv
  simp only [Option.map_some, Prod.mk.injEq] at hv
  obtain ⟨rfl, rfl⟩ := hv
  simp [execOp, hxe, hn.ev hy, Instr.lookup, run_underlying hm, Result.andThen, hget, run_checkKey hd (hKe.key k), run_findKey hd hf]
end
section
variable {P : Program} {K : World → Mem → Prop} {m0 : Mem} {L : List Res} {us : List Nat} {ch : List (Nat × Bool)} {pre : List Ent} {T : List (Nat × Value)}
variable {dst : Option Nat} {ty : TypeId} {pos : String} {af : Array Edge} {gd : Option (Nat × Bool)}
end
section slice3
variable {P : Program} {K : World → Mem → Prop} {m0 : Mem} {L : List Res} {us : List Nat} {ch : List (Nat × Bool)} {pre : List Ent} {T : List (Nat × Value)} {dst : Option Nat} {ty : TypeId} {pos : String} {af : Array Edge} {gd : Option (Nat × Bool)}
theorem ob_slice3 [KC K m0 L] {t e : TypeId} {x hi mx : Operand} {o : Option Addr} {len cap sz h k : Nat} (hx : ev us ch pre T x = some (.slice o len cap)) (hhi : Bnd us ch pre T (some hi) 0 h) (hmx : Bnd us ch pre T (some mx) 0 k)
  (ht : P.underlying t = some (.slice e)) (hz : ∀ w, (sizeOf e).run P w = .ok sz w) (h1 : h ≤ k) (h2 : k ≤ cap) :
  Ob P K us ch pre T ⟨dst, .slice t x none (some hi) (some mx), ty, pos, af, gd⟩ (.eq (.slice (if k = 0 then o else o.map (·.add (0 * sz))) (h - 0) (k - 0))) :=
 ZZ fun σ w m _ hn => by
  have hb : ∀ (i y : Nat) (ik : IntKind) (cd : BoundsCode), i ≤ y → (Instr.sliceBound (.int ik (i : Int)) y cd).run P w = .ok i w := fun i y ik cd hh => by
   simp [Instr.sliceBound, asIntOf, hh]
  cases hhi with
  | some g1 e1 => cases hmx with
   | some g2 e2 => subst e1; subst e2; simp [execOp, hn.ev hx, hn.ev g1, hn.ev g2, Instr.sliceAt, Instr.slice, run_underlying ht, Instr.sliceBounds, hz, hb _ _ _ _ h1, hb _ _ _ _ h2]
end slice3
end Go.Proofs.Ytnppknioifgdfaa
namespace Go.Proofs.Ytnppknioifgdfaa
set_option linter.all false
set_option maxRecDepth 4000
open Go.RowKit
def Zp (s : Str) : Int := if s = [43] ∨ s = [45] ∨ s = [42] ∨ s = [47] ∨ s = [60] ∨ s = [61] ∨ s = [58, 61] then 2 else if s = [112, 114, 105, 110, 116] ∨ s = [114, 101, 102] ∨ s = [33] then 1 else if s = [114, 101, 97, 100] then 0 else -1
def zBr (t : Cd) : Bool := decide (1 ≤ t.kind) && decide (t.kind ≤ 5)
def Zq (t : Cd) (n : Nat) : Bool := (t.kids.take n).all zBr
structure Shp where
 kids : Int
 atoms : Int
 name : Bool
 param : Bool
 n : Bool
 arms : Bool
abbrev Shp.v (s : Shp) : Value := .agg #[.int .i64 s.kids, .int .i64 s.atoms, .bool s.name, .bool s.param, .bool s.n, .bool s.arms]
def zCb (p : Int) : List (Int × Shp) := [(1, ⟨0, 0, true, false, false, false⟩), (2, ⟨0, 0, false, false, true, false⟩), (3, ⟨0, 0, false, false, true, false⟩), (4, ⟨0, 0, false, false, false, false⟩), (5, ⟨1, 0, true, false, false, false⟩),
 (6, ⟨2, -1, false, false, false, false⟩), (7, ⟨2, 0, true, false, false, false⟩), (8, ⟨2, 0, true, false, false, false⟩), (9, ⟨2, 0, true, true, false, false⟩), (10, ⟨3, 1, false, false, false, false⟩), (11, ⟨p, -1, true, false, false, false⟩),
 (12, ⟨-1, -1, true, false, false, false⟩), (13, ⟨1, 1, false, false, false, true⟩), (14, ⟨1, -1, true, false, false, false⟩), (15, ⟨1, 0, true, false, false, true⟩)]
def shZ : Shp := ⟨0, 0, false, false, false, false⟩
def shG (t : Cd) : Shp := (z5 t.kind (zCb (Zp t.name))).getD shZ
def shB (t : Cd) : Bool := (z5 t.kind (zCb (Zp t.name))).isSome
theorem zEb (k : Int) : ∀ l : List (Int × Shp), z5 k (l.map fun p => (p.1, p.2.v)) = (z5 k l).map Shp.v
 | [] => rfl
 | (a, v) :: r => by simp only [List.map_cons, z5]; split; rfl; exact zEb k r
theorem sh_look (t : Cd) {F : List (Int × Value)} (hF : F = (zCb (Zp t.name)).map fun p => (p.1, p.2.v)) : (match z5 t.kind F with | some u => (u, true) | none => (shZ.v, false)) = ((shG t).v, shB t) := by
 subst hF
 rw [zEb]; unfold shG shB
 cases z5 t.kind (zCb (Zp t.name)) <;> rfl
theorem zEr (t : Cd) : (t.kind = 1 ∨ t.kind = 2 ∨ t.kind = 3 ∨ t.kind = 4 ∨ t.kind = 5 ∨ t.kind = 6 ∨ t.kind = 7 ∨ t.kind = 8 ∨ t.kind = 9 ∨ t.kind = 10 ∨ t.kind = 11 ∨ t.kind = 12 ∨ t.kind = 13 ∨ t.kind = 14 ∨ t.kind = 15) ∨ (¬ t.kind = 1 ∧ ¬ t.kind = 2 ∧ ¬ t.kind = 3 ∧ ¬ t.kind = 4 ∧ ¬ t.kind = 5 ∧ ¬ t.kind = 6 ∧ ¬ t.kind = 7 ∧ ¬ t.kind = 8 ∧ ¬ t.kind = 9 ∧ ¬ t.kind = 10 ∧ ¬ t.kind = 11 ∧ ¬ t.kind = 12 ∧ ¬ t.kind = 13 ∧ ¬ t.kind = 14 ∧ ¬ t.kind = 15) := by omega
theorem sh_none {t : Cd} (h : ¬ t.kind = 1 ∧ ¬ t.kind = 2 ∧ ¬ t.kind = 3 ∧ ¬ t.kind = 4 ∧ ¬ t.kind = 5 ∧ ¬ t.kind = 6 ∧ ¬ t.kind = 7 ∧ ¬ t.kind = 8 ∧ ¬ t.kind = 9 ∧ ¬ t.kind = 10 ∧ ¬ t.kind = 11 ∧ ¬ t.kind = 12 ∧ ¬ t.kind = 13 ∧ ¬ t.kind = 14 ∧ ¬ t.kind = 15) : shB t = false ∧ shG t = shZ := by
 have : z5 t.kind (zCb (Zp t.name)) = none := by unfold zCb; simp only [z5]; obtain ⟨h1, h2, h3, h4, h5, h6, h7, h8, h9, h10, h11, h12, h13, h14, h15⟩ := h; simp only [*, if_false]
 unfold shG shB; rw [this]; exact ⟨rfl, rfl⟩
theorem sh_cases (t : Cd) : (shB t = false ∧ shG t = shZ) ∨ t.kind = 11 ∨ ((shG t).atoms ≤ 0 ∨ (0 ≤ (shG t).kids ∧ (shG t).atoms ≤ (shG t).kids)) := by
 rcases zEr t with h | h
 ·right
  rcases h with h | h | h | h | h | h | h | h | h | h | h | h | h | h | h
  all_goals first | (exact .inl h) | (right; unfold shG zCb; simp only [z5, h]; simp)
 ·exact .inl (sh_none h)
theorem sh_11 {t : Cd} (h : t.kind = 11) : shG t = ⟨Zp t.name, -1, true, false, false, false⟩ ∧ shB t = true := by unfold shG shB zCb; simp [z5, h]
def Zn (t : Cd) : Nat := if (shG t).atoms < 0 then t.kids.length else (shG t).atoms.toNat
def nameOk (l : List Str) : Bool := !decide ([] ∈ l)
def Z7 (k : Int) (i : Nat) (a : Ca) : Bool := nameOk a.vars && !decide (a.name = []) && (if k = 13 then !a.tail else if i = 0 then decide (a.name = [114, 101, 116, 117, 114, 110]) && decide (a.vars.length = 1) && !a.tail else (a.tail && decide (a.vars.length = 1)) || (!a.tail && decide (a.vars.length = 2)))
def Zw (k : Int) : Nat → List Ca → Bool
 | _, [] => true
 | i, a :: l => Z7 k i a && Zw k (i + 1) l
def zBv (t : Cd) : Bool := (shB t && !(decide (t.kind = 11) && decide ((shG t).kids < 0))) && !(decide (0 ≤ (shG t).kids) && !decide ((t.kids.length : Int) = (shG t).kids)) && !((shG t).name == decide (t.name = [])) && !((shG t).param == decide (t.param = [])) && !(!(shG t).n && !decide (t.n = 0)) && !((shG t).arms == decide (t.arms.length = 0)) &&
 !(decide (t.kind = 3) && !decide (t.n = 0) && !decide (t.n = 1))
def zCK (t : Cd) : Bool :=
 if t.kind = 1 then decide (t.kids.length = 0) && decide (t.arms.length = 0) && !decide (t.name = []) && decide (t.param = []) && decide (t.n = 0)
 else if t.kind = 2 then decide (t.kids.length = 0) && decide (t.arms.length = 0) && decide (t.name = []) && decide (t.param = [])
 else if t.kind = 3 then decide (t.kids.length = 0) && decide (t.arms.length = 0) && decide (t.name = []) && decide (t.param = []) && (decide (t.n = 0) || decide (t.n = 1))
 else if t.kind = 4 then decide (t.kids.length = 0) && decide (t.arms.length = 0) && decide (t.name = []) && decide (t.param = []) && decide (t.n = 0)
 else if t.kind = 5 then decide (t.kids.length = 1) && decide (t.arms.length = 0) && !decide (t.name = []) && decide (t.param = []) && decide (t.n = 0)
 else if t.kind = 6 then decide (t.kids.length = 2) && decide (t.arms.length = 0) && decide (t.name = []) && decide (t.param = []) && decide (t.n = 0) && Zq t 2
 else if t.kind = 7 ∨ t.kind = 8 then decide (t.kids.length = 2) && decide (t.arms.length = 0) && !decide (t.name = []) && decide (t.param = []) && decide (t.n = 0)
 else if t.kind = 9 then decide (t.kids.length = 2) && decide (t.arms.length = 0) && !decide (t.name = []) && !decide (t.param = []) && decide (t.n = 0)
 else if t.kind = 10 then decide (t.kids.length = 3) && decide (t.arms.length = 0) && decide (t.name = []) && decide (t.param = []) && decide (t.n = 0) && Zq t 1
 else if t.kind = 11 then decide ((t.kids.length : Int) = Zp t.name) && decide (t.arms.length = 0) && !decide (t.name = []) && decide (t.param = []) && decide (t.n = 0) && Zq t t.kids.length
 else if t.kind = 12 then decide (t.arms.length = 0) && !decide (t.name = []) && decide (t.param = []) && decide (t.n = 0) && Zq t t.kids.length
 else if t.kind = 13 then decide (t.kids.length = 1) && decide (0 < t.arms.length) && decide (t.name = []) && decide (t.param = []) && decide (t.n = 0) && Zq t 1
 else if t.kind = 14 then decide (t.kids.length = 1) && decide (t.arms.length = 0) && !decide (t.name = []) && decide (t.param = []) && decide (t.n = 0) && Zq t 1
 else if t.kind = 15 then decide (t.kids.length = 1) && decide (0 < t.arms.length) && !decide (t.name = []) && decide (t.param = []) && decide (t.n = 0)
 else false
theorem any_not {l : List Cd} : l.any (fun u => !zBr u) = !(l.all zBr) := by induction l with | nil => rfl | cons x l ih => simp only [List.any_cons, List.all_cons, ih]; cases zBr x <;> rfl
theorem head_PC (t : Cd) : (zBv t && Zq t (Zn t)) = zCK t := by
 have key : ∀ (k : Int) (s : Shp), t.kind = k → shG t = s → shB t = true → (zBv t && Zq t (Zn t)) = ((!(decide (k = 11) && decide (s.kids < 0))) && !(decide (0 ≤ s.kids) && !decide ((t.kids.length : Int) = s.kids)) && !(s.name == decide (t.name = [])) && !(s.param == decide (t.param = [])) && !(!s.n && !decide (t.n = 0)) && !(s.arms == decide (t.arms.length = 0)) &&
   !(decide (k = 3) && !decide (t.n = 0) && !decide (t.n = 1)) && Zq t (if s.atoms < 0 then t.kids.length else s.atoms.toNat)) := by
  intro k s hk hs hb
  unfold zBv Zn
  rw [hs, hb, hk]; simp only [Bool.true_and]
 have hz : Zq t 0 = true := by simp [Zq]
 rcases zEr t with h | h0
 ·rcases h with h | h | h | h | h | h | h | h | h | h | h | h | h | h | h
  all_goals
   rw [key _ _ h (by unfold shG zCb; simp only [z5, h]; rfl) (by unfold shB zCb; simp only [z5, h]; rfl)]
   unfold zCK
   simp only [h]
   rw [Bool.eq_iff_iff]
   by_cases h1 : t.name = [] <;> by_cases h2 : t.param = [] <;> by_cases h3 : t.n = 0 <;> by_cases h4 : t.arms.length = 0 <;> simp [h1, h2, h3, h4] <;> first | (intros; exact hz) | (intro hat; omega) | (by_cases hl1 : t.kids.length = 1 <;> simp [hl1, hz] <;> (intros; omega)) | (by_cases hl2 : t.kids.length = 2 <;> simp [hl2, hz] <;> omega) | omega | grind
 ·obtain ⟨hb, -⟩ := sh_none h0
  obtain ⟨h1, h2, h3, h4, h5, h6, h7, h8, h9, h10, h11, h12, h13, h14, h15⟩ := h0
  unfold zBv zCK
  rw [hb]
  simp [*]
mutual
def ZB : Cd → Bool
 | ⟨k, s, p, n, ks, az⟩ => zCK ⟨k, s, p, n, ks, az⟩ && Zw k 0 az && zDG ks && zDH az
def zDG : List Cd → Bool
 | [] => true
 | t :: ts => ZB t && zDG ts
def zDH : List Ca → Bool
 | [] => true
 | ⟨_, _, _, b⟩ :: ts => ZB b && zDH ts
end
theorem zDw : ∀ l : List Cd, zDG l = l.all ZB
 | [] => by simp [zDG]
 | t :: ts => by simp [zDG, zDw ts]
theorem zDt : ∀ l : List Ca, zDH l = l.all fun a => ZB a.body
 | [] => by simp [zDH]
 | ⟨s, l, tl, b⟩ :: ts => by simp [zDH, zDt ts, Ca.body]
theorem zAU (t : Cd) : ZB t = (zCK t && Zw t.kind 0 t.arms && t.kids.all ZB && t.arms.all fun a => ZB a.body) := by
 obtain ⟨k, s, p, n, ks, az⟩ := t
 rw [ZB, zDw, zDt]; rfl
theorem natoms_le {t : Cd} (h1 : shB t = true) (h2 : ¬0 ≤ (shG t).kids ∨ (t.kids.length : Int) = (shG t).kids) (h3 : ¬(shG t).atoms < 0) : Zn t ≤ t.kids.length := by
 unfold Zn; rw [if_neg h3]
 rcases sh_cases t with h | h | h
 ·rw [h.1] at h1; cases h1
 ·rw [(sh_11 h).1] at h3; exact absurd (by show (-1 : Int) < 0; decide) h3
 ·omega
theorem headP_bad {t : Cd} (h : (((((shB t = false ∨ t.kind = 11 ∧ (shG t).kids < 0) ∨ 0 ≤ (shG t).kids ∧ ¬(t.kids.length : Int) = (shG t).kids) ∨ ((shG t).name == decide (t.name = [])) = true) ∨ ((shG t).param == decide (t.param = [])) = true) ∨ (shG t).n = false ∧ ¬t.n = 0) ∨ ((shG t).arms == decide ((t.arms.length : Int) = 0)) = true) : zBv t = false := by
 rw [show decide ((t.arms.length : Int) = 0) = decide (t.arms.length = 0) from decide_eq_decide.2 (by omega)] at h
 unfold zBv
 rcases h with (((((h | h) | h) | h) | h) | h) | h
 all_goals first | (rw [h]; simp; done) | (simp [h.1, h.2]; done) | (simp [h])
theorem headP_bad3 {t : Cd} (h : (t.kind = 3 ∧ ¬t.n = 0) ∧ ¬t.n = 1) : zBv t = false := by unfold zBv; simp [h.1.1, h.1.2, h.2]
theorem zEa {t : Cd} (h : (((((shB t = true ∧ (¬t.kind = 11 ∨ ¬(shG t).kids < 0)) ∧ (¬0 ≤ (shG t).kids ∨ (t.kids.length : Int) = (shG t).kids)) ∧ ((shG t).name == decide (t.name = [])) = false) ∧ ((shG t).param == decide (t.param = [])) = false) ∧ ((shG t).n = true ∨ t.n = 0)) ∧ ((shG t).arms == decide ((t.arms.length : Int) = 0)) = false) (h3 : (¬t.kind = 3 ∨ t.n = 0) ∨ t.n = 1) : zBv t = true := by
 rw [show decide ((t.arms.length : Int) = 0) = decide (t.arms.length = 0) from decide_eq_decide.2 (by omega)] at h
 obtain ⟨⟨⟨⟨⟨⟨h1, h2⟩, h4⟩, h5⟩, h6⟩, h7⟩, h8⟩ := h
 unfold zBv
 rw [h1, h5, h6, h8]
 have e1 : (decide (t.kind = 11) && decide ((shG t).kids < 0)) = false := by rcases h2 with h | h <;> simp [h]
 have e2 : (decide (0 ≤ (shG t).kids) && !decide ((t.kids.length : Int) = (shG t).kids)) = false := by rcases h4 with h | h <;> simp [h]
 have e3 : (!(shG t).n && !decide (t.n = 0)) = false := by rcases h7 with h | h <;> simp [h]
 have e4 : (decide (t.kind = 3) && !decide (t.n = 0) && !decide (t.n = 1)) = false := by rcases h3 with (h | h) | h <;> simp [h]
 rw [e1, e2, e3, e4]; rfl
theorem zDF (t : Cd) : ZB t = (zCK t && Zw t.kind 0 t.arms && (ZF t).all ZB) := by
 rw [zAU, ZF, List.all_append, List.all_map, ← Bool.and_assoc]; rfl
theorem zBW {t : Cd} (h : zBv t = false ∨ Zw t.kind 0 t.arms = false ∨ Zq t (Zn t) = false ∨ (ZF t).all ZB = false) : ZB t = false := by
 rw [zDF, ← head_PC]
 rcases h with h | h | h | h <;> simp [h]
theorem right_all {t : Cd} (h1 : zBv t = true) (h2 : Zw t.kind 0 t.arms = true) (h3 : Zq t (Zn t) = true) : ZB t = (ZF t).all ZB := by
 rw [zDF, ← head_PC, h1, h2, h3]; simp
theorem zEI {t : Cd} {n : Nat} {b : Bool} (hn : n = Zn t) (h : ((List.drop 0 (List.take n t.kids)).any fun u => !zBr u) = b) : Zq t (Zn t) = !b := by
 rw [List.drop_zero, any_not] at h
 rw [← h, ← hn]; unfold Zq; simp
theorem all_no {α : Type} {p : α → Bool} {l : List α} {x : α} (h : x ∈ l) (hx : p x = false) : l.all p = false := by rw [List.all_eq_false]; exact ⟨x, h, by simp [hx]⟩
theorem all_snoc {α : Type} {p : α → Bool} {l : List α} {i : Nat} {x : α} (h : (l.take i).all p = true) (hi : l[i]? = some x) (hx : p x = true) : (l.take (i + 1)).all p = true := by rw [List.take_succ, hi, List.all_append, h]; simp [hx]
end Go.Proofs.Ytnppknioifgdfaa
namespace Go.Proofs.Ytnppknioifgdfaa
open Go.Proofs.Try
set_option linter.all false
set_option maxRecDepth 4000
open Go.RowKit
def idxA {α : Type} [DecidableEq α] : Nat → List α → α → Int
 | _, [], _ => -1
 | i, x :: l, s => if s = x then (i : Int) else idxA (i + 1) l s
theorem idxA_pos {α : Type} [DecidableEq α] (s : α) : ∀ (l : List α) (i : Nat), decide (0 ≤ idxA i l s) = decide (s ∈ l)
 | [], i => by simp [idxA]
 | x :: l, i => by
  simp only [idxA, List.mem_cons]
  by_cases h : s = x
  ·simp [h]
  ·simp only [h, if_false, false_or]; exact idxA_pos s l (i + 1)
theorem idxA_mem {α : Type} [DecidableEq α] (s : α) (l : List α) (i : Nat) : 0 ≤ idxA i l s ↔ s ∈ l := by
 have h := idxA_pos s l i
 rwa [decide_eq_decide] at h
set_option maxHeartbeats 400000 in
theorem indexS_c {w : World} {m : Mem} {o_l : Option Addr} {c_l : Nat} {l : List Str} {s : Str} (hA : Agree w m) (h_l : Strs m o_l l.length c_l l) : FnV Try.prog 84 #[.slice o_l l.length c_l, S s] w m (fun _ _ v => v = .int .i64 (idxA 0 l s)) := by
 have hb_l := h_l.big; have hc_l := h_l.cap
 refine zZ (vs := [_, _]) func84 rfl rfl rfl fun a0 hfr0 => ?_
 have hst0 := zW hA (zg [] _ w m)
 have hM : MLe m m := MLe.refl m
 refine zB fun _ hK1 => ?_
 refine rp0 hst0 hfr0 (.cons rfl (zD rfl) <| .nil) fun a1 w1 m1 hst1 hle1 hk1 => ?_
 have hfr1 := hk1.fr (.o 0 <| .o 1 <| .nil)
 replace h_l := h_l.mono hle1
 clear hst0 hfr0 hk1
 refine hK1 _ _ ?_
 refine zB fun _ hK2 => ?_
 refine zB fun _ hK3 => ?_
 refine rp0 hst1 hfr1 (.cons rfl (zC rfl) <| .cons rfl (zl rfl underlying45) <| .cons rfl (zC rfl) <| .nil) fun a2 w2 m2 hst2 hle2 hk2 => ?_
 have hfr2 := hk2.fr (.o 0 <| .o 1 <| .n 7 <| .n 8 <| .nil)
 replace h_l := h_l.mono hle2
 clear hst1 hfr1 hk2
 refine hK3 _ _ ?_
 refine zT ?_
 refine zx (T := [(0, _), (1, _), (7, _)]) (fun (y : Nat) => ([(8, .int .i64 (y : Int))] : List (Nat × Value))) (fun _ => _) (fun (y : Nat) m => (y ≤ l.length) ∧ (idxA 0 l s = idxA y (l.drop y) s)) (fun y => l.length - y) (0) ⟨hst2, MLe.refl _, hfr2.sub (.c <| .c <| .c <| .c <| .nil), ⟨Nat.zero_le _, rfl⟩⟩ fun y a3 w3 m3 hh3 => ?_
 have hst3 := hh3.st; have hle3 := hh3.le; have hfr3 := hh3.fr; have hrel := hh3.rel; clear hh3
 replace h_l := h_l.mono hle3
 clear hst2 hfr2
 obtain ⟨hyn, hrem⟩ := hrel
 have hlh3 := hle3
 refine zB fun _ hK5 => ?_
 refine rp0 hst3 hfr3 (.cons rfl (ZA rfl rfl) <| .nil) fun a4 w4 m4 hst4 hle4 hk4 => ?_
 have hfr4 := hk4.fr (.o 8 <| .o 0 <| .o 1 <| .o 7 <| .n 9 <| .nil)
 replace h_l := h_l.mono hle4
 have hlh4 := hlh3.trans hle4
 clear hst3 hfr3 hk4
 refine hK5 _ _ ?_
 refine zB fun _ hK6 => ?_
 refine zE hfr4 rfl rfl (fun hb9 => ?_) (fun hb9 => ?_)
 ·try simp only [nqs] at hb9
  refine zR ?_
  refine hK6 _ _ ?_
  refine zB fun _ hK7 => ?_
  refine zT ?_
  refine zB fun _ hK8 => ?_
  refine rp0 hst4 hfr4 (.cons rfl (zC rfl) <| .cons rfl (zD rfl) <| .nil) fun a5 w5 m5 hst5 hle5 hk5 => ?_
  have hfr5 := hk5.fr (.o 8 <| .o 0 <| .o 1 <| .o 7 <| .n 5 <| .nil)
  clear hst4 hfr4 hk5
  refine hK8 _ _ ?_
  refine zB fun _ hK9 => ?_
  replace h_l := h_l.mono hle5
  obtain ⟨p10, vs10, x10, ho10, hd10, hm_x10, ht10, hcv10, hl10, hv10⟩ := h_l.nth (k := y) (by omega)
  cases ho10
  subst hv10
  try rw [hd10] at hrem
  try simp only [idxA] at hrem
  refine rp0 hst5 hfr5 (.cons rfl (zC rfl) <| .cons rfl (zC rfl) <| .cons rfl (zC rfl) <| .cons rfl (zI (k := y) rfl rfl underlying45 sizeOf9 rfl (by omega)) <| .cons rfl (zk rfl hcv10 isAgg9 rfl) <| .cons rfl (zd rfl rfl) <| .nil) fun a6 w6 m6 hst6 hle6 hk6 => ?_
  have hfr6 := hk6.fr (.o 8 <| .o 0 <| .o 1 <| .o 7 <| .o 5 <| .n 16 <| .nil)
  clear hst5 hfr5 hk6
  refine hK9 _ _ ?_
  refine zE hfr6 rfl rfl (fun hb16 => ?_) (fun hb16 => ?_)
  ·try simp only [nqs] at hb16
   refine zB fun _ hK11 => ?_
   refine rp0 hst6 hfr6 (.cons rfl (zC rfl) <| .cons rfl (zD rfl) <| .nil) fun a7 w7 m7 hst7 hle7 hk7 => ?_
   have hfr7 := hk7.fr (.o 8 <| .n 4 <| .nil)
   clear hst6 hfr6 hk7
   refine hK11 _ _ ?_
   refine zN ?_
   repeat (with_reducible first | refine zH ?_ | refine zG ?_)
   exact zO hst7 hfr7 rfl (.tmp rfl <| .nil) (by refine congrArg (Value.int _) ?_; simp_all)
  ·try simp only [nqs] at hb16
   refine zR ?_
   refine hK7 _ _ ?_
   refine rp0 hst6 hfr6 (.cons rfl (z6 rfl rfl ⟨by omega, by omega⟩) <| .cons rfl (zC rfl) <| .nil) fun a7 w7 m7 hst7 hle7 hk7 => ?_
   have hfr7 := hk7.fr (.o 0 <| .o 1 <| .o 7 <| .n 8 <| .nil)
   clear hst6 hfr6 hk7
   have zq1 := hle6.trans hle7
   have zq2 := hle5.trans zq1
   have hlh7 := hlh4.trans zq2
   exact ⟨y + 1, m7, by show l.length - (y + 1) < l.length - y; omega, ⟨hst7, hlh7, hfr7.sub (.c <| .c <| .c <| .c <| .nil), ⟨by show y + 1 ≤ l.length; omega, by simp_all⟩⟩⟩
 ·try simp only [nqs] at hb9
  have hge : y = l.length := by omega
  rw [List.drop_of_length_le (by omega)] at hrem
  simp only [idxA] at hrem
  refine zv ?_
  refine hK2 _ _ ?_
  refine zB fun _ hK13 => ?_
  refine rp0 hst4 hfr4 (.cons rfl (zD rfl) <| .nil) fun a5 w5 m5 hst5 hle5 hk5 => ?_
  have hfr5 := hk5.fr (.o 8 <| .n 4 <| .nil)
  clear hst4 hfr4 hk5
  refine hK13 _ _ ?_
  refine zN ?_
  repeat (with_reducible first | refine zH ?_ | refine zG ?_)
  exact zO hst5 hfr5 rfl (.tmp rfl <| .nil) (by refine congrArg (Value.int _) ?_; simp_all)
set_option maxHeartbeats 400000 in
theorem containsS_c {w : World} {m : Mem} {o_l : Option Addr} {c_l : Nat} {l : List Str} {s : Str} (hA : Agree w m) (h_l : Strs m o_l l.length c_l l) : FnV Try.prog 72 #[.slice o_l l.length c_l, S s] w m (fun _ _ v => v = .bool (decide (s ∈ l))) := by
 have hb_l := h_l.big; have hc_l := h_l.cap
 refine zZ (vs := [_, _]) func72 rfl rfl rfl fun a0 hfr0 => ?_
 have hst0 := zW hA (zg [] _ w m)
 have hM : MLe m m := MLe.refl m
 refine zB fun _ hK1 => ?_
 refine rp0 hst0 hfr0 (.cons rfl (zD rfl) <| .nil) fun a1 w1 m1 hst1 hle1 hk1 => ?_
 have hfr1 := hk1.fr (.o 0 <| .o 1 <| .nil)
 replace h_l := h_l.mono hle1
 clear hst0 hfr0 hk1
 refine hK1 _ _ ?_
 refine zB fun _ hK2 => ?_
 refine rp0 hst1 hfr1 (.cons rfl (zC rfl) <| .cons rfl (zC rfl) <| .cons rfl (zX rfl (.cons rfl <| .cons rfl <| .nil) call84 (fun w m hK => by have hle_ := KC.le hK; have hA := KC.agree hK; have h_l := h_l.mono hle_; exact indexS_c hA (by first | assumption | omega | simp_all))) <| .cons rfl (zDi rfl rfl) <| .cons rfl (zD rfl) <| .nil) fun a2 w2 m2 hst2 hle2 hk2 => ?_
 have hfr2 := hk2.fr (.n 4 <| .nil)
 clear hst1 hfr1 hk2
 refine hK2 _ _ ?_
 refine zN ?_
 repeat (with_reducible first | refine zH ?_ | refine zG ?_)
 exact zO hst2 hfr2 rfl (.tmp rfl <| .nil) (by refine congrArg Value.bool ?_; exact decide_eq_decide.2 (idxA_mem s l 0))
set_option maxHeartbeats 400000 in
theorem indexfCd_c {w : World} {m : Mem} {o_l : Option Addr} {c_l : Nat} {l : List Cd} {cid : Nat} {cap : List Value} {φ : Cd → Bool} (hA : Agree w m) (h_l : Cds m o_l l.length c_l l) (hc : ∀ args w, (callFunc cid args).run Try.prog w = .ok (.enter cid args) w) (hφ : ∀ w m' (t : Cd) vs, MLe m m' → Agree w m' → CdR m' t vs → t ∈ l → FnV Try.prog cid ([Value.agg vs.toArray] ++ cap).toArray w m' (fun _ _ v => v = .bool (φ t))) : FnV Try.prog 61 #[.slice o_l l.length c_l, .func (.func cid) #[] cap.toArray] w m (fun _ _ v => ∃ i : Int, v = .int .i64 i ∧ decide (0 ≤ i) = l.any φ) := by
 have hb_l := h_l.big; have hc_l := h_l.cap
 refine zZ (vs := [_, _]) func61 rfl rfl rfl fun a0 hfr0 => ?_
 have hst0 := zW hA (zg [] _ w m)
 have hM : MLe m m := MLe.refl m
 refine zB fun _ hK1 => ?_
 refine rp0 hst0 hfr0 (.cons rfl (zD rfl) <| .nil) fun a1 w1 m1 hst1 hle1 hk1 => ?_
 have hfr1 := hk1.fr (.o 0 <| .o 1 <| .nil)
 replace h_l := h_l.mono hle1
 replace hM := hM.trans hle1
 clear hst0 hfr0 hk1
 refine hK1 _ _ ?_
 refine zB fun _ hK2 => ?_
 refine zB fun _ hK3 => ?_
 refine rp0 hst1 hfr1 (.cons rfl (zC rfl) <| .cons rfl (zl rfl underlying22) <| .cons rfl (zC rfl) <| .nil) fun a2 w2 m2 hst2 hle2 hk2 => ?_
 have hfr2 := hk2.fr (.o 0 <| .o 1 <| .n 7 <| .n 8 <| .nil)
 replace h_l := h_l.mono hle2
 replace hM := hM.trans hle2
 clear hst1 hfr1 hk2
 refine hK3 _ _ ?_
 refine zT ?_
 refine zx (T := [(0, _), (1, _), (7, _)]) (fun (y : Nat) => ([(8, .int .i64 (y : Int))] : List (Nat × Value))) (fun _ => _) (fun (y : Nat) m => (y ≤ l.length) ∧ (l.any φ = (l.drop y).any φ)) (fun y => l.length - y) (0) ⟨hst2, MLe.refl _, hfr2.sub (.c <| .c <| .c <| .c <| .nil), ⟨Nat.zero_le _, rfl⟩⟩ fun y a3 w3 m3 hh3 => ?_
 have hst3 := hh3.st; have hle3 := hh3.le; have hfr3 := hh3.fr; have hrel := hh3.rel; clear hh3
 replace h_l := h_l.mono hle3
 clear hst2 hfr2
 replace hM := hM.trans hle3
 obtain ⟨hyn, hrem⟩ := hrel
 have hlh3 := hle3
 refine zB fun _ hK5 => ?_
 refine rp0 hst3 hfr3 (.cons rfl (ZA rfl rfl) <| .nil) fun a4 w4 m4 hst4 hle4 hk4 => ?_
 have hfr4 := hk4.fr (.o 8 <| .o 0 <| .o 1 <| .o 7 <| .n 9 <| .nil)
 replace h_l := h_l.mono hle4
 have hlh4 := hlh3.trans hle4
 replace hM := hM.trans hle4
 clear hst3 hfr3 hk4
 refine hK5 _ _ ?_
 refine zB fun _ hK6 => ?_
 refine zE hfr4 rfl rfl (fun hb9 => ?_) (fun hb9 => ?_)
 ·try simp only [nqs] at hb9
  refine zR ?_
  refine hK6 _ _ ?_
  refine zB fun _ hK7 => ?_
  refine zT ?_
  refine zB fun _ hK8 => ?_
  refine rp0 hst4 hfr4 (.cons rfl (zC rfl) <| .cons rfl (zD rfl) <| .nil) fun a5 w5 m5 hst5 hle5 hk5 => ?_
  have hfr5 := hk5.fr (.o 8 <| .o 0 <| .o 1 <| .o 7 <| .n 5 <| .nil)
  clear hst4 hfr4 hk5
  refine hK8 _ _ ?_
  refine zB fun _ hK9 => ?_
  replace h_l := h_l.mono hle5
  obtain ⟨p10, vs10, x10, ho10, hd10, hm_x10, ht10, hcv10, hl10, hv10⟩ := h_l.nth (k := y) (by omega)
  cases ho10
  obtain ⟨⟨oK10, cK10, oA10, cA10⟩, rfl, ⟨hik10, hin10⟩, hkk10, haa10⟩ := hv10.open_
  dsimp only at hkk10 haa10
  have hbg10 := hkk10.big; have hcp10 := hkk10.cap; have hbh10 := haa10.big; have hcq10 := haa10.cap
  try rw [hd10] at hrem
  try simp only [List.any_cons, List.any_nil] at hrem
  replace hM := hM.trans hle5
  refine rp0 hst5 hfr5 (.cons rfl (zC rfl) <| .cons rfl (zC rfl) <| .cons rfl (zC rfl) <| .cons rfl (zI (k := y) rfl rfl underlying22 sizeOf25 rfl (by omega)) <| .cons rfl (zY rfl hcv10 isAgg25 sizeOf25 rfl rfl) <| .cons rfl (zX rfl (.cons rfl <| .nil) hc (fun w m hK => by have hle_ := KC.le hK; have hA := KC.agree hK; have hM := hM.trans hle_; have h_l := h_l.mono hle_; have hcv10 := hcv10.mono hle_; have hv10 := hv10.mono hle_; have hkk10 := hkk10.mono hle_; have haa10 := haa10.mono hle_; exact hφ w m _ _ hM hA (by assumption) hm_x10)) <| .nil) fun a6 w6 m6 hst6 hle6 hk6 => ?_
  have hfr6 := hk6.fr (.o 8 <| .o 0 <| .o 1 <| .o 7 <| .o 5 <| .n 16 <| .nil)
  clear hst5 hfr5 hk6
  refine hK9 _ _ ?_
  refine zE hfr6 rfl rfl (fun hb16 => ?_) (fun hb16 => ?_)
  ·try simp only [nqs] at hb16
   have hres : decide ((0 : Int) ≤ (y : Int)) = l.any φ := by rw [hrem, hb16]; simp
   refine zB fun _ hK11 => ?_
   refine rp0 hst6 hfr6 (.cons rfl (zC rfl) <| .cons rfl (zD rfl) <| .nil) fun a7 w7 m7 hst7 hle7 hk7 => ?_
   have hfr7 := hk7.fr (.o 8 <| .n 4 <| .nil)
   clear hst6 hfr6 hk7
   refine hK11 _ _ ?_
   refine zN ?_
   repeat (with_reducible first | refine zH ?_ | refine zG ?_)
   exact zO hst7 hfr7 rfl (.tmp rfl <| .nil) (⟨_, rfl, by first | exact hres | (rw [hrem]; rfl)⟩)
  ·try simp only [nqs] at hb16
   refine zR ?_
   refine hK7 _ _ ?_
   refine rp0 hst6 hfr6 (.cons rfl (z6 rfl rfl ⟨by omega, by omega⟩) <| .cons rfl (zC rfl) <| .nil) fun a7 w7 m7 hst7 hle7 hk7 => ?_
   have hfr7 := hk7.fr (.o 0 <| .o 1 <| .o 7 <| .n 8 <| .nil)
   clear hst6 hfr6 hk7
   have zq1 := hle6.trans hle7
   have zq2 := hle5.trans zq1
   have hlh7 := hlh4.trans zq2
   exact ⟨y + 1, m7, by show l.length - (y + 1) < l.length - y; omega, ⟨hst7, hlh7, hfr7.sub (.c <| .c <| .c <| .c <| .nil), ⟨by show y + 1 ≤ l.length; omega, by rw [hrem, hb16]; rfl⟩⟩⟩
 ·try simp only [nqs] at hb9
  have hge : y = l.length := by omega
  rw [List.drop_of_length_le (by omega)] at hrem
  simp only [List.any_cons, List.any_nil] at hrem
  refine zv ?_
  refine hK2 _ _ ?_
  refine zB fun _ hK13 => ?_
  refine rp0 hst4 hfr4 (.cons rfl (zD rfl) <| .nil) fun a5 w5 m5 hst5 hle5 hk5 => ?_
  have hfr5 := hk5.fr (.o 8 <| .n 4 <| .nil)
  clear hst4 hfr4 hk5
  refine hK13 _ _ ?_
  refine zN ?_
  repeat (with_reducible first | refine zH ?_ | refine zG ?_)
  exact zO hst5 hfr5 rfl (.tmp rfl <| .nil) (⟨_, rfl, by first | exact hres | (rw [hrem]; rfl)⟩)
set_option maxHeartbeats 400000 in
theorem zCe {w : World} {m : Mem} {o_l : Option Addr} {c_l : Nat} {l : List Cd} {cid : Nat} {cap : List Value} {φ : Cd → Bool} (hA : Agree w m) (h_l : Cds m o_l l.length c_l l) (hc : ∀ args w, (callFunc cid args).run Try.prog w = .ok (.enter cid args) w) (hφ : ∀ w m' (t : Cd) vs, MLe m m' → Agree w m' → CdR m' t vs → t ∈ l → FnV Try.prog cid ([Value.agg vs.toArray] ++ cap).toArray w m' (fun _ _ v => v = .bool (φ t))) : FnV Try.prog 40 #[.slice o_l l.length c_l, .func (.func cid) #[] cap.toArray] w m (fun _ _ v => v = .bool (l.any φ)) := by
 have hb_l := h_l.big; have hc_l := h_l.cap
 refine zZ (vs := [_, _]) func40 rfl rfl rfl fun a0 hfr0 => ?_
 have hst0 := zW hA (zg [] _ w m)
 have hM : MLe m m := MLe.refl m
 refine zB fun _ hK1 => ?_
 refine rp0 hst0 hfr0 (.cons rfl (zD rfl) <| .nil) fun a1 w1 m1 hst1 hle1 hk1 => ?_
 have hfr1 := hk1.fr (.o 0 <| .o 1 <| .nil)
 replace h_l := h_l.mono hle1
 replace hM := hM.trans hle1
 clear hst0 hfr0 hk1
 refine hK1 _ _ ?_
 refine zB fun _ hK2 => ?_
 refine ra0 (tch := []) hst1 hfr1 (.cons rfl (zC rfl) <| .cons rfl (zC rfl) <| .cons rfl (zm (φ := MP.mem (fun i : Int => .int .i64 i) (fun i _ => decide (0 ≤ i) = l.any φ) (fun _ h => h)) rfl (.cons rfl <| .cons rfl <| .nil) call61 (fun w m hK => by have hle_ := KC.le hK; have hA := KC.agree hK; have hM := hM.trans hle_; have h_l := h_l.mono hle_; exact FnG.mono (indexfCd_c (φ := φ) hA h_l hc (fun w m2 t vs hm ha hv ht => hφ w m2 t vs (hM.trans hm) ha hv ht)) fun _ _ _ _ h => h)) <| .cons rfl (zAI 7 rfl rfl rfl fun y7 => zDi rfl rfl) <| .consA 8 rfl rfl <| .nil) fun a2 w2 m2 hst2 hle2 hk2 => ?_
 have hfr2 := hk2.fr (.nil)
 obtain ⟨i, e3, hi⟩ := hk2.ex 8 rfl
 replace hfr2 := hfr2.cons (hk2.same 4 rfl e3)
 clear hst1 hfr1 hk2
 refine hK2 _ _ ?_
 refine zN ?_
 repeat (with_reducible first | refine zH ?_ | refine zG ?_)
 exact zO hst2 hfr2 rfl (.tmp rfl <| .nil) (by dsimp only at hi; rw [← hi]; rfl)
set_option maxHeartbeats 400000 in
theorem kids_c {w : World} {m : Mem} {s : Str} (hA : Agree w m)  : FnV Try.prog 59 #[S s] w m (fun _ _ v => v = .int .i64 (Zp s)) := by
 refine zZ (vs := [_]) func59 rfl rfl rfl fun a0 hfr0 => ?_
 have hst0 := zW hA (zg [] _ w m)
 have hM : MLe m m := MLe.refl m
 refine zB fun _ hK1 => ?_
 refine rp0 hst0 hfr0 (.cons rfl (zD rfl) <| .nil) fun a1 w1 m1 hst1 hle1 hk1 => ?_
 have hfr1 := hk1.fr (.o 0 <| .nil)
 clear hst0 hfr0 hk1
 refine hK1 _ _ ?_
 refine zB fun _ hK2 => ?_
 refine zB fun _ hK3 => ?_
 refine rp0 hst1 hfr1 (.cons rfl (zC rfl) <| .nil) fun a2 w2 m2 hst2 hle2 hk2 => ?_
 have hfr2 := hk2.fr (.n 3 <| .nil)
 clear hst1 hfr1 hk2
 refine hK3 _ _ ?_
 refine zT ?_
 refine zB fun _ hK4 => ?_
 refine zB fun _ hK5 => ?_
 refine rp0 hst2 hfr2 (.cons rfl (zd rfl rfl) <| .cons rfl (zD rfl) <| .nil) fun a3 w3 m3 hst3 hle3 hk3 => ?_
 have hfr3 := hk3.fr (.o 3 <| .n 4 <| .nil)
 clear hst2 hfr2 hk3
 refine hK5 _ _ ?_
 refine zE hfr3 rfl rfl (fun hb4 => ?_) (fun hb4 => ?_)
 ·try simp only [nqs] at hb4
  refine zR ?_
  refine hK4 _ _ ?_
  refine zE hfr3 rfl rfl (fun hb4x => ?_) (fun hb4x => ?_)
  ·try simp only [nqs] at hb4x
   refine zB fun _ hK6 => ?_
   refine rp0 hst3 hfr3 (.cons rfl (zD rfl) <| .nil) fun a4 w4 m4 hst4 hle4 hk4 => ?_
   have hfr4 := hk4.fr (.n 2 <| .nil)
   clear hst3 hfr3 hk4
   refine hK6 _ _ ?_
   refine zN ?_
   repeat (with_reducible first | refine zH ?_ | refine zG ?_)
   exact zO hst4 hfr4 rfl (.tmp rfl <| .nil) (by refine congrArg (Value.int _) ?_; unfold Zp; simp_all)
  ·exfalso; try simp only [nqs] at hb4x
   first | exact absurd hb4x hb4 | exact absurd hb4 hb4x | simp_all
 ·try simp only [nqs] at hb4
  refine zB fun _ hK8 => ?_
  refine rp0 hst3 hfr3 (.cons rfl (zd rfl rfl) <| .cons rfl (zD rfl) <| .nil) fun a4 w4 m4 hst4 hle4 hk4 => ?_
  have hfr4 := hk4.fr (.o 3 <| .n 4 <| .nil)
  clear hst3 hfr3 hk4
  refine hK8 _ _ ?_
  refine zE hfr4 rfl rfl (fun hb4 => ?_) (fun hb4 => ?_)
  ·try simp only [nqs] at hb4
   refine zR ?_
   refine hK4 _ _ ?_
   refine zE hfr4 rfl rfl (fun hb4x => ?_) (fun hb4x => ?_)
   ·try simp only [nqs] at hb4x
    refine zB fun _ hK9 => ?_
    refine rp0 hst4 hfr4 (.cons rfl (zD rfl) <| .nil) fun a5 w5 m5 hst5 hle5 hk5 => ?_
    have hfr5 := hk5.fr (.n 2 <| .nil)
    clear hst4 hfr4 hk5
    refine hK9 _ _ ?_
    refine zN ?_
    repeat (with_reducible first | refine zH ?_ | refine zG ?_)
    exact zO hst5 hfr5 rfl (.tmp rfl <| .nil) (by refine congrArg (Value.int _) ?_; unfold Zp; simp_all)
   ·exfalso; try simp only [nqs] at hb4x
    first | exact absurd hb4x hb4 | exact absurd hb4 hb4x | simp_all
  ·try simp only [nqs] at hb4
   refine zB fun _ hK11 => ?_
   refine rp0 hst4 hfr4 (.cons rfl (zd rfl rfl) <| .cons rfl (zD rfl) <| .nil) fun a5 w5 m5 hst5 hle5 hk5 => ?_
   have hfr5 := hk5.fr (.o 3 <| .n 4 <| .nil)
   clear hst4 hfr4 hk5
   refine hK11 _ _ ?_
   refine zE hfr5 rfl rfl (fun hb4 => ?_) (fun hb4 => ?_)
   ·try simp only [nqs] at hb4
    refine zR ?_
    refine hK4 _ _ ?_
    refine zE hfr5 rfl rfl (fun hb4x => ?_) (fun hb4x => ?_)
    ·try simp only [nqs] at hb4x
     refine zB fun _ hK12 => ?_
     refine rp0 hst5 hfr5 (.cons rfl (zD rfl) <| .nil) fun a6 w6 m6 hst6 hle6 hk6 => ?_
     have hfr6 := hk6.fr (.n 2 <| .nil)
     clear hst5 hfr5 hk6
     refine hK12 _ _ ?_
     refine zN ?_
     repeat (with_reducible first | refine zH ?_ | refine zG ?_)
     exact zO hst6 hfr6 rfl (.tmp rfl <| .nil) (by refine congrArg (Value.int _) ?_; unfold Zp; simp_all)
    ·exfalso; try simp only [nqs] at hb4x
     first | exact absurd hb4x hb4 | exact absurd hb4 hb4x | simp_all
   ·try simp only [nqs] at hb4
    refine zB fun _ hK14 => ?_
    refine rp0 hst5 hfr5 (.cons rfl (zd rfl rfl) <| .cons rfl (zD rfl) <| .nil) fun a6 w6 m6 hst6 hle6 hk6 => ?_
    have hfr6 := hk6.fr (.o 3 <| .n 4 <| .nil)
    clear hst5 hfr5 hk6
    refine hK14 _ _ ?_
    refine zE hfr6 rfl rfl (fun hb4 => ?_) (fun hb4 => ?_)
    ·try simp only [nqs] at hb4
     refine zR ?_
     refine hK4 _ _ ?_
     refine zE hfr6 rfl rfl (fun hb4x => ?_) (fun hb4x => ?_)
     ·try simp only [nqs] at hb4x
      refine zB fun _ hK15 => ?_
      refine rp0 hst6 hfr6 (.cons rfl (zD rfl) <| .nil) fun a7 w7 m7 hst7 hle7 hk7 => ?_
      have hfr7 := hk7.fr (.n 2 <| .nil)
      clear hst6 hfr6 hk7
      refine hK15 _ _ ?_
      refine zN ?_
      repeat (with_reducible first | refine zH ?_ | refine zG ?_)
      exact zO hst7 hfr7 rfl (.tmp rfl <| .nil) (by refine congrArg (Value.int _) ?_; unfold Zp; simp_all)
     ·exfalso; try simp only [nqs] at hb4x
      first | exact absurd hb4x hb4 | exact absurd hb4 hb4x | simp_all
    ·try simp only [nqs] at hb4
     refine zB fun _ hK17 => ?_
     refine rp0 hst6 hfr6 (.cons rfl (zd rfl rfl) <| .cons rfl (zD rfl) <| .nil) fun a7 w7 m7 hst7 hle7 hk7 => ?_
     have hfr7 := hk7.fr (.o 3 <| .n 4 <| .nil)
     clear hst6 hfr6 hk7
     refine hK17 _ _ ?_
     refine zE hfr7 rfl rfl (fun hb4 => ?_) (fun hb4 => ?_)
     ·try simp only [nqs] at hb4
      refine zR ?_
      refine hK4 _ _ ?_
      refine zE hfr7 rfl rfl (fun hb4x => ?_) (fun hb4x => ?_)
      ·try simp only [nqs] at hb4x
       refine zB fun _ hK18 => ?_
       refine rp0 hst7 hfr7 (.cons rfl (zD rfl) <| .nil) fun a8 w8 m8 hst8 hle8 hk8 => ?_
       have hfr8 := hk8.fr (.n 2 <| .nil)
       clear hst7 hfr7 hk8
       refine hK18 _ _ ?_
       refine zN ?_
       repeat (with_reducible first | refine zH ?_ | refine zG ?_)
       exact zO hst8 hfr8 rfl (.tmp rfl <| .nil) (by refine congrArg (Value.int _) ?_; unfold Zp; simp_all)
      ·exfalso; try simp only [nqs] at hb4x
       first | exact absurd hb4x hb4 | exact absurd hb4 hb4x | simp_all
     ·try simp only [nqs] at hb4
      refine zB fun _ hK20 => ?_
      refine rp0 hst7 hfr7 (.cons rfl (zd rfl rfl) <| .cons rfl (zD rfl) <| .nil) fun a8 w8 m8 hst8 hle8 hk8 => ?_
      have hfr8 := hk8.fr (.o 3 <| .n 4 <| .nil)
      clear hst7 hfr7 hk8
      refine hK20 _ _ ?_
      refine zE hfr8 rfl rfl (fun hb4 => ?_) (fun hb4 => ?_)
      ·try simp only [nqs] at hb4
       refine zR ?_
       refine hK4 _ _ ?_
       refine zE hfr8 rfl rfl (fun hb4x => ?_) (fun hb4x => ?_)
       ·try simp only [nqs] at hb4x
        refine zB fun _ hK21 => ?_
        refine rp0 hst8 hfr8 (.cons rfl (zD rfl) <| .nil) fun a9 w9 m9 hst9 hle9 hk9 => ?_
        have hfr9 := hk9.fr (.n 2 <| .nil)
        clear hst8 hfr8 hk9
        refine hK21 _ _ ?_
        refine zN ?_
        repeat (with_reducible first | refine zH ?_ | refine zG ?_)
        exact zO hst9 hfr9 rfl (.tmp rfl <| .nil) (by refine congrArg (Value.int _) ?_; unfold Zp; simp_all)
       ·exfalso; try simp only [nqs] at hb4x
        first | exact absurd hb4x hb4 | exact absurd hb4 hb4x | simp_all
      ·try simp only [nqs] at hb4
       refine rp0 hst8 hfr8 (.cons rfl (zd rfl rfl) <| .cons rfl (zD rfl) <| .nil) fun a9 w9 m9 hst9 hle9 hk9 => ?_
       have hfr9 := hk9.fr (.o 3 <| .n 4 <| .nil)
       clear hst8 hfr8 hk9
       refine hK4 _ _ ?_
       refine zE hfr9 rfl rfl (fun hb4 => ?_) (fun hb4 => ?_)
       ·try simp only [nqs] at hb4
        refine zB fun _ hK23 => ?_
        refine rp0 hst9 hfr9 (.cons rfl (zD rfl) <| .nil) fun a10 w10 m10 hst10 hle10 hk10 => ?_
        have hfr10 := hk10.fr (.n 2 <| .nil)
        clear hst9 hfr9 hk10
        refine hK23 _ _ ?_
        refine zN ?_
        repeat (with_reducible first | refine zH ?_ | refine zG ?_)
        exact zO hst10 hfr10 rfl (.tmp rfl <| .nil) (by refine congrArg (Value.int _) ?_; unfold Zp; simp_all)
       ·try simp only [nqs] at hb4
        refine zB fun _ hK25 => ?_
        refine zB fun _ hK26 => ?_
        refine rp0 hst9 hfr9 (.cons rfl (zd rfl rfl) <| .cons rfl (zD rfl) <| .nil) fun a10 w10 m10 hst10 hle10 hk10 => ?_
        have hfr10 := hk10.fr (.o 3 <| .n 12 <| .nil)
        clear hst9 hfr9 hk10
        refine hK26 _ _ ?_
        refine zE hfr10 rfl rfl (fun hb12 => ?_) (fun hb12 => ?_)
        ·try simp only [nqs] at hb12
         refine zR ?_
         refine hK25 _ _ ?_
         refine zE hfr10 rfl rfl (fun hb12x => ?_) (fun hb12x => ?_)
         ·try simp only [nqs] at hb12x
          refine zB fun _ hK27 => ?_
          refine rp0 hst10 hfr10 (.cons rfl (zD rfl) <| .nil) fun a11 w11 m11 hst11 hle11 hk11 => ?_
          have hfr11 := hk11.fr (.n 2 <| .nil)
          clear hst10 hfr10 hk11
          refine hK27 _ _ ?_
          refine zN ?_
          repeat (with_reducible first | refine zH ?_ | refine zG ?_)
          exact zO hst11 hfr11 rfl (.tmp rfl <| .nil) (by refine congrArg (Value.int _) ?_; unfold Zp; simp_all)
         ·exfalso; try simp only [nqs] at hb12x
          first | exact absurd hb12x hb12 | exact absurd hb12 hb12x | simp_all
        ·try simp only [nqs] at hb12
         refine zB fun _ hK29 => ?_
         refine rp0 hst10 hfr10 (.cons rfl (zd rfl rfl) <| .cons rfl (zD rfl) <| .nil) fun a11 w11 m11 hst11 hle11 hk11 => ?_
         have hfr11 := hk11.fr (.o 3 <| .n 12 <| .nil)
         clear hst10 hfr10 hk11
         refine hK29 _ _ ?_
         refine zE hfr11 rfl rfl (fun hb12 => ?_) (fun hb12 => ?_)
         ·try simp only [nqs] at hb12
          refine zR ?_
          refine hK25 _ _ ?_
          refine zE hfr11 rfl rfl (fun hb12x => ?_) (fun hb12x => ?_)
          ·try simp only [nqs] at hb12x
           refine zB fun _ hK30 => ?_
           refine rp0 hst11 hfr11 (.cons rfl (zD rfl) <| .nil) fun a12 w12 m12 hst12 hle12 hk12 => ?_
           have hfr12 := hk12.fr (.n 2 <| .nil)
           clear hst11 hfr11 hk12
           refine hK30 _ _ ?_
           refine zN ?_
           repeat (with_reducible first | refine zH ?_ | refine zG ?_)
           exact zO hst12 hfr12 rfl (.tmp rfl <| .nil) (by refine congrArg (Value.int _) ?_; unfold Zp; simp_all)
          ·exfalso; try simp only [nqs] at hb12x
           first | exact absurd hb12x hb12 | exact absurd hb12 hb12x | simp_all
         ·try simp only [nqs] at hb12
          refine rp0 hst11 hfr11 (.cons rfl (zd rfl rfl) <| .cons rfl (zD rfl) <| .nil) fun a12 w12 m12 hst12 hle12 hk12 => ?_
          have hfr12 := hk12.fr (.o 3 <| .n 12 <| .nil)
          clear hst11 hfr11 hk12
          refine hK25 _ _ ?_
          refine zE hfr12 rfl rfl (fun hb12 => ?_) (fun hb12 => ?_)
          ·try simp only [nqs] at hb12
           refine zB fun _ hK32 => ?_
           refine rp0 hst12 hfr12 (.cons rfl (zD rfl) <| .nil) fun a13 w13 m13 hst13 hle13 hk13 => ?_
           have hfr13 := hk13.fr (.n 2 <| .nil)
           clear hst12 hfr12 hk13
           refine hK32 _ _ ?_
           refine zN ?_
           repeat (with_reducible first | refine zH ?_ | refine zG ?_)
           exact zO hst13 hfr13 rfl (.tmp rfl <| .nil) (by refine congrArg (Value.int _) ?_; unfold Zp; simp_all)
          ·try simp only [nqs] at hb12
           refine zB fun _ hK34 => ?_
           refine rp0 hst12 hfr12 (.cons rfl (zd rfl rfl) <| .cons rfl (zD rfl) <| .nil) fun a13 w13 m13 hst13 hle13 hk13 => ?_
           have hfr13 := hk13.fr (.n 16 <| .nil)
           clear hst12 hfr12 hk13
           refine hK34 _ _ ?_
           refine zE hfr13 rfl rfl (fun hb16 => ?_) (fun hb16 => ?_)
           ·try simp only [nqs] at hb16
            refine zB fun _ hK35 => ?_
            refine rp0 hst13 hfr13 (.cons rfl (zD rfl) <| .nil) fun a14 w14 m14 hst14 hle14 hk14 => ?_
            have hfr14 := hk14.fr (.n 2 <| .nil)
            clear hst13 hfr13 hk14
            refine hK35 _ _ ?_
            refine zN ?_
            repeat (with_reducible first | refine zH ?_ | refine zG ?_)
            exact zO hst14 hfr14 rfl (.tmp rfl <| .nil) (by refine congrArg (Value.int _) ?_; unfold Zp; simp_all)
           ·try simp only [nqs] at hb16
            refine zR ?_
            refine hK2 _ _ ?_
            refine zB fun _ hK37 => ?_
            refine rp0 hst13 hfr13 (.cons rfl (zD rfl) <| .nil) fun a14 w14 m14 hst14 hle14 hk14 => ?_
            have hfr14 := hk14.fr (.n 2 <| .nil)
            clear hst13 hfr13 hk14
            refine hK37 _ _ ?_
            refine zN ?_
            repeat (with_reducible first | refine zH ?_ | refine zG ?_)
            exact zO hst14 hfr14 rfl (.tmp rfl <| .nil) (by refine congrArg (Value.int _) ?_; unfold Zp; simp_all)
set_option maxHeartbeats 400000 in
theorem named_c {w : World} {m : Mem} {o_l : Option Addr} {c_l : Nat} {l : List Str} (hA : Agree w m) (h_l : Strs m o_l l.length c_l l) : FnV Try.prog 60 #[.slice o_l l.length c_l] w m (fun _ _ v => v = .bool (nameOk l)) := by
 have hb_l := h_l.big; have hc_l := h_l.cap
 refine zZ (vs := [_]) func60 rfl rfl rfl fun a0 hfr0 => ?_
 have hst0 := zW hA (zg [] _ w m)
 have hM : MLe m m := MLe.refl m
 refine zB fun _ hK1 => ?_
 refine rp0 hst0 hfr0 (.cons rfl (zD rfl) <| .nil) fun a1 w1 m1 hst1 hle1 hk1 => ?_
 have hfr1 := hk1.fr (.o 0 <| .nil)
 replace h_l := h_l.mono hle1
 clear hst0 hfr0 hk1
 refine hK1 _ _ ?_
 refine zB fun _ hK2 => ?_
 refine rp0 hst1 hfr1 (.cons rfl (zC rfl) <| .cons rfl (zX rfl (.cons rfl <| .cons rfl <| .nil) call72 (fun w m hK => by have hle_ := KC.le hK; have hA := KC.agree hK; have h_l := h_l.mono hle_; exact containsS_c (l := l) (s := []) hA h_l)) <| .cons rfl (z2 rfl) <| .cons rfl (zD rfl) <| .nil) fun a2 w2 m2 hst2 hle2 hk2 => ?_
 have hfr2 := hk2.fr (.n 2 <| .nil)
 clear hst1 hfr1 hk2
 refine hK2 _ _ ?_
 refine zN ?_
 repeat (with_reducible first | refine zH ?_ | refine zG ?_)
 exact zO hst2 hfr2 rfl (.tmp rfl <| .nil) (rfl)
set_option maxHeartbeats 400000 in
theorem atom_c {w : World} {m : Mem} {t : Cd} {vs_t : List Value} (hA : Agree w m) (h_t : CdR m t vs_t) : FnV Try.prog 42 #[.agg vs_t.toArray] w m (fun _ _ v => v = .bool (zBr t)) := by
 obtain ⟨⟨oK_t, cK_t, oA_t, cA_t⟩, rfl, ⟨hik_t, hin_t⟩, hkk_t, haa_t⟩ := h_t.open_
 dsimp only at hkk_t haa_t
 have hbg_t := hkk_t.big; have hcp_t := hkk_t.cap; have hbh_t := haa_t.big; have hcq_t := haa_t.cap
 refine zZ (vs := [_]) func42 rfl rfl rfl fun a0 hfr0 => ?_
 have hst0 := zW hA (zg [] _ w m)
 have hM : MLe m m := MLe.refl m
 refine zB fun _ hK1 => ?_
 refine rp0 hst0 hfr0 (.cons rfl (zr rfl rfl) <| .cons rfl (zD rfl) <| .nil) fun a1 w1 m1 hst1 hle1 hk1 => ?_
 have hfr1 := hk1.fr (.nil)
 obtain ⟨g2, e2, hc1⟩ := hk1.ex 1 rfl
 replace hfr1 := hfr1.cons e2
 clear hst0 hfr0 hk1
 refine hK1 _ _ ?_
 refine zB fun _ hK3 => ?_
 refine rp0 hst1 hfr1 (.cons rfl (zA (off := 0) rfl underlying25 rfl rfl sizeOf3 rfl) <| .cons rfl (zJ rfl hc1 isAgg3 rfl) <| .cons rfl (zDi rfl rfl) <| .cons rfl (zC rfl) <| .cons rfl (zA (off := 0) rfl underlying25 rfl rfl sizeOf3 rfl) <| .cons rfl (zJ rfl hc1 isAgg3 rfl) <| .cons rfl (ob_leq rfl rfl) <| .cons rfl (zU rfl rfl rfl) <| .cons rfl (zD rfl) <| .nil) fun a2 w2 m2 hst2 hle2 hk2 => ?_
 have hfr2 := hk2.fr (.n 2 <| .nil)
 clear hst1 hfr1 hk2
 refine hK3 _ _ ?_
 refine zN ?_
 repeat (with_reducible first | refine zH ?_ | refine zG ?_)
 exact zO hst2 hfr2 rfl (.tmp rfl <| .nil) (by refine congrArg Value.bool ?_; rfl)
set_option maxHeartbeats 400000 in
theorem right1_c {w : World} {m : Mem} {t : Cd} {vs_t : List Value} (hA : Agree w m) (h_t : CdR m t vs_t) : FnV Try.prog 41 #[.agg vs_t.toArray] w m (fun _ _ v => v = .bool (!zBr t)) := by
 obtain ⟨⟨oK_t, cK_t, oA_t, cA_t⟩, rfl, ⟨hik_t, hin_t⟩, hkk_t, haa_t⟩ := h_t.open_
 dsimp only at hkk_t haa_t
 have hbg_t := hkk_t.big; have hcp_t := hkk_t.cap; have hbh_t := haa_t.big; have hcq_t := haa_t.cap
 refine zZ (vs := [_]) func41 rfl rfl rfl fun a0 hfr0 => ?_
 have hst0 := zW hA (zg [] _ w m)
 have hM : MLe m m := MLe.refl m
 refine zB fun _ hK1 => ?_
 refine rp0 hst0 hfr0 (.cons rfl (zr rfl rfl) <| .cons rfl (zD rfl) <| .nil) fun a1 w1 m1 hst1 hle1 hk1 => ?_
 have hfr1 := hk1.fr (.nil)
 obtain ⟨g2, e2, hc1⟩ := hk1.ex 1 rfl
 replace hfr1 := hfr1.cons e2
 replace h_t := h_t.mono hle1
 clear hst0 hfr0 hk1
 refine hK1 _ _ ?_
 refine zB fun _ hK3 => ?_
 refine rp0 hst1 hfr1 (.cons rfl (zY rfl hc1 isAgg25 sizeOf25 rfl rfl) <| .cons rfl (zX rfl (.cons rfl <| .nil) call42 (fun w m hK => by have hle_ := KC.le hK; have hA := KC.agree hK; have h_t := h_t.mono hle_; exact atom_c hA h_t)) <| .cons rfl (z2 rfl) <| .cons rfl (zD rfl) <| .nil) fun a2 w2 m2 hst2 hle2 hk2 => ?_
 have hfr2 := hk2.fr (.n 2 <| .nil)
 clear hst1 hfr1 hk2
 refine hK3 _ _ ?_
 refine zN ?_
 repeat (with_reducible first | refine zH ?_ | refine zG ?_)
 exact zO hst2 hfr2 rfl (.tmp rfl <| .nil) (rfl)
set_option maxHeartbeats 1600000 in
theorem shapes_c {w : World} {m : Mem} {t : Cd} {vs_t : List Value} (hA : Agree w m) (h_t : CdR m t vs_t) : FnV Try.prog 38 #[.agg vs_t.toArray] w m (fun _ _ v => v = .tuple #[(shG t).v, .bool (shB t && !(decide (t.kind = 11) && decide ((shG t).kids < 0)))]) := by
 obtain ⟨⟨oK_t, cK_t, oA_t, cA_t⟩, rfl, ⟨hik_t, hin_t⟩, hkk_t, haa_t⟩ := h_t.open_
 dsimp only at hkk_t haa_t
 have hbg_t := hkk_t.big; have hcp_t := hkk_t.cap; have hbh_t := haa_t.big; have hcq_t := haa_t.cap
 refine zZ (vs := [_]) func38 rfl rfl rfl fun a0 hfr0 => ?_
 have hst0 := zW hA (zg [] _ w m)
 have hM : MLe m m := MLe.refl m
 refine zB fun _ hK1 => ?_
 replace hst0 := hst0.more (r := .free) trivial List.nodup_nil (by simp [Res.blocks])
 refine ra0 (tch := [(1, 0, (fun v => .blk v _))]) hst0 hfr0 (.cons rfl (zr rfl rfl) <| .consT rfl rfl (fun _ => rfl) rfl (zP zeroValue98 rfl) <| .cons rfl (zD rfl) <| .nil) fun a1 w1 m1 hst1 hle1 hk1 => ?_
 have hfr1 := hk1.fr (.nil)
 obtain ⟨g2, e2, hc1⟩ := hk1.ex 1 rfl
 replace hfr1 := hfr1.cons e2
 obtain ⟨g3, e3, _⟩ := hk1.ex 2 rfl
 replace hfr1 := hfr1.cons e3
 replace hst1 := hst1.fin (L' := [_]) (.cons e3 <| .nil)
 clear hst0 hfr0 hk1
 refine hK1 _ _ ?_
 refine zB fun _ hK4 => ?_
 replace hst1 := hst1.more (r := .free) trivial List.nodup_nil (by simp [Res.blocks])
 refine region_uno (tch := [(41, 1, (fun v => .blk v _)), (42, 1, (fun v => .blk v _))]) (fun n : Int => Value.int .i64 n) 0 7 [(2, (1 : Int), .agg #[.int .i64 0, .int .i64 0, .bool true, .bool false, .bool false, .bool false]), (4, (2 : Int), .agg #[.int .i64 0, .int .i64 0, .bool false, .bool false, .bool true, .bool false]), (6, (3 : Int), .agg #[.int .i64 0, .int .i64 0, .bool false, .bool false, .bool true, .bool false]), (8, (4 : Int), .agg #[.int .i64 0, .int .i64 0, .bool false, .bool false, .bool false, .bool false]), (10, (5 : Int), .agg #[.int .i64 1, .int .i64 0, .bool true, .bool false, .bool false, .bool false]), (12, (6 : Int), .agg #[.int .i64 2, .int .i64 (-1), .bool false, .bool false, .bool false, .bool false]), (14, (7 : Int), .agg #[.int .i64 2, .int .i64 0, .bool true, .bool false, .bool false, .bool false]), (16, (8 : Int), .agg #[.int .i64 2, .int .i64 0, .bool true, .bool false, .bool false, .bool false]), (18, (9 : Int), .agg #[.int .i64 2, .int .i64 0, .bool true, .bool true, .bool false, .bool false]), (20, (10 : Int), .agg #[.int .i64 3, .int .i64 1, .bool false, .bool false, .bool false, .bool false]), (25, (11 : Int), .agg #[.int .i64 (Zp t.name), .int .i64 (-1), .bool true, .bool false, .bool false, .bool false]), (27, (12 : Int), .agg #[.int .i64 (-1), .int .i64 (-1), .bool true, .bool false, .bool false, .bool false]), (29, (13 : Int), .agg #[.int .i64 1, .int .i64 1, .bool false, .bool false, .bool false, .bool true]), (31, (14 : Int), .agg #[.int .i64 1, .int .i64 (-1), .bool true, .bool false, .bool false, .bool false]), (33, (15 : Int), .agg #[.int .i64 1, .int .i64 0, .bool true, .bool false, .bool false, .bool true])] zw hst1 hfr1 (by kernel_rfl) (by kernel_rfl) (by kernel_rfl) ((by simp only [List.map_cons, List.map_nil]; decide)) rfl rfl (by kernel_rfl) (.make rfl rfl rfl rfl (fun _ _ => rfl) (zCG (fun n : Int => Value.int .i64 n)) <| .cons rfl rfl (zQ (.cons rfl <| .nil) underlying98 zeroValue98 (.cons sizeOf3 <| .cons sizeOf3 <| .cons sizeOf4 <| .cons sizeOf4 <| .cons sizeOf4 <| .cons sizeOf4 <| .nil) rfl) <| .put rfl (.head _) rfl rfl (fun _ _ => rfl) (fun es => zt Z2 rfl rfl rfl underlying134 underlying3) <| .cons rfl rfl (zQ (.cons rfl <| .nil) underlying98 zeroValue98 (.cons sizeOf3 <| .cons sizeOf3 <| .cons sizeOf4 <| .cons sizeOf4 <| .cons sizeOf4 <| .cons sizeOf4 <| .nil) rfl) <| .put rfl (.tail _ (.head _)) rfl rfl (fun _ _ => rfl) (fun es => zt Z2 rfl rfl rfl underlying134 underlying3) <| .cons rfl rfl (zQ (.cons rfl <| .nil) underlying98 zeroValue98 (.cons sizeOf3 <| .cons sizeOf3 <| .cons sizeOf4 <| .cons sizeOf4 <| .cons sizeOf4 <| .cons sizeOf4 <| .nil) rfl) <| .put rfl (.tail _ (.tail _ (.head _))) rfl rfl (fun _ _ => rfl) (fun es => zt Z2 rfl rfl rfl underlying134 underlying3) <| .cons rfl rfl (zQ (.nil) underlying98 zeroValue98 (.cons sizeOf3 <| .cons sizeOf3 <| .cons sizeOf4 <| .cons sizeOf4 <| .cons sizeOf4 <| .cons sizeOf4 <| .nil) rfl) <| .put rfl (.tail _ (.tail _ (.tail _ (.head _)))) rfl rfl (fun _ _ => rfl) (fun es => zt Z2 rfl rfl rfl underlying134 underlying3) <| .cons rfl rfl (zQ (.cons rfl <| .cons rfl <| .nil) underlying98 zeroValue98 (.cons sizeOf3 <| .cons sizeOf3 <| .cons sizeOf4 <| .cons sizeOf4 <| .cons sizeOf4 <| .cons sizeOf4 <| .nil) rfl) <| .put rfl (.tail _ (.tail _ (.tail _ (.tail _ (.head _))))) rfl rfl (fun _ _ => rfl) (fun es => zt Z2 rfl rfl rfl underlying134 underlying3) <| .cons rfl rfl (zQ (.cons rfl <| .cons rfl <| .nil) underlying98 zeroValue98 (.cons sizeOf3 <| .cons sizeOf3 <| .cons sizeOf4 <| .cons sizeOf4 <| .cons sizeOf4 <| .cons sizeOf4 <| .nil) rfl) <| .put rfl (.tail _ (.tail _ (.tail _ (.tail _ (.tail _ (.head _)))))) rfl rfl (fun _ _ => rfl) (fun es => zt Z2 rfl rfl rfl underlying134 underlying3) <| .cons rfl rfl (zQ (.cons rfl <| .cons rfl <| .nil) underlying98 zeroValue98 (.cons sizeOf3 <| .cons sizeOf3 <| .cons sizeOf4 <| .cons sizeOf4 <| .cons sizeOf4 <| .cons sizeOf4 <| .nil) rfl) <| .put rfl (.tail _ (.tail _ (.tail _ (.tail _ (.tail _ (.tail _ (.head _))))))) rfl rfl (fun _ _ => rfl) (fun es => zt Z2 rfl rfl rfl underlying134 underlying3) <| .cons rfl rfl (zQ (.cons rfl <| .cons rfl <| .nil) underlying98 zeroValue98 (.cons sizeOf3 <| .cons sizeOf3 <| .cons sizeOf4 <| .cons sizeOf4 <| .cons sizeOf4 <| .cons sizeOf4 <| .nil) rfl) <| .put rfl (.tail _ (.tail _ (.tail _ (.tail _ (.tail _ (.tail _ (.tail _ (.head _)))))))) rfl rfl (fun _ _ => rfl) (fun es => zt Z2 rfl rfl rfl underlying134 underlying3) <| .cons rfl rfl (zQ (.cons rfl <| .cons rfl <| .cons rfl <| .nil) underlying98 zeroValue98 (.cons sizeOf3 <| .cons sizeOf3 <| .cons sizeOf4 <| .cons sizeOf4 <| .cons sizeOf4 <| .cons sizeOf4 <| .nil) rfl) <| .put rfl (.tail _ (.tail _ (.tail _ (.tail _ (.tail _ (.tail _ (.tail _ (.tail _ (.head _))))))))) rfl rfl (fun _ _ => rfl) (fun es => zt Z2 rfl rfl rfl underlying134 underlying3) <| .cons rfl rfl (zQ (.cons rfl <| .cons rfl <| .nil) underlying98 zeroValue98 (.cons sizeOf3 <| .cons sizeOf3 <| .cons sizeOf4 <| .cons sizeOf4 <| .cons sizeOf4 <| .cons sizeOf4 <| .nil) rfl) <| .put rfl (.tail _ (.tail _ (.tail _ (.tail _ (.tail _ (.tail _ (.tail _ (.tail _ (.tail _ (.head _)))))))))) rfl rfl (fun _ _ => rfl) (fun es => zt Z2 rfl rfl rfl underlying134 underlying3) <| .cons rfl rfl (zA (off := 1) rfl underlying25 rfl rfl sizeOf9 rfl) <| .cons rfl rfl (zJ rfl hc1 isAgg9 rfl) <| .cons rfl rfl (zX rfl (.cons rfl <| .nil) call59 (fun w m hK => by have hle_ := KC.le hK; have hA := KC.agree hK; exact kids_c (s := t.name) hA)) <| .cons rfl rfl (zQ (.cons rfl <| .cons rfl <| .cons rfl <| .nil) underlying98 zeroValue98 (.cons sizeOf3 <| .cons sizeOf3 <| .cons sizeOf4 <| .cons sizeOf4 <| .cons sizeOf4 <| .cons sizeOf4 <| .nil) rfl) <| .put rfl (.tail _ (.tail _ (.tail _ (.tail _ (.tail _ (.tail _ (.tail _ (.tail _ (.tail _ (.tail _ (.head _))))))))))) rfl rfl (fun _ _ => rfl) (fun es => zt Z2 rfl rfl rfl underlying134 underlying3) <| .cons rfl rfl (zQ (.cons rfl <| .cons rfl <| .cons rfl <| .nil) underlying98 zeroValue98 (.cons sizeOf3 <| .cons sizeOf3 <| .cons sizeOf4 <| .cons sizeOf4 <| .cons sizeOf4 <| .cons sizeOf4 <| .nil) rfl) <| .put rfl (.tail _ (.tail _ (.tail _ (.tail _ (.tail _ (.tail _ (.tail _ (.tail _ (.tail _ (.tail _ (.tail _ (.head _)))))))))))) rfl rfl (fun _ _ => rfl) (fun es => zt Z2 rfl rfl rfl underlying134 underlying3) <| .cons rfl rfl (zQ (.cons rfl <| .cons rfl <| .cons rfl <| .nil) underlying98 zeroValue98 (.cons sizeOf3 <| .cons sizeOf3 <| .cons sizeOf4 <| .cons sizeOf4 <| .cons sizeOf4 <| .cons sizeOf4 <| .nil) rfl) <| .put rfl (.tail _ (.tail _ (.tail _ (.tail _ (.tail _ (.tail _ (.tail _ (.tail _ (.tail _ (.tail _ (.tail _ (.tail _ (.head _))))))))))))) rfl rfl (fun _ _ => rfl) (fun es => zt Z2 rfl rfl rfl underlying134 underlying3) <| .cons rfl rfl (zQ (.cons rfl <| .cons rfl <| .cons rfl <| .nil) underlying98 zeroValue98 (.cons sizeOf3 <| .cons sizeOf3 <| .cons sizeOf4 <| .cons sizeOf4 <| .cons sizeOf4 <| .cons sizeOf4 <| .nil) rfl) <| .put rfl (.tail _ (.tail _ (.tail _ (.tail _ (.tail _ (.tail _ (.tail _ (.tail _ (.tail _ (.tail _ (.tail _ (.tail _ (.tail _ (.head _)))))))))))))) rfl rfl (fun _ _ => rfl) (fun es => zt Z2 rfl rfl rfl underlying134 underlying3) <| .cons rfl rfl (zQ (.cons rfl <| .cons rfl <| .cons rfl <| .nil) underlying98 zeroValue98 (.cons sizeOf3 <| .cons sizeOf3 <| .cons sizeOf4 <| .cons sizeOf4 <| .cons sizeOf4 <| .cons sizeOf4 <| .nil) rfl) <| .put rfl (.tail _ (.tail _ (.tail _ (.tail _ (.tail _ (.tail _ (.tail _ (.tail _ (.tail _ (.tail _ (.tail _ (.tail _ (.tail _ (.tail _ (.head _))))))))))))))) rfl rfl (fun _ _ => rfl) (fun es => zt Z2 rfl rfl rfl underlying134 underlying3) <| .consA 7 rfl rfl rfl <| .cons rfl rfl (zA (off := 0) rfl underlying25 rfl rfl sizeOf3 rfl) <| .cons rfl rfl (zJ rfl hc1 isAgg3 rfl) <| .look rfl rfl rfl (ob_lookupU Z2 rfl rfl rfl underlying134 underlying3 zeroValue98 ((sh_look t rfl))) <| .cons rfl rfl (zC rfl) <| .cons rfl rfl (zM rfl rfl) <| .cons rfl rfl (zM rfl rfl) <| .consT rfl rfl rfl (fun _ => rfl) rfl (zP zeroValue98 rfl) <| .consT rfl rfl rfl (fun _ => rfl) rfl (zb 4 rfl rfl rfl fun y4 => za rfl rfl rfl rfl rfl sizeOf98 rfl rfl rfl) <| .cons rfl rfl (zD rfl) <| .nil) fun a2 w2 m2 hst2 hle2 hk2 => ?_
 have hfr2 := hk2.fr (.o 1 <| .o 2 <| .n 5 <| .nil)
 obtain ⟨y5, e5, hy5⟩ := hk2.ex 7 rfl
 obtain ⟨g6, e6, _⟩ := hk2.ex 4 rfl
 replace hfr2 := hfr2.cons e6
 replace hst2 := hst2.fin (L' := [_, _]) (.cons e6 <| .cons e6 <| .nil)
 try simp only [List.take_succ_cons, List.take_zero, List.drop_succ_cons, List.drop_zero, List.cons_append, List.nil_append, List.append_nil, List.length_cons, List.length_nil, Nat.zero_add, Nat.reduceAdd] at hst2
 replace hc1 := hc1.mono hle2
 clear hst1 hfr1 hk2
 refine hK4 _ _ ?_
 refine zB fun _ hK7 => ?_
 refine zB fun _ hK8 => ?_
 refine rp0 hst2 hfr2 (.cons rfl (zA (off := 0) rfl underlying25 rfl rfl sizeOf3 rfl) <| .cons rfl (zJ rfl hc1 isAgg3 rfl) <| .cons rfl (zS rfl rfl) <| .cons rfl (zC rfl) <| .cons rfl (zA (off := 0) rfl underlying98 rfl rfl sizeOf3 rfl) <| .cons rfl (zK (j := 1) rfl rfl isAgg3 rfl) <| .cons rfl (ZA rfl rfl) <| .cons rfl (zU rfl rfl rfl) <| .nil) fun a3 w3 m3 hst3 hle3 hk3 => ?_
 have hfr3 := hk3.fr (.o 2 <| .o 5 <| .o 4 <| .n 39 <| .nil)
 clear hst2 hfr2 hk3
 refine hK8 _ _ ?_
 refine zE hfr3 rfl rfl (fun hb39 => ?_) (fun hb39 => ?_)
 ·try simp only [nqs] at hb39
  refine zB fun _ hK9 => ?_
  refine ra0 (tch := [(1, 0, (fun _ => .blk _ _))]) hst3 hfr3 (.cons rfl (zh (j := 1) rfl rfl isAgg98 sizeOf98 rfl) <| .consT rfl rfl (fun _ => rfl) rfl (ze rfl rfl rfl sizeOf98 rfl rfl rfl) <| .cons rfl (zD rfl) <| .nil) fun a4 w4 m4 hst4 hle4 hk4 => ?_
  have hfr4 := hk4.fr (.o 2 <| .n 3 <| .nil)
  replace hst4 := hst4.fin (L' := [_, _]) (.cons rfl <| .nil)
  try simp only [List.take_succ_cons, List.take_zero, List.drop_succ_cons, List.drop_zero, List.cons_append, List.nil_append, List.append_nil, List.length_cons, List.length_nil, Nat.zero_add, Nat.reduceAdd] at hst4
  clear hst3 hfr3 hk4
  refine hK9 _ _ ?_
  refine zN ?_
  repeat (with_reducible first | refine zH ?_ | refine zG ?_)
  exact zO hst4 hfr4 rfl (.cell rfl (zi (zf (hst4.loc.at_ (k := 0) rfl)) isAgg98 sizeOf98) <| .tmp rfl <| .nil) (by rw [show (shB t && !(decide (t.kind = 11) && decide ((shG t).kids < 0))) = false from by simp [hb39]]; rfl)
 ·try simp only [nqs] at hb39
  refine zR ?_
  refine hK7 _ _ ?_
  refine zB fun _ hK11 => ?_
  refine ra0 (tch := [(2, 0, (fun _ => .blk _ _))]) hst3 hfr3 (.cons rfl (zh (j := 1) rfl rfl isAgg98 sizeOf98 rfl) <| .cons rfl (zC rfl) <| .consT rfl rfl (fun _ => rfl) rfl (ze rfl rfl rfl sizeOf98 rfl rfl rfl) <| .cons rfl (zD rfl) <| .nil) fun a4 w4 m4 hst4 hle4 hk4 => ?_
  have hfr4 := hk4.fr (.o 2 <| .n 3 <| .nil)
  replace hst4 := hst4.fin (L' := [_, _]) (.cons rfl <| .nil)
  try simp only [List.take_succ_cons, List.take_zero, List.drop_succ_cons, List.drop_zero, List.cons_append, List.nil_append, List.append_nil, List.length_cons, List.length_nil, Nat.zero_add, Nat.reduceAdd] at hst4
  clear hst3 hfr3 hk4
  refine hK11 _ _ ?_
  refine zN ?_
  repeat (with_reducible first | refine zH ?_ | refine zG ?_)
  exact zO hst4 hfr4 rfl (.cell rfl (zi (zf (hst4.loc.at_ (k := 0) rfl)) isAgg98 sizeOf98) <| .tmp rfl <| .nil) (by rw [show (shB t && !(decide (t.kind = 11) && decide ((shG t).kids < 0))) = shB t from by rcases hb39 with h | h <;> simp [h]]; rfl)
set_option maxHeartbeats 1600000 in
theorem arms_c {w : World} {m : Mem} {t : Cd} {vs_t : List Value} (hA : Agree w m) (h_t : CdR m t vs_t) : FnV Try.prog 39 #[.agg vs_t.toArray] w m (fun _ _ v => v = .bool (Zw t.kind 0 t.arms)) := by
 obtain ⟨⟨oK_t, cK_t, oA_t, cA_t⟩, rfl, ⟨hik_t, hin_t⟩, hkk_t, haa_t⟩ := h_t.open_
 dsimp only at hkk_t haa_t
 have hbg_t := hkk_t.big; have hcp_t := hkk_t.cap; have hbh_t := haa_t.big; have hcq_t := haa_t.cap
 refine zZ (vs := [_]) func39 rfl rfl rfl fun a0 hfr0 => ?_
 have hst0 := zW hA (zg [] _ w m)
 have hM : MLe m m := MLe.refl m
 refine zB fun _ hK1 => ?_
 refine rp0 hst0 hfr0 (.cons rfl (zr rfl rfl) <| .cons rfl (zD rfl) <| .nil) fun a1 w1 m1 hst1 hle1 hk1 => ?_
 have hfr1 := hk1.fr (.nil)
 obtain ⟨g2, e2, hc1⟩ := hk1.ex 1 rfl
 replace hfr1 := hfr1.cons e2
 replace h_t := h_t.mono hle1
 replace hkk_t := hkk_t.mono hle1
 replace haa_t := haa_t.mono hle1
 clear hst0 hfr0 hk1
 refine hK1 _ _ ?_
 refine zB fun _ hK3 => ?_
 refine zB fun _ hK4 => ?_
 refine rp0 hst1 hfr1 (.cons rfl (zA (off := 5) rfl underlying25 rfl rfl sizeOf23 rfl) <| .cons rfl (zJ rfl hc1 isAgg23 rfl) <| .cons rfl (zl rfl underlying23) <| .cons rfl (zC rfl) <| .nil) fun a2 w2 m2 hst2 hle2 hk2 => ?_
 have hfr2 := hk2.fr (.o 1 <| .n 7 <| .n 8 <| .n 9 <| .nil)
 replace h_t := h_t.mono hle2
 replace hkk_t := hkk_t.mono hle2
 replace haa_t := haa_t.mono hle2
 replace hc1 := hc1.mono hle2
 clear hst1 hfr1 hk2
 refine hK4 _ _ ?_
 refine zT ?_
 refine zx (T := [(1, _), (7, _), (8, _)]) (fun (y : Nat) => ([(9, .int .i64 (y : Int))] : List (Nat × Value))) (fun _ => _) (fun (y : Nat) m => (y ≤ t.arms.length) ∧ (Zw t.kind 0 t.arms = Zw t.kind y (t.arms.drop y))) (fun y => t.arms.length - y) (0) ⟨hst2, MLe.refl _, hfr2.sub (.c <| .c <| .c <| .c <| .nil), ⟨Nat.zero_le _, rfl⟩⟩ fun y a3 w3 m3 hh3 => ?_
 have hst3 := hh3.st; have hle3 := hh3.le; have hfr3 := hh3.fr; have hrel := hh3.rel; clear hh3
 replace h_t := h_t.mono hle3
 replace hkk_t := hkk_t.mono hle3
 replace haa_t := haa_t.mono hle3
 replace hc1 := hc1.mono hle3
 clear hst2 hfr2
 obtain ⟨hyn, hrem⟩ := hrel
 have hlh3 := hle3
 refine zB fun _ hK6 => ?_
 refine rp0 hst3 hfr3 (.cons rfl (ZA rfl rfl) <| .nil) fun a4 w4 m4 hst4 hle4 hk4 => ?_
 have hfr4 := hk4.fr (.o 9 <| .o 1 <| .o 7 <| .o 8 <| .n 10 <| .nil)
 replace h_t := h_t.mono hle4
 replace hkk_t := hkk_t.mono hle4
 replace haa_t := haa_t.mono hle4
 replace hc1 := hc1.mono hle4
 have hlh4 := hlh3.trans hle4
 clear hst3 hfr3 hk4
 refine hK6 _ _ ?_
 refine zB fun _ hK7 => ?_
 refine zE hfr4 rfl rfl (fun hb10 => ?_) (fun hb10 => ?_)
 ·try simp only [nqs] at hb10
  refine zR ?_
  refine hK7 _ _ ?_
  refine zB fun _ hK8 => ?_
  refine zT ?_
  refine zB fun _ hK9 => ?_
  obtain ⟨p10, vs10, x10, ho10, hd10, hm_x10, ht10, hcv10, hl10, hv10⟩ := haa_t.nth (k := y) (by omega)
  cases ho10
  obtain ⟨oV10, cV10, bs10, rfl, hva10, hbd10⟩ := hv10.open_
  have hbv10 := hva10.big; have hcv10_ := hva10.cap
  obtain ⟨⟨oK10b, cK10b, oA10b, cA10b⟩, rfl, ⟨hik10b, hin10b⟩, hkk10b, haa10b⟩ := hbd10.open_
  dsimp only at hkk10b haa10b
  have hbg10b := hkk10b.big; have hcp10b := hkk10b.cap; have hbh10b := haa10b.big; have hcq10b := haa10b.cap
  try rw [hd10] at hrem
  try simp only [Zw] at hrem
  replace hst4 := hst4.more (r := .free) trivial List.nodup_nil (by simp [Res.blocks])
  refine ra0 (tch := [(3, 0, (fun v => .blk v _)), (5, 0, (fun v => .blk v _))]) hst4 hfr4 (.cons rfl (zC rfl) <| .cons rfl (zI (k := y) rfl rfl underlying23 sizeOf47 rfl (by omega)) <| .cons rfl (zY rfl hcv10 isAgg47 sizeOf47 rfl rfl) <| .consT rfl rfl (fun _ => rfl) rfl (zP zeroValue47 rfl) <| .cons rfl (zD rfl) <| .consT rfl rfl (fun _ => rfl) rfl (zb 4 rfl rfl rfl fun y4 => za rfl rfl rfl rfl rfl sizeOf47 rfl rfl rfl) <| .nil) fun a5 w5 m5 hst5 hle5 hk5 => ?_
  have hfr5 := hk5.fr (.o 9 <| .o 1 <| .o 7 <| .o 8 <| .n 3 <| .nil)
  obtain ⟨g11, e11, _⟩ := hk5.ex 4 rfl
  replace hfr5 := hfr5.cons e11
  replace hst5 := hst5.fin (L' := [_]) (.cons e11 <| .cons e11 <| .nil)
  try simp only [List.take_succ_cons, List.take_zero, List.drop_succ_cons, List.drop_zero, List.cons_append, List.nil_append, List.append_nil, List.length_cons, List.length_nil, Nat.zero_add, Nat.reduceAdd] at hst5
  clear hst4 hfr4 hk5
  refine hK9 _ _ ?_
  refine zB fun _ hK12 => ?_
  refine rp0 hst5 hfr5 (.cons rfl (zD rfl) <| .nil) fun a6 w6 m6 hst6 hle6 hk6 => ?_
  have hfr6 := hk6.fr (.o 9 <| .o 1 <| .o 7 <| .o 8 <| .o 3 <| .o 4 <| .n 5 <| .nil)
  clear hst5 hfr5 hk6
  refine hK12 _ _ ?_
  refine zB fun _ hK13 => ?_
  refine zT ?_
  refine zB fun _ hK14 => ?_
  have zq1 := hle5.trans hle6
  replace h_t := h_t.mono zq1
  replace hkk_t := hkk_t.mono zq1
  replace haa_t := haa_t.mono zq1
  replace hc1 := hc1.mono zq1
  replace hcv10 := hcv10.mono zq1
  replace hv10 := hv10.mono zq1
  replace hva10 := hva10.mono zq1
  replace hbd10 := hbd10.mono zq1
  replace hkk10b := hkk10b.mono zq1
  replace haa10b := haa10b.mono zq1
  refine rp0 hst6 hfr6 (.cons rfl (zA (off := 1) rfl underlying47 rfl rfl sizeOf45 rfl) <| .cons rfl (zK (j := 0) rfl rfl isAgg45 rfl) <| .cons rfl (zX rfl (.cons rfl <| .nil) call60 (fun w m hK => by have hle_ := KC.le hK; have hA := KC.agree hK; have h_t := h_t.mono hle_; have hkk_t := hkk_t.mono hle_; have haa_t := haa_t.mono hle_; have hc1 := hc1.mono hle_; have hcv10 := hcv10.mono hle_; have hv10 := hv10.mono hle_; have hva10 := hva10.mono hle_; have hbd10 := hbd10.mono hle_; have hkk10b := hkk10b.mono hle_; have haa10b := haa10b.mono hle_; exact named_c hA (by first | assumption | omega | simp_all))) <| .cons rfl (z2 rfl) <| .cons rfl (zC rfl) <| .cons rfl (zA (off := 0) rfl underlying47 rfl rfl sizeOf9 rfl) <| .cons rfl (zK (j := 0) rfl rfl isAgg9 rfl) <| .cons rfl (zd rfl rfl) <| .cons rfl (Zd rfl rfl rfl) <| .cons rfl (zD rfl) <| .nil) fun a7 w7 m7 hst7 hle7 hk7 => ?_
  have hfr7 := hk7.fr (.o 9 <| .o 1 <| .o 7 <| .o 8 <| .o 3 <| .o 4 <| .o 5 <| .n 14 <| .nil)
  clear hst6 hfr6 hk7
  refine hK14 _ _ ?_
  refine zE hfr7 rfl rfl (fun hb14 => ?_) (fun hb14 => ?_)
  ·try simp only [nqs] at hb14
   refine zB fun _ hK15 => ?_
   refine rp0 hst7 hfr7 (.cons rfl (zD rfl) <| .nil) fun a8 w8 m8 hst8 hle8 hk8 => ?_
   have hfr8 := hk8.fr (.o 9 <| .n 2 <| .nil)
   clear hst7 hfr7 hk8
   refine hK15 _ _ ?_
   refine zN ?_
   repeat (with_reducible first | refine zH ?_ | refine zG ?_)
   exact zO hst8 hfr8 rfl (.tmp rfl <| .nil) (by rw [hrem, show Z7 t.kind y x10 = false from by unfold Z7; first | (simp_all; done) | (simp_all; omega) | grind]; rfl)
  ·try simp only [nqs] at hb14
   refine zB fun _ hK17 => ?_
   replace hc1 := hc1.mono hle7
   refine rp0 hst7 hfr7 (.cons rfl (zA (off := 0) rfl underlying25 rfl rfl sizeOf3 rfl) <| .cons rfl (zJ rfl hc1 isAgg3 rfl) <| .cons rfl (zS rfl rfl) <| .cons rfl (zD rfl) <| .nil) fun a8 w8 m8 hst8 hle8 hk8 => ?_
   have hfr8 := hk8.fr (.o 9 <| .o 1 <| .o 7 <| .o 8 <| .o 3 <| .o 4 <| .o 5 <| .n 24 <| .nil)
   clear hst7 hfr7 hk8
   refine hK17 _ _ ?_
   refine zE hfr8 rfl rfl (fun hb24 => ?_) (fun hb24 => ?_)
   ·try simp only [nqs] at hb24
    refine rp0 hst8 hfr8 (.cons rfl (zA (off := 1) rfl underlying47 rfl rfl sizeOf45 rfl) <| .cons rfl (zK (j := 0) rfl rfl isAgg45 rfl) <| .cons rfl (zl rfl underlying45) <| .cons rfl (zD rfl) <| .nil) fun a9 w9 m9 hst9 hle9 hk9 => ?_
    have hfr9 := hk9.fr (.o 9 <| .o 1 <| .o 7 <| .o 8 <| .o 3 <| .o 4 <| .n 5 <| .nil)
    clear hst8 hfr8 hk9
    refine hK13 _ _ ?_
    refine zB fun _ hK18 => ?_
    have zq2 := hle8.trans hle9
    replace hc1 := hc1.mono zq2
    refine rp0 hst9 hfr9 (.cons rfl (zA (off := 1) rfl underlying47 rfl rfl sizeOf45 rfl) <| .cons rfl (zK (j := 0) rfl rfl isAgg45 rfl) <| .cons rfl (zl rfl underlying45) <| .cons rfl (zC rfl) <| .cons rfl (Zs rfl rfl) <| .cons rfl (zC rfl) <| .cons rfl (zA (off := 2) rfl underlying47 rfl rfl sizeOf4 rfl) <| .cons rfl (zK (j := 0) rfl rfl isAgg4 rfl) <| .cons rfl (zC rfl) <| .cons rfl (zC rfl) <| .cons rfl (zS rfl rfl) <| .cons rfl (zC rfl) <| .cons rfl (zA (off := 0) rfl underlying25 rfl rfl sizeOf3 rfl) <| .cons rfl (zJ rfl hc1 isAgg3 rfl) <| .cons rfl (zS rfl rfl) <| .cons rfl (Zd rfl rfl rfl) <| .cons rfl (zU rfl rfl rfl) <| .cons rfl (Zd rfl rfl rfl) <| .nil) fun a10 w10 m10 hst10 hle10 hk10 => ?_
    have hfr10 := hk10.fr (.o 9 <| .o 1 <| .o 7 <| .o 8 <| .n 63 <| .nil)
    clear hst9 hfr9 hk10
    refine hK18 _ _ ?_
    refine zE hfr10 rfl rfl (fun hb63 => ?_) (fun hb63 => ?_)
    ·try simp only [nqs] at hb63
     refine zB fun _ hK19 => ?_
     refine rp0 hst10 hfr10 (.cons rfl (zD rfl) <| .nil) fun a11 w11 m11 hst11 hle11 hk11 => ?_
     have hfr11 := hk11.fr (.o 9 <| .n 2 <| .nil)
     clear hst10 hfr10 hk11
     refine hK19 _ _ ?_
     refine zN ?_
     repeat (with_reducible first | refine zH ?_ | refine zG ?_)
     exact zO hst11 hfr11 rfl (.tmp rfl <| .nil) (by rw [hrem, show Z7 t.kind y x10 = false from by unfold Z7; first | (simp_all; done) | (simp_all; omega) | grind]; rfl)
    ·try simp only [nqs] at hb63
     refine zR ?_
     refine hK8 _ _ ?_
     refine rp0 hst10 hfr10 (.cons rfl (z6 rfl rfl ⟨by omega, by omega⟩) <| .cons rfl (zC rfl) <| .nil) fun a11 w11 m11 hst11 hle11 hk11 => ?_
     have hfr11 := hk11.fr (.o 1 <| .o 7 <| .o 8 <| .n 9 <| .nil)
     clear hst10 hfr10 hk11
     have hst11 := hst11.take 0
     have zq3 := hle10.trans hle11
     have zq4 := zq2.trans zq3
     have zq5 := hle7.trans zq4
     have zq6 := zq1.trans zq5
     have hlh11 := hlh4.trans zq6
     exact ⟨y + 1, m11, by show t.arms.length - (y + 1) < t.arms.length - y; omega, ⟨hst11, hlh11, hfr11.sub (.c <| .c <| .c <| .c <| .nil), ⟨by show y + 1 ≤ t.arms.length; omega, by rw [hrem, show Z7 t.kind y x10 = true from by unfold Z7; first | (simp_all; done) | (simp_all; omega) | grind]; rfl⟩⟩⟩
   ·try simp only [nqs] at hb24
    refine zB fun _ hK21 => ?_
    refine rp0 hst8 hfr8 (.cons rfl (zC rfl) <| .cons rfl (zS rfl rfl) <| .cons rfl (zC rfl) <| .cons rfl (zA (off := 0) rfl underlying47 rfl rfl sizeOf9 rfl) <| .cons rfl (zK (j := 0) rfl rfl isAgg9 rfl) <| .cons rfl (ob_sneq rfl rfl) <| .cons rfl (zU rfl rfl rfl) <| .cons rfl (zD rfl) <| .nil) fun a9 w9 m9 hst9 hle9 hk9 => ?_
    have hfr9 := hk9.fr (.o 9 <| .o 1 <| .o 7 <| .o 8 <| .o 3 <| .o 4 <| .o 5 <| .n 31 <| .nil)
    clear hst8 hfr8 hk9
    refine hK21 _ _ ?_
    refine zE hfr9 rfl rfl (fun hb31 => ?_) (fun hb31 => ?_)
    ·try simp only [nqs] at hb31
     refine zB fun _ hK22 => ?_
     refine rp0 hst9 hfr9 (.cons rfl (zD rfl) <| .nil) fun a10 w10 m10 hst10 hle10 hk10 => ?_
     have hfr10 := hk10.fr (.o 9 <| .n 2 <| .nil)
     clear hst9 hfr9 hk10
     refine hK22 _ _ ?_
     refine zN ?_
     repeat (with_reducible first | refine zH ?_ | refine zG ?_)
     exact zO hst10 hfr10 rfl (.tmp rfl <| .nil) (by rw [hrem, show Z7 t.kind y x10 = false from by unfold Z7; first | (simp_all; done) | (simp_all; omega) | grind]; rfl)
    ·try simp only [nqs] at hb31
     refine zB fun _ hK24 => ?_
     refine rp0 hst9 hfr9 (.cons rfl (zC rfl) <| .cons rfl (zS rfl rfl) <| .cons rfl (zC rfl) <| .cons rfl (zA (off := 2) rfl underlying47 rfl rfl sizeOf4 rfl) <| .cons rfl (zK (j := 0) rfl rfl isAgg4 rfl) <| .cons rfl (Zd rfl rfl rfl) <| .cons rfl (zD rfl) <| .nil) fun a10 w10 m10 hst10 hle10 hk10 => ?_
     have hfr10 := hk10.fr (.o 9 <| .o 1 <| .o 7 <| .o 8 <| .o 3 <| .o 4 <| .o 5 <| .n 39 <| .nil)
     clear hst9 hfr9 hk10
     refine hK24 _ _ ?_
     refine zE hfr10 rfl rfl (fun hb39 => ?_) (fun hb39 => ?_)
     ·try simp only [nqs] at hb39
      refine rp0 hst10 hfr10 (.cons rfl (zD rfl) <| .nil) fun a11 w11 m11 hst11 hle11 hk11 => ?_
      have hfr11 := hk11.fr (.o 9 <| .o 1 <| .o 7 <| .o 8 <| .o 3 <| .o 4 <| .n 5 <| .nil)
      clear hst10 hfr10 hk11
      refine hK13 _ _ ?_
      refine zB fun _ hK25 => ?_
      have zq7 := hle10.trans hle11
      have zq8 := hle9.trans zq7
      have zq9 := hle8.trans zq8
      replace hc1 := hc1.mono zq9
      refine rp0 hst11 hfr11 (.cons rfl (zA (off := 1) rfl underlying47 rfl rfl sizeOf45 rfl) <| .cons rfl (zK (j := 0) rfl rfl isAgg45 rfl) <| .cons rfl (zl rfl underlying45) <| .cons rfl (zC rfl) <| .cons rfl (Zs rfl rfl) <| .cons rfl (zC rfl) <| .cons rfl (zA (off := 2) rfl underlying47 rfl rfl sizeOf4 rfl) <| .cons rfl (zK (j := 0) rfl rfl isAgg4 rfl) <| .cons rfl (zC rfl) <| .cons rfl (zC rfl) <| .cons rfl (zS rfl rfl) <| .cons rfl (zC rfl) <| .cons rfl (zA (off := 0) rfl underlying25 rfl rfl sizeOf3 rfl) <| .cons rfl (zJ rfl hc1 isAgg3 rfl) <| .cons rfl (zS rfl rfl) <| .cons rfl (Zd rfl rfl rfl) <| .cons rfl (zU rfl rfl rfl) <| .cons rfl (Zd rfl rfl rfl) <| .nil) fun a12 w12 m12 hst12 hle12 hk12 => ?_
      have hfr12 := hk12.fr (.o 9 <| .o 1 <| .o 7 <| .o 8 <| .n 63 <| .nil)
      clear hst11 hfr11 hk12
      refine hK25 _ _ ?_
      refine zE hfr12 rfl rfl (fun hb63 => ?_) (fun hb63 => ?_)
      ·try simp only [nqs] at hb63
       refine zB fun _ hK26 => ?_
       refine rp0 hst12 hfr12 (.cons rfl (zD rfl) <| .nil) fun a13 w13 m13 hst13 hle13 hk13 => ?_
       have hfr13 := hk13.fr (.o 9 <| .n 2 <| .nil)
       clear hst12 hfr12 hk13
       refine hK26 _ _ ?_
       refine zN ?_
       repeat (with_reducible first | refine zH ?_ | refine zG ?_)
       exact zO hst13 hfr13 rfl (.tmp rfl <| .nil) (by rw [hrem, show Z7 t.kind y x10 = false from by unfold Z7; first | (simp_all; done) | (simp_all; omega) | grind]; rfl)
      ·try simp only [nqs] at hb63
       refine zR ?_
       refine hK8 _ _ ?_
       refine rp0 hst12 hfr12 (.cons rfl (z6 rfl rfl ⟨by omega, by omega⟩) <| .cons rfl (zC rfl) <| .nil) fun a13 w13 m13 hst13 hle13 hk13 => ?_
       have hfr13 := hk13.fr (.o 1 <| .o 7 <| .o 8 <| .n 9 <| .nil)
       clear hst12 hfr12 hk13
       have hst13 := hst13.take 0
       have zq10 := hle12.trans hle13
       have zq11 := zq9.trans zq10
       have zq12 := hle7.trans zq11
       have zq13 := zq1.trans zq12
       have hlh13 := hlh4.trans zq13
       exact ⟨y + 1, m13, by show t.arms.length - (y + 1) < t.arms.length - y; omega, ⟨hst13, hlh13, hfr13.sub (.c <| .c <| .c <| .c <| .nil), ⟨by show y + 1 ≤ t.arms.length; omega, by rw [hrem, show Z7 t.kind y x10 = true from by unfold Z7; first | (simp_all; done) | (simp_all; omega) | grind]; rfl⟩⟩⟩
     ·try simp only [nqs] at hb39
      refine zR ?_
      refine hK13 _ _ ?_
      refine zB fun _ hK28 => ?_
      have zq14 := hle9.trans hle10
      have zq15 := hle8.trans zq14
      replace hc1 := hc1.mono zq15
      refine rp0 hst10 hfr10 (.cons rfl (zA (off := 1) rfl underlying47 rfl rfl sizeOf45 rfl) <| .cons rfl (zK (j := 0) rfl rfl isAgg45 rfl) <| .cons rfl (zl rfl underlying45) <| .cons rfl (zC rfl) <| .cons rfl (Zs rfl rfl) <| .cons rfl (zC rfl) <| .cons rfl (zA (off := 2) rfl underlying47 rfl rfl sizeOf4 rfl) <| .cons rfl (zK (j := 0) rfl rfl isAgg4 rfl) <| .cons rfl (zC rfl) <| .cons rfl (zC rfl) <| .cons rfl (zS rfl rfl) <| .cons rfl (zC rfl) <| .cons rfl (zA (off := 0) rfl underlying25 rfl rfl sizeOf3 rfl) <| .cons rfl (zJ rfl hc1 isAgg3 rfl) <| .cons rfl (zS rfl rfl) <| .cons rfl (Zd rfl rfl rfl) <| .cons rfl (zU rfl rfl rfl) <| .cons rfl (Zd rfl rfl rfl) <| .nil) fun a11 w11 m11 hst11 hle11 hk11 => ?_
      have hfr11 := hk11.fr (.o 9 <| .o 1 <| .o 7 <| .o 8 <| .n 63 <| .nil)
      clear hst10 hfr10 hk11
      refine hK28 _ _ ?_
      refine zE hfr11 rfl rfl (fun hb63 => ?_) (fun hb63 => ?_)
      ·try simp only [nqs] at hb63
       refine zB fun _ hK29 => ?_
       refine rp0 hst11 hfr11 (.cons rfl (zD rfl) <| .nil) fun a12 w12 m12 hst12 hle12 hk12 => ?_
       have hfr12 := hk12.fr (.o 9 <| .n 2 <| .nil)
       clear hst11 hfr11 hk12
       refine hK29 _ _ ?_
       refine zN ?_
       repeat (with_reducible first | refine zH ?_ | refine zG ?_)
       exact zO hst12 hfr12 rfl (.tmp rfl <| .nil) (by rw [hrem, show Z7 t.kind y x10 = false from by unfold Z7; first | (simp_all; done) | (simp_all; omega) | grind]; rfl)
      ·try simp only [nqs] at hb63
       refine zR ?_
       refine hK8 _ _ ?_
       refine rp0 hst11 hfr11 (.cons rfl (z6 rfl rfl ⟨by omega, by omega⟩) <| .cons rfl (zC rfl) <| .nil) fun a12 w12 m12 hst12 hle12 hk12 => ?_
       have hfr12 := hk12.fr (.o 1 <| .o 7 <| .o 8 <| .n 9 <| .nil)
       clear hst11 hfr11 hk12
       have hst12 := hst12.take 0
       have zq16 := hle11.trans hle12
       have zq17 := zq15.trans zq16
       have zq18 := hle7.trans zq17
       have zq19 := zq1.trans zq18
       have hlh12 := hlh4.trans zq19
       exact ⟨y + 1, m12, by show t.arms.length - (y + 1) < t.arms.length - y; omega, ⟨hst12, hlh12, hfr12.sub (.c <| .c <| .c <| .c <| .nil), ⟨by show y + 1 ≤ t.arms.length; omega, by rw [hrem, show Z7 t.kind y x10 = true from by unfold Z7; first | (simp_all; done) | (simp_all; omega) | grind]; rfl⟩⟩⟩
 ·try simp only [nqs] at hb10
  have hge : y = t.arms.length := by omega
  rw [List.drop_of_length_le (by omega)] at hrem
  simp only [Zw] at hrem
  refine zv ?_
  refine hK3 _ _ ?_
  refine zB fun _ hK31 => ?_
  refine rp0 hst4 hfr4 (.cons rfl (zD rfl) <| .nil) fun a5 w5 m5 hst5 hle5 hk5 => ?_
  have hfr5 := hk5.fr (.o 9 <| .n 2 <| .nil)
  clear hst4 hfr4 hk5
  refine hK31 _ _ ?_
  refine zN ?_
  repeat (with_reducible first | refine zH ?_ | refine zG ?_)
  exact zO hst5 hfr5 rfl (.tmp rfl <| .nil) (by refine congrArg Value.bool ?_; rw [hrem])
abbrev zAz (t : Cd) : Prop := ∀ {w : World} {m : Mem} {vs_t : List Value} (hA : Agree w m) (h_t : CdR m t vs_t), FnV Try.prog 28 #[.agg vs_t.toArray] w m (fun _ _ v => v = .bool (ZB t))
set_option maxHeartbeats 1600000 in
theorem right_s {t : Cd} (ihk : ∀ u ∈ t.kids, zAz u) (iha : ∀ a ∈ t.arms, zAz a.body) {w : World} {m : Mem} {vs_t : List Value} (hA : Agree w m) (h_t : CdR m t vs_t) : FnV Try.prog 28 #[.agg vs_t.toArray] w m (fun _ _ v => v = .bool (ZB t)) := by
 obtain ⟨⟨oK_t, cK_t, oA_t, cA_t⟩, rfl, ⟨hik_t, hin_t⟩, hkk_t, haa_t⟩ := h_t.open_
 dsimp only at hkk_t haa_t
 have hbg_t := hkk_t.big; have hcp_t := hkk_t.cap; have hbh_t := haa_t.big; have hcq_t := haa_t.cap
 refine fn_enterM (vs := [_]) func28 rfl rfl fun a0 hfr0 => ?_
 have hst0 := zW hA (zg [] _ w m)
 have hM : MLe m m := MLe.refl m
 refine zB fun _ hK1 => ?_
 replace hst0 := hst0.more (r := .free) trivial List.nodup_nil (by simp [Res.blocks])
 refine ra0 (tch := [(1, 0, (fun v => .blk v _))]) hst0 hfr0 (.cons rfl (zr rfl rfl) <| .consT rfl rfl (fun _ => rfl) rfl (zP zeroValue4 rfl) <| .nil) fun a1 w1 m1 hst1 hle1 hk1 => ?_
 have hfr1 := hk1.fr (.o 0 <| .nil)
 obtain ⟨g2, e2, hc1⟩ := hk1.ex 1 rfl
 replace hfr1 := hfr1.cons e2
 obtain ⟨g2, e3, _⟩ := hk1.ex 2 rfl
 replace hfr1 := hfr1.cons e3
 replace hst1 := hst1.fin (L' := [_]) (.cons e3 <| .nil)
 replace h_t := h_t.mono hle1
 replace hkk_t := hkk_t.mono hle1
 clear hst0 hfr0 hk1
 refine hK1 _ _ ?_
 refine zB fun _ hK4 => ?_
 replace hst1 := hst1.more (r := .free) trivial List.nodup_nil (by simp [Res.blocks])
 refine ra0 (tch := [(5, 1, (fun v => .blk v _)), (6, 1, (fun v => .blk v _))]) hst1 hfr1 (.cons rfl (zY rfl hc1 isAgg25 sizeOf25 rfl rfl) <| .cons rfl (zX rfl (.cons rfl <| .nil) call38 (fun w m hK => by have hle_ := KC.le hK; have hA := KC.agree hK; have h_t := h_t.mono hle_; exact shapes_c hA h_t)) <| .cons rfl (zC rfl) <| .cons rfl (zM rfl rfl) <| .cons rfl (zM rfl rfl) <| .consT rfl rfl (fun _ => rfl) rfl (zP zeroValue98 rfl) <| .consT rfl rfl (fun _ => rfl) rfl (zb 3 rfl rfl rfl fun y3 => za rfl rfl rfl rfl rfl sizeOf98 rfl rfl rfl) <| .cons rfl (zD rfl) <| .nil) fun a2 w2 m2 hst2 hle2 hk2 => ?_
 have hfr2 := hk2.fr (.o 0 <| .o 1 <| .o 2 <| .n 4 <| .nil)
 obtain ⟨g5, e5, _⟩ := hk2.ex 3 rfl
 replace hfr2 := hfr2.cons e5
 replace hst2 := hst2.fin (L' := [_, _]) (.cons e5 <| .cons e5 <| .nil)
 try simp only [List.take_succ_cons, List.take_zero, List.drop_succ_cons, List.drop_zero, List.cons_append, List.nil_append, List.append_nil, List.length_cons, List.length_nil, Nat.zero_add, Nat.reduceAdd] at hst2
 replace h_t := h_t.mono hle2
 replace hkk_t := hkk_t.mono hle2
 replace hc1 := hc1.mono hle2
 clear hst1 hfr1 hk2
 refine hK4 _ _ ?_
 refine zB fun _ hK6 => ?_
 refine zB fun _ hK7 => ?_
 refine rp0 hst2 hfr2 (.cons rfl (zC rfl) <| .cons rfl (z2 rfl) <| .cons rfl (zC rfl) <| .cons rfl (zA (off := 0) rfl underlying98 rfl rfl sizeOf3 rfl) <| .cons rfl (zK (j := 1) rfl rfl isAgg3 rfl) <| .cons rfl (zDi rfl rfl) <| .cons rfl (zC rfl) <| .cons rfl (zA (off := 4) rfl underlying25 rfl rfl sizeOf22 rfl) <| .cons rfl (zJ rfl hc1 isAgg22 rfl) <| .cons rfl (zl rfl underlying22) <| .cons rfl (zA (off := 0) rfl underlying98 rfl rfl sizeOf3 rfl) <| .cons rfl (zK (j := 1) rfl rfl isAgg3 rfl) <| .cons rfl (Zs rfl rfl) <| .cons rfl (zU rfl rfl rfl) <| .cons rfl (Zd rfl rfl rfl) <| .cons rfl (zC rfl) <| .cons rfl (zA (off := 2) rfl underlying98 rfl rfl sizeOf4 rfl) <| .cons rfl (zK (j := 1) rfl rfl isAgg4 rfl) <| .cons rfl (zA (off := 1) rfl underlying25 rfl rfl sizeOf9 rfl) <| .cons rfl (zJ rfl hc1 isAgg9 rfl) <| .cons rfl (zd rfl rfl) <| .cons rfl (ob_beql rfl rfl underlying4) <| .cons rfl (Zd rfl rfl rfl) <| .cons rfl (zC rfl) <| .cons rfl (zA (off := 3) rfl underlying98 rfl rfl sizeOf4 rfl) <| .cons rfl (zK (j := 1) rfl rfl isAgg4 rfl) <| .cons rfl (zA (off := 2) rfl underlying25 rfl rfl sizeOf9 rfl) <| .cons rfl (zJ rfl hc1 isAgg9 rfl) <| .cons rfl (zd rfl rfl) <| .cons rfl (ob_beql rfl rfl underlying4) <| .cons rfl (Zd rfl rfl rfl) <| .cons rfl (zC rfl) <| .cons rfl (zA (off := 4) rfl underlying98 rfl rfl sizeOf4 rfl) <| .cons rfl (zK (j := 1) rfl rfl isAgg4 rfl) <| .cons rfl (z2 rfl) <| .cons rfl (zC rfl) <| .cons rfl (zA (off := 3) rfl underlying25 rfl rfl sizeOf3 rfl) <| .cons rfl (zJ rfl hc1 isAgg3 rfl) <| .cons rfl (Zs rfl rfl) <| .cons rfl (zU rfl rfl rfl) <| .cons rfl (Zd rfl rfl rfl) <| .cons rfl (zC rfl) <| .cons rfl (zA (off := 5) rfl underlying98 rfl rfl sizeOf4 rfl) <| .cons rfl (zK (j := 1) rfl rfl isAgg4 rfl) <| .cons rfl (zA (off := 5) rfl underlying25 rfl rfl sizeOf23 rfl) <| .cons rfl (zJ rfl hc1 isAgg23 rfl) <| .cons rfl (zl rfl underlying23) <| .cons rfl (zS rfl rfl) <| .cons rfl (ob_beql rfl rfl underlying4) <| .cons rfl (Zd rfl rfl rfl) <| .nil) fun a3 w3 m3 hst3 hle3 hk3 => ?_
 have hfr3 := hk3.fr (.o 0 <| .o 1 <| .o 2 <| .o 4 <| .o 3 <| .n 61 <| .nil)
 replace h_t := h_t.mono hle3
 replace hkk_t := hkk_t.mono hle3
 replace hc1 := hc1.mono hle3
 clear hst2 hfr2 hk3
 refine hK7 _ _ ?_
 refine zE hfr3 rfl rfl (fun hb61 => ?_) (fun hb61 => ?_)
 ·try simp only [nqs] at hb61
  refine zB fun _ hK8 => ?_
  refine ra0 (tch := [(0, 0, (fun _ => .blk _ _))]) hst3 hfr3 (.consT rfl rfl (fun _ => rfl) rfl (ze rfl rfl rfl sizeOf4 rfl rfl rfl) <| .nil) fun a4 w4 m4 hst4 hle4 hk4 => ?_
  have hfr4 := hk4.fr (.o 0 <| .o 1 <| .o 2 <| .o 4 <| .o 3 <| .nil)
  replace hst4 := hst4.fin (L' := [_, _]) (.cons rfl <| .nil)
  try simp only [List.take_succ_cons, List.take_zero, List.drop_succ_cons, List.drop_zero, List.cons_append, List.nil_append, List.append_nil, List.length_cons, List.length_nil, Nat.zero_add, Nat.reduceAdd] at hst4
  clear hst3 hfr3 hk4
  refine hK8 _ _ ?_
  refine zN ?_
  repeat (with_reducible first | refine zH ?_ | refine zG ?_)
  exact zCL hst4 hfr4 rfl (.cell rfl (zAG (zf (hst4.loc.at_ (k := 0) rfl)) rfl isAgg4) <| .nil) (by rw [zBW (.inl (headP_bad hb61))]; rfl)
 ·try simp only [nqs] at hb61
  refine zR ?_
  refine hK6 _ _ ?_
  refine zB fun _ hK10 => ?_
  refine zB fun _ hK11 => ?_
  refine rp0 hst3 hfr3 (.cons rfl (zA (off := 0) rfl underlying25 rfl rfl sizeOf3 rfl) <| .cons rfl (zJ rfl hc1 isAgg3 rfl) <| .cons rfl (zS rfl rfl) <| .cons rfl (zC rfl) <| .cons rfl (zA (off := 3) rfl underlying25 rfl rfl sizeOf3 rfl) <| .cons rfl (zJ rfl hc1 isAgg3 rfl) <| .cons rfl (Zs rfl rfl) <| .cons rfl (zU rfl rfl rfl) <| .cons rfl (zC rfl) <| .cons rfl (zA (off := 3) rfl underlying25 rfl rfl sizeOf3 rfl) <| .cons rfl (zJ rfl hc1 isAgg3 rfl) <| .cons rfl (Zs rfl rfl) <| .cons rfl (zU rfl rfl rfl) <| .cons rfl (zC rfl) <| .cons rfl (zY rfl hc1 isAgg25 sizeOf25 rfl rfl) <| .cons rfl (zX rfl (.cons rfl <| .nil) call39 (fun w m hK => by have hle_ := KC.le hK; have hA := KC.agree hK; have h_t := h_t.mono hle_; exact arms_c hA h_t)) <| .cons rfl (z2 rfl) <| .cons rfl (Zd rfl rfl rfl) <| .nil) fun a4 w4 m4 hst4 hle4 hk4 => ?_
  have hfr4 := hk4.fr (.o 0 <| .o 1 <| .o 2 <| .o 4 <| .o 3 <| .n 79 <| .nil)
  clear hst3 hfr3 hk4
  refine hK11 _ _ ?_
  refine zE hfr4 rfl rfl (fun hb79 => ?_) (fun hb79 => ?_)
  ·try simp only [nqs] at hb79
   refine zB fun _ hK12 => ?_
   refine ra0 (tch := [(0, 0, (fun _ => .blk _ _))]) hst4 hfr4 (.consT rfl rfl (fun _ => rfl) rfl (ze rfl rfl rfl sizeOf4 rfl rfl rfl) <| .nil) fun a5 w5 m5 hst5 hle5 hk5 => ?_
   have hfr5 := hk5.fr (.o 0 <| .o 1 <| .o 2 <| .o 4 <| .o 3 <| .nil)
   replace hst5 := hst5.fin (L' := [_, _]) (.cons rfl <| .nil)
   try simp only [List.take_succ_cons, List.take_zero, List.drop_succ_cons, List.drop_zero, List.cons_append, List.nil_append, List.append_nil, List.length_cons, List.length_nil, Nat.zero_add, Nat.reduceAdd] at hst5
   clear hst4 hfr4 hk5
   refine hK12 _ _ ?_
   refine zN ?_
   repeat (with_reducible first | refine zH ?_ | refine zG ?_)
   exact zCL hst5 hfr5 rfl (.cell rfl (zAG (zf (hst5.loc.at_ (k := 0) rfl)) rfl isAgg4) <| .nil) (by rw [zBW (hb79.elim (fun h => .inl (headP_bad3 h)) (fun h => .inr (.inl h)))]; rfl)
  ·try simp only [nqs] at hb79
   refine zR ?_
   refine hK10 _ _ ?_
   refine zB fun _ hK14 => ?_
   refine rp0 hst4 hfr4 (.cons rfl (zA (off := 1) rfl underlying98 rfl rfl sizeOf3 rfl) <| .cons rfl (zK (j := 1) rfl rfl isAgg3 rfl) <| .cons rfl (zD rfl) <| .nil) fun a5 w5 m5 hst5 hle5 hk5 => ?_
   have hfr5 := hk5.fr (.o 0 <| .o 1 <| .o 2 <| .o 4 <| .o 3 <| .n 5 <| .nil)
   clear hst4 hfr4 hk5
   refine hK14 _ _ ?_
   refine zB fun _ hK15 => ?_
   refine zB fun _ hK16 => ?_
   refine rp0 hst5 hfr5 (.cons rfl (zC rfl) <| .cons rfl (ZA rfl rfl) <| .nil) fun a6 w6 m6 hst6 hle6 hk6 => ?_
   have hfr6 := hk6.fr (.o 0 <| .o 1 <| .o 2 <| .o 4 <| .o 3 <| .o 5 <| .n 83 <| .nil)
   clear hst5 hfr5 hk6
   refine hK16 _ _ ?_
   refine zE hfr6 rfl rfl (fun hb83 => ?_) (fun hb83 => ?_)
   ·try simp only [nqs] at hb83
    have hna : t.kids.length = Zn t := by unfold Zn; rw [if_pos hb83]
    have zq1 := hle5.trans hle6
    have zq2 := hle4.trans zq1
    replace hc1 := hc1.mono zq2
    refine rp0 hst6 hfr6 (.cons rfl (zA (off := 4) rfl underlying25 rfl rfl sizeOf22 rfl) <| .cons rfl (zJ rfl hc1 isAgg22 rfl) <| .cons rfl (zl rfl underlying22) <| .cons rfl (zD rfl) <| .nil) fun a7 w7 m7 hst7 hle7 hk7 => ?_
    have hfr7 := hk7.fr (.o 0 <| .o 1 <| .o 2 <| .o 4 <| .o 3 <| .n 5 <| .nil)
    clear hst6 hfr6 hk7
    refine hK15 _ _ ?_
    refine zB fun _ hK17 => ?_
    refine zB fun _ hK18 => ?_
    have zq3 := zq2.trans hle7
    replace hkk_t := hkk_t.mono zq3
    have hct19 : Cds _ _ _ _ ((t.kids.take (t.kids.length)).drop (0)) := hkk_t.cut (l := 0) (k := t.kids.length) (by omega) (by omega)
    have hcl19 : (t.kids.length) - (0) = (((t.kids.take (t.kids.length)).drop (0))).length := hct19.len.symm
    have hcu19 : Cds _ _ _ _ ((t.kids.take (t.kids.length)).drop (0)) := hct19.lenL
    replace hc1 := hc1.mono hle7
    refine rp0 hst7 hfr7 (.cons rfl (zA (off := 4) rfl underlying25 rfl rfl sizeOf22 rfl) <| .cons rfl (zJ rfl hc1 isAgg22 rfl) <| .cons rfl (zC rfl) <| .cons rfl (zAW (l := 0) (h := t.kids.length) rfl .none (.some rfl (by omega)) underlying22 sizeOf25 (by first | omega | (dsimp only; omega)) (by first | omega | (dsimp only; omega))) <| .cons rfl (zX rfl (.cons rfl <| .cons rfl <| .nil) call40 (fun w m hK => by have hle_ := KC.le hK; have hA := KC.agree hK; have hcu19 := hcu19.mono hle_; exact (by rw [hcl19]; exact zCe (φ := fun u => !zBr u) (cap := []) hA hcu19 call41 (fun w m2 u vs hm ha hv hu => right1_c ha hv)))) <| .nil) fun a8 w8 m8 hst8 hle8 hk8 => ?_
    have hfr8 := hk8.fr (.o 0 <| .o 1 <| .o 2 <| .o 4 <| .o 3 <| .o 5 <| .n 91 <| .nil)
    clear hst7 hfr7 hk8
    refine hK18 _ _ ?_
    refine zE hfr8 rfl rfl (fun hb91 => ?_) (fun hb91 => ?_)
    ·try simp only [nqs] at hb91
     refine zB fun _ hK20 => ?_
     refine ra0 (tch := [(0, 0, (fun _ => .blk _ _))]) hst8 hfr8 (.consT rfl rfl (fun _ => rfl) rfl (ze rfl rfl rfl sizeOf4 rfl rfl rfl) <| .nil) fun a9 w9 m9 hst9 hle9 hk9 => ?_
     have hfr9 := hk9.fr (.o 0 <| .o 1 <| .o 2 <| .o 4 <| .o 3 <| .o 5 <| .nil)
     replace hst9 := hst9.fin (L' := [_, _]) (.cons rfl <| .nil)
     try simp only [List.take_succ_cons, List.take_zero, List.drop_succ_cons, List.drop_zero, List.cons_append, List.nil_append, List.append_nil, List.length_cons, List.length_nil, Nat.zero_add, Nat.reduceAdd] at hst9
     clear hst8 hfr8 hk9
     refine hK20 _ _ ?_
     refine zN ?_
     repeat (with_reducible first | refine zH ?_ | refine zG ?_)
     exact zCL hst9 hfr9 rfl (.cell rfl (zAG (zf (hst9.loc.at_ (k := 0) rfl)) rfl isAgg4) <| .nil) (by rw [zBW (.inr (.inr (.inl (zEI hna hb91))))]; rfl)
    ·try simp only [nqs] at hb91
     refine zR ?_
     refine hK17 _ _ ?_
     refine zB fun _ hK22 => ?_
     refine zB fun _ hK23 => ?_
     have zq4 := zq3.trans hle8
     replace h_t := h_t.mono zq4
     replace hc1 := hc1.mono hle8
     refine rp0 hst8 hfr8 (.cons rfl (zY rfl hc1 isAgg25 sizeOf25 rfl rfl) <| .cons rfl (zm (φ := MP.partsW t) rfl (.cons rfl <| .nil) call43 (fun w m hK => by have hle_ := KC.le hK; have hA := KC.agree hK; have h_t := h_t.mono hle_; exact FnG.mono (parts_c (t := t) hA h_t) fun _ _ _ _ h => h)) <| .nil) fun a9 w9 m9 hst9 hle9 hk9 => ?_
     have hfr9 := hk9.fr (.o 0 <| .o 1 <| .o 2 <| .o 4 <| .o 3 <| .o 5 <| .nil)
     obtain ⟨⟨gq9, vq9⟩, e24, hq9, htq9⟩ := hk9.ex 93 rfl
     replace hfr9 := hfr9.cons e24
     clear hst8 hfr8 hk9
     refine hK23 _ _ ?_
     refine zT ?_
     refine zBI (T := [(0, _), (1, _), (2, _), (4, _), (3, _), (5, _), (93, _)]) (fun (y : (Bool)) => ([.blk (.pointer (some ⟨g2, 0, none⟩)) (.cells [.bool y].toArray 4), _] : List Res)) ((ZF t).length) (CPartY t) (fun i (y : (Bool)) m => (fun (n9 : Bool) => (((ZF t).take i).all ZB = true)) y) (fun (y : (Bool)) m => (fun (n9 : Bool) => (n9 = false ∧ (ZF t).all ZB = false)) y) (false) hst9 (hfr9.sub (.c <| .c <| .c <| .c <| .c <| .c <| .c <| .nil)) rfl call62 ⟨by decide, by decide⟩ (fun _ _ _ _ _ h => h) (fun _ _ _ _ h => h) (by simp) (zEU hq9 htq9) (fun i hi y w10 m10 args l rc hle10 hY hrel _ => ?_) (fun y D l rc a10 w10 m10 hst10 hle10 hrel hfr10 => ?_) (fun y D l rc a10 w10 m10 hst10 hle10 hrel hfr10 => ?_)
     ·obtain ⟨n9, rfl⟩ : ∃ z, z = y := ⟨_, rfl⟩
      have hn9 := hrel
      clear hst9 hfr9
      obtain ⟨u, vsu, rfl, hu, hat⟩ := hY
      have hpu : u ∈ ZF t := List.mem_of_getElem? hat
      have hcu := zEM hpu
      have ihu : zAz u := by rcases zEL hpu with h | ⟨a, ha, e⟩; exact ihk _ h; (have h9 : zAz a.body := iha _ ha; rw [e] at h9; exact @h9)
      obtain ⟨⟨oK_u, cK_u, oA_u, cA_u⟩, rfl, ⟨hik_u, hin_u⟩, hkk_u, haa_u⟩ := hu.open_
      dsimp only at hkk_u haa_u
      have hbg_u := hkk_u.big; have hcp_u := hkk_u.cap; have hbh_u := haa_u.big; have hcq_u := haa_u.cap
      refine ⟨rfl, fun G1 a10 hfr10 hst10 _ hKrf => ?_⟩
      replace hfr10 : Fr _ [(94, _), (0, _), (1, _), (2, _), (4, _), (3, _), (5, _), (93, _)] a10 := hfr10
      replace hst10 : St G1 w10 m10 [_, _, _] w10 m10 := hst10
      replace hst10 := hst10.more (r := .free) trivial List.nodup_nil (by simp [Res.blocks])
      refine ra0 (tch := [(0, 3, (fun v => .blk v _)), (1, 3, (fun v => .blk v _))]) hst10 hfr10 (.consT rfl rfl (fun _ => rfl) rfl (zP zeroValue25 rfl) <| .consT rfl rfl (fun _ => rfl) rfl (zb 6 rfl rfl rfl fun y6 => za rfl rfl rfl rfl rfl sizeOf25 rfl rfl hu.one) <| .nil) fun a11 w11 m11 hst11 hle11 hk11 => ?_
      have hfr11 := hk11.fr (.o 94 <| .o 0 <| .o 1 <| .o 2 <| .o 4 <| .o 3 <| .o 5 <| .o 93 <| .nil)
      obtain ⟨g25, e25, _⟩ := hk11.ex 6 rfl
      replace hfr11 := hfr11.cons e25
      replace hst11 := hst11.fin (L' := [_, _, _, _]) (.cons e25 <| .cons e25 <| .nil)
      try simp only [List.take_succ_cons, List.take_zero, List.drop_succ_cons, List.drop_zero, List.cons_append, List.nil_append, List.append_nil, List.length_cons, List.length_nil, Nat.zero_add, Nat.reduceAdd] at hst11
      clear hst10 hfr10 hk11
      refine hKrf _ _ _ [_, _, _, _] 2 hst11 rfl fun w12 hst12 => ?_; clear hKrf
      simp only [List.set_cons_succ, List.set_cons_zero] at hst12
      have hfr12 := hfr11; obtain ⟨a12, rfl⟩ : ∃ a, a = a11 := ⟨_, rfl⟩; obtain ⟨m12, rfl⟩ : ∃ m, m = m11 := ⟨_, rfl⟩; clear hst11 hfr11
      refine zT ?_
      refine zB fun _ hK26 => ?_
      replace hu := hu.mono hle11
      refine rp0 hst12 hfr12 (.cons rfl (zh (j := 3) rfl rfl isAgg25 sizeOf25 rfl) <| .cons rfl (zX rfl (.cons rfl <| .nil) call28 (fun w m hK => by have hle_ := KC.le hK; have hA := KC.agree hK; have hu := hu.mono hle_; exact ihu hA hu)) <| .cons rfl (z2 rfl) <| .nil) fun a13 w13 m13 hst13 hle13 hk13 => ?_
      have hfr13 := hk13.fr (.o 94 <| .o 0 <| .o 1 <| .o 2 <| .o 4 <| .o 3 <| .o 5 <| .o 93 <| .o 6 <| .n 97 <| .nil)
      clear hst12 hfr12 hk13
      refine hK26 _ _ ?_
      refine zE hfr13 rfl rfl (fun hb97 => ?_) (fun hb97 => ?_)
      ·try simp only [nqs] at hb97
       refine zB fun _ hK27 => ?_
       refine ra0 (tch := [(0, 0, (fun _ => .blk _ _))]) hst13 hfr13 (.consT rfl rfl (fun _ => rfl) rfl (ze rfl rfl rfl sizeOf4 rfl rfl rfl) <| .nil) fun a14 w14 m14 hst14 hle14 hk14 => ?_
       have hfr14 := hk14.fr (.o 94 <| .o 0 <| .o 1 <| .o 2 <| .o 4 <| .o 3 <| .o 5 <| .o 93 <| .o 6 <| .nil)
       replace hst14 := hst14.fin (L' := [_, _, _, _]) (.cons rfl <| .nil)
       try simp only [List.take_succ_cons, List.take_zero, List.drop_succ_cons, List.drop_zero, List.cons_append, List.nil_append, List.append_nil, List.length_cons, List.length_nil, Nat.zero_add, Nat.reduceAdd] at hst14
       clear hst13 hfr13 hk14
       refine hK27 _ _ ?_
       refine zN ?_
       repeat (with_reducible first | refine zH ?_ | refine zG ?_)
       exact RoundQ.left (false) (n0 := 2) (k := 2) hst14 rfl rfl rfl (⟨rfl, all_no hpu hb97⟩)
      ·try simp only [nqs] at hb97
       refine zR ?_
       repeat (with_reducible first | refine Zi ?_ | refine ZT ?_ | refine ZD ?_)
       exact RoundQ.next (n9) (n0 := 2) (k := 2) hst13 rfl rfl rfl (all_snoc hn9 hat hb97)
     ·obtain ⟨n9, rfl⟩ : ∃ z, z = y := ⟨_, rfl⟩
      have hn9 := hrel
      clear hst9 hfr9
      replace hst10 : St _ _ _ [_, _, ZX l rc, zBx D] w10 m10 := hst10
      refine hK22 _ _ ?_
      refine zB fun _ hK28 => ?_
      refine ra0 (tch := [(0, 0, (fun _ => .blk _ _))]) hst10 hfr10 (.consT rfl rfl (fun _ => rfl) rfl (ze rfl rfl rfl sizeOf4 rfl rfl rfl) <| .nil) fun a11 w11 m11 hst11 hle11 hk11 => ?_
      have hfr11 := hk11.fr (.o 0 <| .o 1 <| .o 2 <| .o 4 <| .o 3 <| .o 5 <| .o 93 <| .nil)
      replace hst11 := hst11.fin (L' := [_, _, _, _]) (.cons rfl <| .nil)
      try simp only [List.take_succ_cons, List.take_zero, List.drop_succ_cons, List.drop_zero, List.cons_append, List.nil_append, List.append_nil, List.length_cons, List.length_nil, Nat.zero_add, Nat.reduceAdd] at hst11
      clear hst10 hfr10 hk11
      refine hK28 _ _ ?_
      refine zN ?_
      repeat (with_reducible first | refine zH ?_ | refine zG ?_)
      exact zCP hst11 (k := 3) rfl hfr11 rfl (fun w hstE => .cell rfl (zAG (zf (hstE.loc.at_ (k := 0) rfl)) rfl isAgg4) <| .nil) (fun w => by rw [List.take_of_length_le (Nat.le_refl _)] at hn9; rw [right_all (zEa hb61 hb79.1) hb79.2 (zEI hna hb91), hn9]; rfl)
     ·obtain ⟨n9, rfl⟩ : ∃ z, z = y := ⟨_, rfl⟩
      have hx9 := hrel
      clear hst9 hfr9
      replace hst10 : St _ _ _ [_, _, ZX l rc, zBx D] w10 m10 := hst10
      repeat (with_reducible first | refine zH ?_ | refine zG ?_)
      exact zCP hst10 (k := 3) rfl hfr10 rfl (fun w hstE => .cell rfl (zAG (zf (hstE.loc.at_ (k := 0) rfl)) rfl isAgg4) <| .nil) (fun w => by rw [hx9.1, zBW (.inr (.inr (.inr hx9.2)))]; rfl)
   ·try simp only [nqs] at hb83
    have hna : (shG t).atoms = (Zn t : Int) := by unfold Zn; rw [if_neg (by omega)]; omega
    rw [hna] at hfr6
    have hnl := natoms_le hb61.1.1.1.1.1.1 hb61.1.1.1.1.2 hb83
    refine zR ?_
    refine hK15 _ _ ?_
    refine zB fun _ hK31 => ?_
    refine zB fun _ hK32 => ?_
    have zq5 := hle5.trans hle6
    have zq6 := hle4.trans zq5
    replace hkk_t := hkk_t.mono zq6
    have hct33 : Cds _ _ _ _ ((t.kids.take ((Zn t))).drop (0)) := hkk_t.cut (l := 0) (k := (Zn t)) (by omega) (by omega)
    have hcl33 : ((Zn t)) - (0) = (((t.kids.take ((Zn t))).drop (0))).length := hct33.len.symm
    have hcu33 : Cds _ _ _ _ ((t.kids.take ((Zn t))).drop (0)) := hct33.lenL
    replace hc1 := hc1.mono zq6
    refine rp0 hst6 hfr6 (.cons rfl (zA (off := 4) rfl underlying25 rfl rfl sizeOf22 rfl) <| .cons rfl (zJ rfl hc1 isAgg22 rfl) <| .cons rfl (zC rfl) <| .cons rfl (zAW (l := 0) (h := (Zn t)) rfl .none (.some rfl (by omega)) underlying22 sizeOf25 (by first | omega | (dsimp only; omega)) (by first | omega | (dsimp only; omega))) <| .cons rfl (zX rfl (.cons rfl <| .cons rfl <| .nil) call40 (fun w m hK => by have hle_ := KC.le hK; have hA := KC.agree hK; have hcu33 := hcu33.mono hle_; exact (by rw [hcl33]; exact zCe (φ := fun u => !zBr u) (cap := []) hA hcu33 call41 (fun w m2 u vs hm ha hv hu => right1_c ha hv)))) <| .nil) fun a7 w7 m7 hst7 hle7 hk7 => ?_
    have hfr7 := hk7.fr (.o 0 <| .o 1 <| .o 2 <| .o 4 <| .o 3 <| .o 5 <| .n 91 <| .nil)
    clear hst6 hfr6 hk7
    refine hK32 _ _ ?_
    refine zE hfr7 rfl rfl (fun hb91 => ?_) (fun hb91 => ?_)
    ·try simp only [nqs] at hb91
     refine zB fun _ hK34 => ?_
     refine ra0 (tch := [(0, 0, (fun _ => .blk _ _))]) hst7 hfr7 (.consT rfl rfl (fun _ => rfl) rfl (ze rfl rfl rfl sizeOf4 rfl rfl rfl) <| .nil) fun a8 w8 m8 hst8 hle8 hk8 => ?_
     have hfr8 := hk8.fr (.o 0 <| .o 1 <| .o 2 <| .o 4 <| .o 3 <| .o 5 <| .nil)
     replace hst8 := hst8.fin (L' := [_, _]) (.cons rfl <| .nil)
     try simp only [List.take_succ_cons, List.take_zero, List.drop_succ_cons, List.drop_zero, List.cons_append, List.nil_append, List.append_nil, List.length_cons, List.length_nil, Nat.zero_add, Nat.reduceAdd] at hst8
     clear hst7 hfr7 hk8
     refine hK34 _ _ ?_
     refine zN ?_
     repeat (with_reducible first | refine zH ?_ | refine zG ?_)
     exact zCL hst8 hfr8 rfl (.cell rfl (zAG (zf (hst8.loc.at_ (k := 0) rfl)) rfl isAgg4) <| .nil) (by rw [zBW (.inr (.inr (.inl (zEI rfl hb91))))]; rfl)
    ·try simp only [nqs] at hb91
     refine zR ?_
     refine hK31 _ _ ?_
     refine zB fun _ hK36 => ?_
     refine zB fun _ hK37 => ?_
     have zq7 := zq6.trans hle7
     replace h_t := h_t.mono zq7
     replace hc1 := hc1.mono hle7
     refine rp0 hst7 hfr7 (.cons rfl (zY rfl hc1 isAgg25 sizeOf25 rfl rfl) <| .cons rfl (zm (φ := MP.partsW t) rfl (.cons rfl <| .nil) call43 (fun w m hK => by have hle_ := KC.le hK; have hA := KC.agree hK; have h_t := h_t.mono hle_; exact FnG.mono (parts_c (t := t) hA h_t) fun _ _ _ _ h => h)) <| .nil) fun a8 w8 m8 hst8 hle8 hk8 => ?_
     have hfr8 := hk8.fr (.o 0 <| .o 1 <| .o 2 <| .o 4 <| .o 3 <| .o 5 <| .nil)
     obtain ⟨⟨gq9, vq9⟩, e38, hq9, htq9⟩ := hk8.ex 93 rfl
     replace hfr8 := hfr8.cons e38
     clear hst7 hfr7 hk8
     refine hK37 _ _ ?_
     refine zT ?_
     refine zBI (T := [(0, _), (1, _), (2, _), (4, _), (3, _), (5, _), (93, _)]) (fun (y : (Bool)) => ([.blk (.pointer (some ⟨g2, 0, none⟩)) (.cells [.bool y].toArray 4), _] : List Res)) ((ZF t).length) (CPartY t) (fun i (y : (Bool)) m => (fun (n9 : Bool) => (((ZF t).take i).all ZB = true)) y) (fun (y : (Bool)) m => (fun (n9 : Bool) => (n9 = false ∧ (ZF t).all ZB = false)) y) (false) hst8 (hfr8.sub (.c <| .c <| .c <| .c <| .c <| .c <| .c <| .nil)) rfl call62 ⟨by decide, by decide⟩ (fun _ _ _ _ _ h => h) (fun _ _ _ _ h => h) (by simp) (zEU hq9 htq9) (fun i hi y w9 m9 args l rc hle9 hY hrel _ => ?_) (fun y D l rc a9 w9 m9 hst9 hle9 hrel hfr9 => ?_) (fun y D l rc a9 w9 m9 hst9 hle9 hrel hfr9 => ?_)
     ·obtain ⟨n9, rfl⟩ : ∃ z, z = y := ⟨_, rfl⟩
      have hn9 := hrel
      clear hst8 hfr8
      obtain ⟨u, vsu, rfl, hu, hat⟩ := hY
      have hpu : u ∈ ZF t := List.mem_of_getElem? hat
      have hcu := zEM hpu
      have ihu : zAz u := by rcases zEL hpu with h | ⟨a, ha, e⟩; exact ihk _ h; (have h9 : zAz a.body := iha _ ha; rw [e] at h9; exact @h9)
      obtain ⟨⟨oK_u, cK_u, oA_u, cA_u⟩, rfl, ⟨hik_u, hin_u⟩, hkk_u, haa_u⟩ := hu.open_
      dsimp only at hkk_u haa_u
      have hbg_u := hkk_u.big; have hcp_u := hkk_u.cap; have hbh_u := haa_u.big; have hcq_u := haa_u.cap
      refine ⟨rfl, fun G1 a9 hfr9 hst9 _ hKrf => ?_⟩
      replace hfr9 : Fr _ [(94, _), (0, _), (1, _), (2, _), (4, _), (3, _), (5, _), (93, _)] a9 := hfr9
      replace hst9 : St G1 w9 m9 [_, _, _] w9 m9 := hst9
      replace hst9 := hst9.more (r := .free) trivial List.nodup_nil (by simp [Res.blocks])
      refine ra0 (tch := [(0, 3, (fun v => .blk v _)), (1, 3, (fun v => .blk v _))]) hst9 hfr9 (.consT rfl rfl (fun _ => rfl) rfl (zP zeroValue25 rfl) <| .consT rfl rfl (fun _ => rfl) rfl (zb 6 rfl rfl rfl fun y6 => za rfl rfl rfl rfl rfl sizeOf25 rfl rfl hu.one) <| .nil) fun a10 w10 m10 hst10 hle10 hk10 => ?_
      have hfr10 := hk10.fr (.o 94 <| .o 0 <| .o 1 <| .o 2 <| .o 4 <| .o 3 <| .o 5 <| .o 93 <| .nil)
      obtain ⟨g39, e39, _⟩ := hk10.ex 6 rfl
      replace hfr10 := hfr10.cons e39
      replace hst10 := hst10.fin (L' := [_, _, _, _]) (.cons e39 <| .cons e39 <| .nil)
      try simp only [List.take_succ_cons, List.take_zero, List.drop_succ_cons, List.drop_zero, List.cons_append, List.nil_append, List.append_nil, List.length_cons, List.length_nil, Nat.zero_add, Nat.reduceAdd] at hst10
      clear hst9 hfr9 hk10
      refine hKrf _ _ _ [_, _, _, _] 2 hst10 rfl fun w11 hst11 => ?_; clear hKrf
      simp only [List.set_cons_succ, List.set_cons_zero] at hst11
      have hfr11 := hfr10; obtain ⟨a11, rfl⟩ : ∃ a, a = a10 := ⟨_, rfl⟩; obtain ⟨m11, rfl⟩ : ∃ m, m = m10 := ⟨_, rfl⟩; clear hst10 hfr10
      refine zT ?_
      refine zB fun _ hK40 => ?_
      replace hu := hu.mono hle10
      refine rp0 hst11 hfr11 (.cons rfl (zh (j := 3) rfl rfl isAgg25 sizeOf25 rfl) <| .cons rfl (zX rfl (.cons rfl <| .nil) call28 (fun w m hK => by have hle_ := KC.le hK; have hA := KC.agree hK; have hu := hu.mono hle_; exact ihu hA hu)) <| .cons rfl (z2 rfl) <| .nil) fun a12 w12 m12 hst12 hle12 hk12 => ?_
      have hfr12 := hk12.fr (.o 94 <| .o 0 <| .o 1 <| .o 2 <| .o 4 <| .o 3 <| .o 5 <| .o 93 <| .o 6 <| .n 97 <| .nil)
      clear hst11 hfr11 hk12
      refine hK40 _ _ ?_
      refine zE hfr12 rfl rfl (fun hb97 => ?_) (fun hb97 => ?_)
      ·try simp only [nqs] at hb97
       refine zB fun _ hK41 => ?_
       refine ra0 (tch := [(0, 0, (fun _ => .blk _ _))]) hst12 hfr12 (.consT rfl rfl (fun _ => rfl) rfl (ze rfl rfl rfl sizeOf4 rfl rfl rfl) <| .nil) fun a13 w13 m13 hst13 hle13 hk13 => ?_
       have hfr13 := hk13.fr (.o 94 <| .o 0 <| .o 1 <| .o 2 <| .o 4 <| .o 3 <| .o 5 <| .o 93 <| .o 6 <| .nil)
       replace hst13 := hst13.fin (L' := [_, _, _, _]) (.cons rfl <| .nil)
       try simp only [List.take_succ_cons, List.take_zero, List.drop_succ_cons, List.drop_zero, List.cons_append, List.nil_append, List.append_nil, List.length_cons, List.length_nil, Nat.zero_add, Nat.reduceAdd] at hst13
       clear hst12 hfr12 hk13
       refine hK41 _ _ ?_
       refine zN ?_
       repeat (with_reducible first | refine zH ?_ | refine zG ?_)
       exact RoundQ.left (false) (n0 := 2) (k := 2) hst13 rfl rfl rfl (⟨rfl, all_no hpu hb97⟩)
      ·try simp only [nqs] at hb97
       refine zR ?_
       repeat (with_reducible first | refine Zi ?_ | refine ZT ?_ | refine ZD ?_)
       exact RoundQ.next (n9) (n0 := 2) (k := 2) hst12 rfl rfl rfl (all_snoc hn9 hat hb97)
     ·obtain ⟨n9, rfl⟩ : ∃ z, z = y := ⟨_, rfl⟩
      have hn9 := hrel
      clear hst8 hfr8
      replace hst9 : St _ _ _ [_, _, ZX l rc, zBx D] w9 m9 := hst9
      refine hK36 _ _ ?_
      refine zB fun _ hK42 => ?_
      refine ra0 (tch := [(0, 0, (fun _ => .blk _ _))]) hst9 hfr9 (.consT rfl rfl (fun _ => rfl) rfl (ze rfl rfl rfl sizeOf4 rfl rfl rfl) <| .nil) fun a10 w10 m10 hst10 hle10 hk10 => ?_
      have hfr10 := hk10.fr (.o 0 <| .o 1 <| .o 2 <| .o 4 <| .o 3 <| .o 5 <| .o 93 <| .nil)
      replace hst10 := hst10.fin (L' := [_, _, _, _]) (.cons rfl <| .nil)
      try simp only [List.take_succ_cons, List.take_zero, List.drop_succ_cons, List.drop_zero, List.cons_append, List.nil_append, List.append_nil, List.length_cons, List.length_nil, Nat.zero_add, Nat.reduceAdd] at hst10
      clear hst9 hfr9 hk10
      refine hK42 _ _ ?_
      refine zN ?_
      repeat (with_reducible first | refine zH ?_ | refine zG ?_)
      exact zCP hst10 (k := 3) rfl hfr10 rfl (fun w hstE => .cell rfl (zAG (zf (hstE.loc.at_ (k := 0) rfl)) rfl isAgg4) <| .nil) (fun w => by rw [List.take_of_length_le (Nat.le_refl _)] at hn9; rw [right_all (zEa hb61 hb79.1) hb79.2 (zEI rfl hb91), hn9]; rfl)
     ·obtain ⟨n9, rfl⟩ : ∃ z, z = y := ⟨_, rfl⟩
      have hx9 := hrel
      clear hst8 hfr8
      replace hst9 : St _ _ _ [_, _, ZX l rc, zBx D] w9 m9 := hst9
      repeat (with_reducible first | refine zH ?_ | refine zG ?_)
      exact zCP hst9 (k := 3) rfl hfr9 rfl (fun w hstE => .cell rfl (zAG (zf (hstE.loc.at_ (k := 0) rfl)) rfl isAgg4) <| .nil) (fun w => by rw [hx9.1, zBW (.inr (.inr (.inr hx9.2)))]; rfl)
theorem right_c (t : Cd) : zAz t := Cd.rec_ (p := zAz) (fun t ihk iha => right_s ihk iha) t
end Go.Proofs.Ytnppknioifgdfaa
namespace Go.Proofs.Ytnppknioifgdfaa
open Go.Proofs.Try
set_option linter.all false
set_option maxRecDepth 4000
open Go.RowKit
def Env.len : Env → Nat | .nil => 0 | .cons _ _ e => e.len + 1
def zAX (s : Str) : Env → Option Vl
 | .nil => none
 | .cons q v e => if q = s then some v else zAX s e
def Zt : Vl := ⟨0, 0, [], [], .none, []⟩
abbrev zDI : VlY := ⟨none, 0, none, none, 0⟩
theorem zFL {m : Mem} : VlR m Zt (vlV Zt zDI) := VlR.build ⟨by decide, by decide⟩ ⟨by decide, by decide⟩ Sl.empty (by simp only [Zt, Vl.clo, CloR]) Sl.empty fun _ => rfl
def MP.vl (v : Vl) : MP := MP.mem (fun y : VlY => .agg (vlV v y).toArray) (fun y m => VlR m v (vlV v y)) fun hm h => VlR.mono hm h
def MP.vlb (v : Vl) (b : Bool) : MP := MP.mem (fun y : VlY => .tuple #[.agg (vlV v y).toArray, .bool b]) (fun y m => VlR m v (vlV v y)) fun hm h => VlR.mono hm h
def MP.env (e : Env) : MP := MP.mem (fun p : Option Addr => .pointer p) (fun p m => EnvR m e p) fun hm h => EnvR.mono hm h
def MP.ev (v : Ev) : MP := MP.mem (fun p : Option Addr => .agg #[.pointer p]) (fun p m => EvR m v p) fun hm h => EvR.mono hm h
theorem VlR.toV {m : Mem} {v : Vl} {vs : List Value} (h : VlR m v vs) : ∃ y, vs = vlV v y := by obtain ⟨y, e, _⟩ := h.unfold; exact ⟨y, e⟩
theorem EnvR.cases {m : Mem} {e : Env} {p : Option Addr} (h : EnvR m e p) : (e = .nil ∧ p = none) ∨ ∃ s v e' a vs pe, e = .cons s v e' ∧ p = some a ∧ CellsAt m a (S s :: (vs ++ [.pointer pe])) ∧ VlR m v vs ∧ EnvR m e' pe := by
 cases e with
 | nil => simp only [EnvR] at h; exact .inl ⟨rfl, h⟩
 | cons s v e => simp only [EnvR] at h; obtain ⟨a, vs, pe, h1, h2, h3, h4⟩ := h; exact .inr ⟨s, v, e, a, vs, pe, rfl, h1, h2, h3, h4⟩
theorem EvR.cases {m : Mem} {v : Ev} {p : Option Addr} (h : EvR m v p) : (v = .nil ∧ p = none) ∨ ∃ s k l e o a oa ca pe po, v = .cons s k l e o ∧ p = some a ∧ CellsAt m a [S s, .int .i64 k, S s, .slice oa l.length ca, .pointer pe, .pointer po, .int .i64 ((o.len + 1 : Nat) : Int)] ∧ zo k ∧ Cas m oa l.length ca l ∧ EnvR m e pe ∧ EvR m o po := by
 cases v with
 | nil => simp only [EvR] at h; exact .inl ⟨rfl, h⟩
 | cons s k l e o => simp only [EvR] at h; obtain ⟨a, oa, ca, pe, po, h1, h2, h3, h4, h5, h6⟩ := h; exact .inr ⟨s, k, l, e, o, a, oa, ca, pe, po, rfl, h1, h2, h3, h4, h5, h6⟩
def Zg : Nat → Ev → Ev
 | 0, v => v
 | _ + 1, .nil => .nil
 | n + 1, .cons _ _ _ _ o => Zg n o
theorem dropEv_nil : ∀ n, Zg n .nil = .nil
 | 0 => rfl
 | _ + 1 => rfl
def Zf (s : Str) : Ev → Ev
 | .nil => .nil
 | .cons q k l e o => if q = s then .cons q k l e o else Zf s o
theorem EnvR.mk {m : Mem} {s : Str} {v : Vl} {e : Env} {a : Addr} {vs : List Value} {pe : Option Addr} (hv : VlR m v vs) (he : EnvR m e pe) (hc : CellsAt m a (S s :: (vs ++ [.pointer pe]))) : EnvR m (.cons s v e) (some a) := by
 simp only [EnvR]; exact ⟨a, vs, pe, rfl, hc, hv, he⟩
theorem EvR.mk {m : Mem} {s : Str} {k : Int} {l : List Ca} {e : Env} {o : Ev} {a : Addr} {oa : Option Addr} {ca : Nat} {pe po : Option Addr} (hk : zo k) (hl : Cas m oa l.length ca l) (he : EnvR m e pe) (ho : EvR m o po) (hc : CellsAt m a [S s, .int .i64 k, S s, .slice oa l.length ca, .pointer pe, .pointer po, .int .i64 ((o.len + 1 : Nat) : Int)]) : EvR m (.cons s k l e o) (some a) := by
 simp only [EvR]; exact ⟨a, oa, ca, pe, po, rfl, hc, hk, hl, he, ho⟩
def MP.evp (v : Ev) : MP := MP.mem (fun p : Option Addr => .pointer p) (fun p m => EvR m v p) fun hm h => EvR.mono hm h
def Ev.eff : Ev → Str | .nil => [] | .cons s _ _ _ _ => s
def Ev.mrk : Ev → Int | .nil => 0 | .cons _ k _ _ _ => k
def Ev.arms : Ev → List Ca | .nil => [] | .cons _ _ l _ _ => l
def Ev.env : Ev → Env | .nil => .nil | .cons _ _ _ e _ => e
def Ev.out : Ev → Ev | .nil => .nil | .cons _ _ _ _ o => o
def Ev.any : Ev → Bool | .nil => false | .cons _ _ _ _ _ => true
def MP.fnd (v : Ev) : MP := MP.mem (fun y : (Option Addr × Nat) × Option Addr × Option Addr => .tuple #[.agg #[S v.eff, .slice y.1.1 v.arms.length y.1.2, .pointer y.2.1], .int .i64 v.mrk, .agg #[.pointer y.2.2], .bool v.any])
 (fun y m => Cas m y.1.1 v.arms.length y.1.2 v.arms ∧ EnvR m v.env y.2.1 ∧ EvR m v.out y.2.2 ∧ zo v.mrk) fun hm h => ⟨h.1.mono hm, EnvR.mono hm h.2.1, EvR.mono hm h.2.2.1, h.2.2.2⟩
theorem fnd_nil {m : Mem} : Cas m none (Ev.nil).arms.length 0 (Ev.nil).arms ∧ EnvR m (Ev.nil).env none ∧ EvR m (Ev.nil).out none ∧ zo (Ev.nil).mrk := ⟨Sl.empty, by simp only [Ev.env, EnvR], by simp only [Ev.out, EvR], ⟨by decide, by decide⟩⟩
set_option maxHeartbeats 400000 in
theorem zBY {w : World} {m : Mem} {e : Env} {pe : Option Addr} {s : Str} {x : Vl} {vs_x : List Value} (hA : Agree w m) (he : EnvR m e pe) (h_x : VlR m x vs_x) : FnV Try.prog 46 #[.pointer pe, S s, .agg vs_x.toArray] w m (fun _ m v => (MP.env (.cons s x e)).p m v) := by
 obtain ⟨⟨oa_x, ca_x, pf_x, ob_x, cb_x⟩, rfl, ⟨hi_x, hj_x⟩, hvk_x, hcl_x, hfm_x, hnl_x⟩ := h_x.open_
 have hbk_x := hvk_x.big; have hbf_x := hfm_x.big
 refine zZ (vs := [_, _, _]) func46 rfl rfl rfl fun a0 hfr0 => ?_
 have hst0 := zW hA (zg [] _ w m)
 have hM : MLe m m := MLe.refl m
 refine zB fun _ hK1 => ?_
 refine rp0 hst0 hfr0 (.cons rfl (zr rfl rfl) <| .cons rfl (zD rfl) <| .nil) fun a1 w1 m1 hst1 hle1 hk1 => ?_
 have hfr1 := hk1.fr (.o 0 <| .o 1 <| .nil)
 obtain ⟨g2, e2, hc5⟩ := hk1.ex 5 rfl
 replace hfr1 := hfr1.cons e2
 replace he := he.mono hle1
 replace h_x := h_x.mono hle1
 clear hst0 hfr0 hk1
 refine hK1 _ _ ?_
 refine zB fun _ hK3 => ?_
 refine ra0 (tch := []) hst1 hfr1 (.cons rfl (zC rfl) <| .cons rfl (zY rfl hc5 isAgg72 sizeOf72 rfl rfl) <| .cons rfl (zC rfl) <| .cons rfl (zQ (.cons rfl <| .cons rfl <| .cons rfl <| .nil) underlying138 zeroValue138 (.cons sizeOf9 <| .cons sizeOf72 <| .cons sizeOf67 <| .nil) rfl) <| .cons rfl (zr rfl rfl) <| .consA 11 rfl rfl <| .nil) fun a2 w2 m2 hst2 hle2 hk2 => ?_
 have hfr2 := hk2.fr (.nil)
 obtain ⟨g4, e4, hc11⟩ := hk2.ex 11 rfl
 replace hfr2 := hfr2.cons (hk2.same 6 rfl e4)
 replace he := he.mono hle2
 replace h_x := h_x.mono hle2
 clear hst1 hfr1 hk2
 refine hK3 _ _ ?_
 refine zN ?_
 repeat (with_reducible first | refine zH ?_ | refine zG ?_)
 exact zO hst2 hfr2 rfl (.tmp rfl <| .nil) (⟨_, rfl, EnvR.mk h_x he hc11⟩)
set_option maxHeartbeats 400000 in
theorem findE_c {w : World} {m : Mem} {e : Env} {pe : Option Addr} {s : Str} (hA : Agree w m) (he : EnvR m e pe) : FnV Try.prog 64 #[.pointer pe, S s] w m (fun _ m v => (MP.vlb ((zAX s e).getD Zt) (zAX s e).isSome).p m v) := by
 refine zZ (vs := [_, _]) func64 rfl rfl rfl fun a0 hfr0 => ?_
 have hst0 := zW hA (zg [] _ w m)
 have hM : MLe m m := MLe.refl m
 refine zB fun _ hK1 => ?_
 replace hst0 := hst0.more (r := .free) trivial List.nodup_nil (by simp [Res.blocks])
 refine ra0 (tch := [(0, 0, (fun v => .blk v _))]) hst0 hfr0 (.consT rfl rfl (fun _ => rfl) rfl (zP zeroValue72 rfl) <| .cons rfl (zD rfl) <| .nil) fun a1 w1 m1 hst1 hle1 hk1 => ?_
 have hfr1 := hk1.fr (.o 0 <| .o 1 <| .nil)
 obtain ⟨g4, e2, _⟩ := hk1.ex 4 rfl
 replace hfr1 := hfr1.cons e2
 replace hst1 := hst1.fin (L' := [_]) (.cons e2 <| .nil)
 replace he := he.mono hle1
 clear hst0 hfr0 hk1
 refine hK1 _ _ ?_
 refine zB fun _ hK3 => ?_
 refine zT ?_
 refine zx (T := [(1, _), (4, _)]) (fun (y : (Env) × (Option Addr)) => ([(0, .pointer y.2)] : List (Nat × Value))) (fun y => [_]) (fun (y : (Env) × (Option Addr)) m => (fun (e2 : Env) (p2 : Option Addr) => (EnvR m e2 p2) ∧ (zAX s e = zAX s e2)) y.1 y.2) (fun y => y.1.len) ((e, pe)) ⟨hst1, MLe.refl _, hfr1.sub (.c <| .c <| .c <| .nil), ⟨he, rfl⟩⟩ fun y a2 w2 m2 hh2 => ?_
 have hst2 := hh2.st; have hle2 := hh2.le; have hfr2 := hh2.fr; have hrel := hh2.rel; clear hh2
 clear hst1 hfr1
 obtain ⟨e2, p2⟩ := y
 dsimp only at hrel hfr2 hst2
 obtain ⟨he2, hfe⟩ := hrel
 have hlh2 := hle2
 refine zB fun _ hK5 => ?_
 refine zB fun _ hK6 => ?_
 refine rp0 hst2 hfr2 (.cons rfl (zC rfl) <| .cons rfl (zBU rfl underlying67) <| .nil) fun a3 w3 m3 hst3 hle3 hk3 => ?_
 have hfr3 := hk3.fr (.o 0 <| .o 1 <| .o 4 <| .n 7 <| .nil)
 replace he2 := he2.mono hle3
 have hlh3 := hlh2.trans hle3
 clear hst2 hfr2 hk3
 refine hK6 _ _ ?_
 refine zE hfr3 rfl rfl (fun hb7 => ?_) (fun hb7 => ?_)
 ·try simp only [nqs] at hb7
  obtain ⟨q9, x9, e3, a9, vs9, p3, rfl, rfl, hce, hx9, he3⟩ := he2.cases.resolve_left (fun h => by rw [h.2] at hb7; simp at hb7)
  obtain ⟨y9, rfl⟩ := hx9.toV
  refine zR ?_
  refine hK5 _ _ ?_
  refine zB fun _ hK7 => ?_
  refine zT ?_
  refine zB fun _ hK8 => ?_
  refine rp0 hst3 hfr3 (.cons rfl (zC rfl) <| .cons rfl (zL rfl) <| .cons rfl (zA (off := 0) rfl underlying138 rfl rfl sizeOf9 rfl) <| .cons rfl (zJ rfl hce isAgg9 rfl) <| .cons rfl (zC rfl) <| .cons rfl (zd rfl rfl) <| .nil) fun a4 w4 m4 hst4 hle4 hk4 => ?_
  have hfr4 := hk4.fr (.o 0 <| .o 1 <| .o 4 <| .n 17 <| .nil)
  clear hst3 hfr3 hk4
  refine hK8 _ _ ?_
  refine zE hfr4 rfl rfl (fun hb17 => ?_) (fun hb17 => ?_)
  ·try simp only [nqs] at hb17
   have hfx : zAX s e = some x9 := by rw [hfe, zAX, if_pos hb17]
   refine zB fun _ hK9 => ?_
   replace hce := hce.mono hle4
   refine ra0 (tch := [(4, 0, (fun _ => .blk _ _))]) hst4 hfr4 (.cons rfl (zC rfl) <| .cons rfl (zL rfl) <| .cons rfl (zA (off := 1) rfl underlying138 rfl rfl sizeOf72 rfl) <| .cons rfl (Zk rfl hce isAgg72 sizeOf72 rfl rfl) <| .consT rfl rfl (fun _ => rfl) rfl (ze rfl rfl rfl sizeOf72 rfl rfl rfl) <| .cons rfl (zD rfl) <| .nil) fun a5 w5 m5 hst5 hle5 hk5 => ?_
   have hfr5 := hk5.fr (.o 0 <| .o 4 <| .n 5 <| .nil)
   replace hst5 := hst5.fin (L' := [_]) (.cons rfl <| .nil)
   try simp only [List.take_succ_cons, List.take_zero, List.drop_succ_cons, List.drop_zero, List.cons_append, List.nil_append, List.append_nil, List.length_cons, List.length_nil, Nat.zero_add, Nat.reduceAdd] at hst5
   clear hst4 hfr4 hk5
   refine hK9 _ _ ?_
   refine zN ?_
   repeat (with_reducible first | refine zH ?_ | refine zG ?_)
   have zq1 := hle4.trans hle5
   replace hx9 := hx9.mono zq1
   exact zO hst5 hfr5 rfl (.cell rfl (zi (zf (hst5.loc.at_ (k := 0) rfl)) isAgg72 sizeOf72) <| .tmp rfl <| .nil) (⟨y9, by rw [hfx]; rfl, by rw [hfx]; exact hx9⟩)
  ·try simp only [nqs] at hb17
   refine zR ?_
   refine hK7 _ _ ?_
   replace hce := hce.mono hle4
   refine rp0 hst4 hfr4 (.cons rfl (zC rfl) <| .cons rfl (zL rfl) <| .cons rfl (zA (off := 8) rfl underlying138 rfl rfl sizeOf67 rfl) <| .cons rfl (zJ rfl hce isAgg67 rfl) <| .cons rfl (zD rfl) <| .nil) fun a5 w5 m5 hst5 hle5 hk5 => ?_
   have hfr5 := hk5.fr (.o 1 <| .o 4 <| .n 0 <| .nil)
   clear hst4 hfr4 hk5
   have zq2 := hle4.trans hle5
   replace he3 := he3.mono zq2
   have hlh5 := hlh3.trans zq2
   exact ⟨(e3, p3), m5, Nat.lt_succ_self _, ⟨hst5, hlh5, hfr5.sub (.c <| .c <| .c <| .nil), ⟨he3, by rw [hfe, zAX, if_neg hb17]⟩⟩⟩
 ·try simp only [nqs] at hb7
  obtain ⟨rfl, rfl⟩ := he2.cases.resolve_right (fun ⟨_, _, _, _, _, _, _, h9, _⟩ => by rw [h9] at hb7; simp at hb7)
  refine zv ?_
  refine hK3 _ _ ?_
  refine zB fun _ hK11 => ?_
  refine ra0 (tch := [(1, 0, (fun _ => .blk _ _))]) hst3 hfr3 (.cons rfl (zQ (.nil) underlying72 zeroValue72 (.cons sizeOf31 <| .cons sizeOf68 <| .cons sizeOf69 <| .cons sizeOf70 <| .nil) rfl) <| .consT rfl rfl (fun _ => rfl) rfl (ze rfl rfl rfl sizeOf72 rfl rfl rfl) <| .cons rfl (zD rfl) <| .nil) fun a4 w4 m4 hst4 hle4 hk4 => ?_
  have hfr4 := hk4.fr (.o 0 <| .o 4 <| .n 5 <| .nil)
  replace hst4 := hst4.fin (L' := [_]) (.cons rfl <| .nil)
  try simp only [List.take_succ_cons, List.take_zero, List.drop_succ_cons, List.drop_zero, List.cons_append, List.nil_append, List.append_nil, List.length_cons, List.length_nil, Nat.zero_add, Nat.reduceAdd] at hst4
  clear hst3 hfr3 hk4
  refine hK11 _ _ ?_
  refine zN ?_
  repeat (with_reducible first | refine zH ?_ | refine zG ?_)
  exact zO hst4 hfr4 rfl (.cell rfl (zi (zf (hst4.loc.at_ (k := 0) rfl)) isAgg72 sizeOf72) <| .tmp rfl <| .nil) (⟨zDI, by rw [hfe]; rfl, by rw [hfe]; exact zFL⟩)
set_option maxHeartbeats 400000 in
theorem vlen_c {w : World} {m : Mem} {v : Ev} {pv : Option Addr} (hA : Agree w m) (hv : EvR m v pv) : FnV Try.prog 70 #[.agg #[.pointer pv]] w m (fun _ _ v9 => v9 = .int .i64 (v.len : Int)) := by
 refine zZ (vs := [_]) func70 rfl rfl rfl fun a0 hfr0 => ?_
 have hst0 := zW hA (zg [] _ w m)
 have hM : MLe m m := MLe.refl m
 refine zB fun _ hK1 => ?_
 refine rp0 hst0 hfr0 (.cons rfl (zr rfl rfl) <| .cons rfl (zD rfl) <| .nil) fun a1 w1 m1 hst1 hle1 hk1 => ?_
 have hfr1 := hk1.fr (.nil)
 obtain ⟨g2, e2, hc1⟩ := hk1.ex 1 rfl
 replace hfr1 := hfr1.cons e2
 replace hv := hv.mono hle1
 clear hst0 hfr0 hk1
 refine hK1 _ _ ?_
 refine zB fun _ hK3 => ?_
 refine zB fun _ hK4 => ?_
 refine rp0 hst1 hfr1 (.cons rfl (zA (off := 0) rfl underlying75 rfl rfl sizeOf73 rfl) <| .cons rfl (zJ rfl hc1 isAgg73 rfl) <| .cons rfl (ob_pnil rfl underlying73) <| .nil) fun a2 w2 m2 hst2 hle2 hk2 => ?_
 have hfr2 := hk2.fr (.o 1 <| .n 5 <| .nil)
 replace hv := hv.mono hle2
 replace hc1 := hc1.mono hle2
 clear hst1 hfr1 hk2
 refine hK4 _ _ ?_
 refine zE hfr2 rfl rfl (fun hb5 => ?_) (fun hb5 => ?_)
 ·try simp only [nqs] at hb5
  obtain ⟨rfl, rfl⟩ := hv.cases.resolve_right (fun ⟨_, _, _, _, _, _, _, _, _, _, _, h9, _⟩ => by rw [h9] at hb5; simp at hb5)
  refine zB fun _ hK5 => ?_
  refine rp0 hst2 hfr2 (.cons rfl (zD rfl) <| .nil) fun a3 w3 m3 hst3 hle3 hk3 => ?_
  have hfr3 := hk3.fr (.n 2 <| .nil)
  clear hst2 hfr2 hk3
  refine hK5 _ _ ?_
  refine zN ?_
  repeat (with_reducible first | refine zH ?_ | refine zG ?_)
  exact zO hst3 hfr3 rfl (.tmp rfl <| .nil) (rfl)
 ·try simp only [nqs] at hb5
  obtain ⟨s9, k9, l9, e9, o9, a9, oa9, ca9, pe9, po9, rfl, rfl, hce, hki9, hla9, hee9, hoo9⟩ := hv.cases.resolve_left (fun h => by rw [h.2] at hb5; simp at hb5)
  refine zR ?_
  refine hK3 _ _ ?_
  refine zB fun _ hK7 => ?_
  refine rp0 hst2 hfr2 (.cons rfl (zA (off := 0) rfl underlying75 rfl rfl sizeOf73 rfl) <| .cons rfl (zJ rfl hc1 isAgg73 rfl) <| .cons rfl (zL rfl) <| .cons rfl (zA (off := 6) rfl underlying150 rfl rfl sizeOf3 rfl) <| .cons rfl (zJ rfl hce isAgg3 rfl) <| .cons rfl (zD rfl) <| .nil) fun a3 w3 m3 hst3 hle3 hk3 => ?_
  have hfr3 := hk3.fr (.n 2 <| .nil)
  clear hst2 hfr2 hk3
  refine hK7 _ _ ?_
  refine zN ?_
  repeat (with_reducible first | refine zH ?_ | refine zG ?_)
  exact zO hst3 hfr3 rfl (.tmp rfl <| .nil) (rfl)
set_option maxHeartbeats 400000 in
theorem vpush_c {w : World} {m : Mem} {v : Ev} {pv : Option Addr} {s : Str} {k : Int} {l : List Ca} {oa : Option Addr} {ca : Nat} {e : Env} {pe : Option Addr} (hA : Agree w m) (hv : EvR m v pv) (hl : Cas m oa l.length ca l) (he : EnvR m e pe) (hb : v.len ≤ 1000000000) (hik : zo k) : FnV Try.prog 63 #[.agg #[.pointer pv], S s, .int .i64 k, .agg #[S s, .slice oa l.length ca, .pointer pe]] w m (fun _ m v9 => (MP.ev (.cons s k l e v)).p m v9) := by
 refine zZ (vs := [_, _, _, _]) func63 rfl rfl rfl fun a0 hfr0 => ?_
 have hst0 := zW hA (zg [] _ w m)
 have hM : MLe m m := MLe.refl m
 refine zB fun _ hK1 => ?_
 replace hst0 := hst0.more (r := .free) trivial List.nodup_nil (by simp [Res.blocks])
 refine ra0 (tch := [(2, 0, (fun v => .blk v _))]) hst0 hfr0 (.cons rfl (zr rfl rfl) <| .cons rfl (zr rfl rfl) <| .consT rfl rfl (fun _ => rfl) rfl (zP zeroValue75 rfl) <| .nil) fun a1 w1 m1 hst1 hle1 hk1 => ?_
 have hfr1 := hk1.fr (.o 1 <| .o 2 <| .nil)
 obtain ⟨g2, e2, hc4⟩ := hk1.ex 4 rfl
 replace hfr1 := hfr1.cons e2
 obtain ⟨g3, e3, hc7⟩ := hk1.ex 7 rfl
 replace hfr1 := hfr1.cons e3
 obtain ⟨g4, e4, _⟩ := hk1.ex 8 rfl
 replace hfr1 := hfr1.cons e4
 replace hst1 := hst1.fin (L' := [_]) (.cons e4 <| .nil)
 replace hv := hv.mono hle1
 replace hl := hl.mono hle1
 replace he := he.mono hle1
 clear hst0 hfr0 hk1
 refine hK1 _ _ ?_
 refine zB fun _ hK5 => ?_
 refine zc (tch := [(11, 0, (fun _ => .blkx _ _ _))]) (fun _ => zw) hst1 hfr1 (by kernel_rfl) (by kernel_rfl) (by kernel_rfl) (.cons rfl (zC rfl) <| .cons rfl (zC rfl) <| .cons rfl (zY rfl hc7 isAgg114 sizeOf114 rfl rfl) <| .cons rfl (zA (off := 0) rfl underlying75 rfl rfl sizeOf73 rfl) <| .cons rfl (zJ rfl hc4 isAgg73 rfl) <| .cons rfl (zY rfl hc4 isAgg75 sizeOf75 rfl rfl) <| .cons rfl (zX rfl (.cons rfl <| .nil) call70 (fun w m hK => by have hle_ := KC.le hK; have hA := KC.agree hK; have hv := hv.mono hle_; exact vlen_c hA hv)) <| .cons rfl (z6 rfl rfl ⟨by omega, by omega⟩) <| .cons rfl (zQ (.cons rfl <| .cons rfl <| .cons rfl <| .cons rfl <| .cons rfl <| .nil) underlying150 zeroValue150 (.cons sizeOf9 <| .cons sizeOf3 <| .cons sizeOf114 <| .cons sizeOf73 <| .cons sizeOf3 <| .nil) rfl) <| .cons rfl (zr rfl rfl) <| .cons rfl (zAI 18 rfl rfl rfl fun y18 => zQ (.cons rfl <| .nil) underlying75 zeroValue75 (.cons sizeOf73 <| .nil) rfl) <| .consT rfl rfl (fun _ => rfl) rfl (z8 19 rfl rfl rfl fun y19 => ze rfl rfl rfl sizeOf75 rfl rfl rfl) <| .nil) fun a2 w2 m2 hst2 hle2 hk2 => ?_
 have hfr2 := hk2.fr (.o 8 <| .nil)
 replace hst2 := hst2.fin (L' := [_]) (.cons rfl <| .nil)
 try simp only [List.take_succ_cons, List.take_zero, List.drop_succ_cons, List.drop_zero, List.cons_append, List.nil_append, List.append_nil, List.length_cons, List.length_nil, Nat.zero_add, Nat.reduceAdd] at hst2
 obtain ⟨y, hy, hst2⟩ := hst2.unx (k := 0) rfl (fun _ => rfl)
 replace hv := hv.mono hle2
 replace hl := hl.mono hle2
 replace he := he.mono hle2
 clear hst1 hfr1 hk2
 refine hK5 _ _ ?_
 refine zN ?_
 repeat (with_reducible first | refine zH ?_ | refine zG ?_)
 exact zO hst2 hfr2 rfl (.cell rfl (zi (zf (hst2.loc.at_ (k := 0) rfl)) isAgg75 sizeOf75) <| .nil) (⟨_, rfl, EvR.mk hik hl he hv hy⟩)
set_option maxHeartbeats 400000 in
theorem vdrop_c {w : World} {m : Mem} {v : Ev} {pv : Option Addr} {n : Int} (hA : Agree w m) (hv : EvR m v pv) (hin : zo n) : FnV Try.prog 56 #[.agg #[.pointer pv], .int .i64 n] w m (fun _ m v9 => (MP.ev (Zg n.toNat v)).p m v9) := by
 refine zZ (vs := [_, _]) func56 rfl rfl rfl fun a0 hfr0 => ?_
 have hst0 := zW hA (zg [] _ w m)
 have hM : MLe m m := MLe.refl m
 obtain ⟨hn1, hn2⟩ := hin
 refine zB fun _ hK1 => ?_
 replace hst0 := hst0.more (r := .free) trivial List.nodup_nil (by simp [Res.blocks])
 replace hst0 := hst0.more (r := .free) trivial List.nodup_nil (by simp [Res.blocks])
 refine ra0 (tch := [(0, 0, (fun v => .blk v _)), (1, 1, (fun v => .blk v _))]) hst0 hfr0 (.consT rfl rfl (fun _ => rfl) rfl (zEB rfl rfl) <| .consT rfl rfl (fun _ => rfl) rfl (zP zeroValue75 rfl) <| .nil) fun a1 w1 m1 hst1 hle1 hk1 => ?_
 have hfr1 := hk1.fr (.o 1 <| .nil)
 obtain ⟨gv, e2, _⟩ := hk1.ex 2 rfl
 replace hfr1 := hfr1.cons e2
 obtain ⟨gr, e3, _⟩ := hk1.ex 4 rfl
 replace hfr1 := hfr1.cons e3
 replace hst1 := hst1.fin (L' := [_, _]) (.cons e2 <| .cons e3 <| .nil)
 replace hv := hv.mono hle1
 clear hst0 hfr0 hk1
 refine hK1 _ _ ?_
 refine zB fun _ hK4 => ?_
 refine zT ?_
 refine zx (T := [(2, _), (4, _)]) (fun (y : (Ev) × (Option Addr) × (Int)) => ([(1, .int .i64 y.2.2)] : List (Nat × Value))) (fun y => [.blk (.pointer (some ⟨gv, 0, none⟩)) (.cells #[.pointer y.2.1] 75), .blk (.pointer (some ⟨gr, 0, none⟩)) (.cells #[.pointer none] 75)]) (fun (y : (Ev) × (Option Addr) × (Int)) m => (fun (v2 : Ev) (p2 : Option Addr) (k : Int) => (EvR m v2 p2) ∧ (Zg k.toNat v2 = Zg n.toNat v) ∧ (zo k)) y.1 y.2.1 y.2.2) (fun y => y.1.len) ((v, pv, n)) ⟨hst1, MLe.refl _, hfr1.sub (.c <| .c <| .c <| .nil), ⟨hv, rfl, ⟨hn1, hn2⟩⟩⟩ fun y a2 w2 m2 hh2 => ?_
 have hst2 := hh2.st; have hle2 := hh2.le; have hfr2 := hh2.fr; have hrel := hh2.rel; clear hh2
 clear hst1 hfr1
 obtain ⟨v2, p2, k⟩ := y
 dsimp only at hrel hfr2 hst2
 obtain ⟨hv2, hdx, hk⟩ := hrel
 obtain ⟨hk1, hk2⟩ := hk
 have hlh2 := hle2
 refine zB fun _ hK6 => ?_
 refine zB fun _ hK7 => ?_
 refine rp0 hst2 hfr2 (.cons rfl (zC rfl) <| .cons rfl (zFI rfl rfl) <| .cons rfl (zC rfl) <| .cons rfl (zA (off := 0) rfl underlying75 rfl rfl sizeOf73 rfl) <| .cons rfl (zK (j := 0) rfl rfl isAgg73 rfl) <| .cons rfl (zBU rfl underlying73) <| .cons rfl (zU rfl rfl rfl) <| .nil) fun a3 w3 m3 hst3 hle3 hk3 => ?_
 have hfr3 := hk3.fr (.o 1 <| .o 2 <| .o 4 <| .n 11 <| .nil)
 replace hv2 := hv2.mono hle3
 have hlh3 := hlh2.trans hle3
 clear hst2 hfr2 hk3
 refine hK7 _ _ ?_
 refine zE hfr3 rfl rfl (fun hb11 => ?_) (fun hb11 => ?_)
 ·try simp only [nqs] at hb11
  have hkp : 0 < k := hb11.1
  have hb8 := hb11.2
  obtain ⟨s9, k9, l9, e9, o9, a9, oa9, ca9, pe9, po9, rfl, rfl, hce, hki9, hla9, hee9, hoo9⟩ := hv2.cases.resolve_left (fun h => by rw [h.2] at hb8; simp at hb8)
  refine zR ?_
  refine hK6 _ _ ?_
  refine zB fun _ hK8 => ?_
  refine zT ?_
  refine ra0 (tch := [(6, 0, (fun _ => .blk _ _))]) hst3 hfr3 (.cons rfl (zA (off := 0) rfl underlying75 rfl rfl sizeOf73 rfl) <| .cons rfl (zK (j := 0) rfl rfl isAgg73 rfl) <| .cons rfl (zL rfl) <| .cons rfl (zA (off := 5) rfl underlying150 rfl rfl sizeOf73 rfl) <| .cons rfl (zJ rfl hce isAgg73 rfl) <| .cons rfl (zA (off := 0) rfl underlying75 rfl rfl sizeOf73 rfl) <| .consT rfl rfl (fun _ => rfl) rfl (z1 rfl rfl rfl sizeOf73 rfl rfl rfl) <| .nil) fun a4 w4 m4 hst4 hle4 hk4 => ?_
  have hfr4 := hk4.fr (.o 1 <| .o 2 <| .o 4 <| .nil)
  replace hst4 := hst4.fin (L' := [_, _]) (.cons rfl <| .nil)
  try simp only [List.take_succ_cons, List.take_zero, List.drop_succ_cons, List.drop_zero, List.cons_append, List.nil_append, List.append_nil, List.length_cons, List.length_nil, Nat.zero_add, Nat.reduceAdd] at hst4
  clear hst3 hfr3 hk4
  refine hK8 _ _ ?_
  refine rp0 hst4 hfr4 (.cons rfl (zC rfl) <| .cons rfl (zAZ rfl rfl ⟨by omega, by omega⟩) <| .cons rfl (zD rfl) <| .nil) fun a5 w5 m5 hst5 hle5 hk5 => ?_
  have hfr5 := hk5.fr (.o 2 <| .o 4 <| .n 1 <| .nil)
  clear hst4 hfr4 hk5
  have zq1 := hle4.trans hle5
  replace hoo9 := hoo9.mono zq1
  have hlh5 := hlh3.trans zq1
  exact ⟨(o9, po9, (k - 1)), m5, Nat.lt_succ_self _, ⟨hst5, hlh5, hfr5.sub (.c <| .c <| .c <| .nil), ⟨hoo9, by rw [← hdx, show k.toNat = (k - 1).toNat + 1 by omega]; rfl, ⟨by show (-9223372036854775808 : Int) ≤ k - 1; omega, by show k - 1 ≤ (9223372036854775807 : Int); omega⟩⟩⟩⟩
 ·try simp only [nqs] at hb11
  have hres : Zg k.toNat v2 = v2 := by rcases hb11 with h9 | h9; (rw [show k.toNat = 0 by omega]; rfl); (obtain ⟨rfl, _⟩ := hv2.cases.resolve_right (fun ⟨_, _, _, _, _, _, _, _, _, _, _, h8, _⟩ => by rw [h8] at h9; simp at h9); exact dropEv_nil _)
  rw [hres] at hdx
  refine zv ?_
  refine hK4 _ _ ?_
  refine zB fun _ hK9 => ?_
  refine ra0 (tch := [(1, 1, (fun _ => .blk _ _))]) hst3 hfr3 (.cons rfl (zh (j := 0) rfl rfl isAgg75 sizeOf75 rfl) <| .consT rfl rfl (fun _ => rfl) rfl (ze rfl rfl rfl sizeOf75 rfl rfl rfl) <| .nil) fun a4 w4 m4 hst4 hle4 hk4 => ?_
  have hfr4 := hk4.fr (.o 1 <| .o 4 <| .nil)
  replace hst4 := hst4.fin (L' := [_, _]) (.cons rfl <| .nil)
  try simp only [List.take_succ_cons, List.take_zero, List.drop_succ_cons, List.drop_zero, List.cons_append, List.nil_append, List.append_nil, List.length_cons, List.length_nil, Nat.zero_add, Nat.reduceAdd] at hst4
  clear hst3 hfr3 hk4
  refine hK9 _ _ ?_
  refine zN ?_
  repeat (with_reducible first | refine zH ?_ | refine zG ?_)
  replace hv2 := hv2.mono hle4
  exact zO hst4 hfr4 rfl (.cell rfl (zi (zf (hst4.loc.at_ (k := 1) rfl)) isAgg75 sizeOf75) <| .nil) (⟨_, rfl, by rw [← hdx]; exact hv2⟩)
set_option maxHeartbeats 400000 in
theorem vfindf_c {w : World} {m : Mem} {a : Addr} {q : Str} {k ln : Int} {oa pe po : Option Addr} {n ca : Nat} {z : Addr} {s : Str} (hA : Agree w m) (hp : CellsAt m a [S q, .int .i64 k, S q, .slice oa n ca, .pointer pe, .pointer po, .int .i64 ln]) (hz : CellsAt m z [S s]) : FnV Try.prog 82 #[.pointer (some a), .pointer (some z)] w m (fun _ _ v => v = .bool (decide (q = s))) := by
 refine zZ (vs := [_, _]) func82 rfl rfl rfl fun a0 hfr0 => ?_
 have hst0 := zW hA (zg [] _ w m)
 have hM : MLe m m := MLe.refl m
 refine zB fun _ hK1 => ?_
 refine rp0 hst0 hfr0 (.cons rfl (zD rfl) <| .nil) fun a1 w1 m1 hst1 hle1 hk1 => ?_
 have hfr1 := hk1.fr (.o 0 <| .o 1 <| .nil)
 replace hp := hp.mono hle1
 replace hz := hz.mono hle1
 clear hst0 hfr0 hk1
 refine hK1 _ _ ?_
 refine zB fun _ hK2 => ?_
 refine zAJ (fun _ => zw) hst1 hfr1 (by kernel_rfl) (by kernel_rfl) (.cons rfl (zC rfl) <| .cons rfl (zL rfl) <| .cons rfl (zA (off := 0) rfl underlying150 rfl rfl sizeOf9 rfl) <| .cons rfl (zJ rfl hp isAgg9 rfl) <| .cons rfl (zk rfl hz isAgg9 rfl) <| .cons rfl (zd rfl rfl) <| .cons rfl (zD rfl) <| .nil) fun a2 w2 m2 hst2 hle2 hk2 => ?_
 have hfr2 := hk2.fr (.n 3 <| .nil)
 clear hst1 hfr1 hk2
 refine hK2 _ _ ?_
 refine zN ?_
 repeat (with_reducible first | refine zH ?_ | refine zG ?_)
 exact zO hst2 hfr2 rfl (.tmp rfl <| .nil) (rfl)
set_option maxHeartbeats 400000 in
theorem nothing_c {w : World} {m : Mem}  (hA : Agree w m)  : FnV Try.prog 83 #[] w m (fun _ _ v => v = .agg #[S [], .slice none 0 0, .pointer none]) := by
 refine zZ (vs := []) func83 rfl rfl rfl fun a0 hfr0 => ?_
 have hst0 := zW hA (zg [] _ w m)
 have hM : MLe m m := MLe.refl m
 refine zB fun _ hK1 => ?_
 replace hst0 := hst0.more (r := .free) trivial List.nodup_nil (by simp [Res.blocks])
 refine ra0 (tch := [(0, 0, (fun v => .blk v _))]) hst0 hfr0 (.consT rfl rfl (fun _ => rfl) rfl (zP zeroValue114 rfl) <| .nil) fun a1 w1 m1 hst1 hle1 hk1 => ?_
 have hfr1 := hk1.fr (.nil)
 obtain ⟨g2, e2, _⟩ := hk1.ex 0 rfl
 replace hfr1 := hfr1.cons e2
 replace hst1 := hst1.fin (L' := [_]) (.cons e2 <| .nil)
 clear hst0 hfr0 hk1
 refine hK1 _ _ ?_
 refine zB fun _ hK3 => ?_
 refine ra0 (tch := [(1, 0, (fun _ => .blk _ _))]) hst1 hfr1 (.cons rfl (zh (j := 0) rfl rfl isAgg114 sizeOf114 rfl) <| .consT rfl rfl (fun _ => rfl) rfl (ze rfl rfl rfl sizeOf114 rfl rfl rfl) <| .nil) fun a2 w2 m2 hst2 hle2 hk2 => ?_
 have hfr2 := hk2.fr (.o 0 <| .nil)
 replace hst2 := hst2.fin (L' := [_]) (.cons rfl <| .nil)
 try simp only [List.take_succ_cons, List.take_zero, List.drop_succ_cons, List.drop_zero, List.cons_append, List.nil_append, List.append_nil, List.length_cons, List.length_nil, Nat.zero_add, Nat.reduceAdd] at hst2
 clear hst1 hfr1 hk2
 refine hK3 _ _ ?_
 refine zN ?_
 repeat (with_reducible first | refine zH ?_ | refine zG ?_)
 exact zO hst2 hfr2 rfl (.cell rfl (zi (zf (hst2.loc.at_ (k := 0) rfl)) isAgg114 sizeOf114) <| .nil) (rfl)
set_option maxHeartbeats 400000 in
theorem vthe_c {w : World} {m : Mem} {v : Ev} {pv : Option Addr} {z : Addr} {s : Str} (hA : Agree w m) (hv : EvR m v pv) (hz : CellsAt m z [S s]) : FnV Try.prog 81 #[.agg #[.pointer pv], .func (.func 82) #[] #[.pointer (some z)]] w m (fun _ m v9 => (MP.evp (Zf s v)).p m v9) := by
 refine zZ (vs := [_, _]) func81 rfl rfl rfl fun a0 hfr0 => ?_
 have hst0 := zW hA (zg [] _ w m)
 have hM : MLe m m := MLe.refl m
 refine zB fun _ hK1 => ?_
 refine rp0 hst0 hfr0 (.cons rfl (zr rfl rfl) <| .cons rfl (zD rfl) <| .nil) fun a1 w1 m1 hst1 hle1 hk1 => ?_
 have hfr1 := hk1.fr (.o 1 <| .nil)
 obtain ⟨g2, e2, hc2⟩ := hk1.ex 2 rfl
 replace hfr1 := hfr1.cons e2
 replace hv := hv.mono hle1
 replace hz := hz.mono hle1
 clear hst0 hfr0 hk1
 refine hK1 _ _ ?_
 refine zB fun _ hK3 => ?_
 refine rp0 hst1 hfr1 (.cons rfl (zA (off := 0) rfl underlying75 rfl rfl sizeOf73 rfl) <| .cons rfl (zJ rfl hc2 isAgg73 rfl) <| .cons rfl (zD rfl) <| .nil) fun a2 w2 m2 hst2 hle2 hk2 => ?_
 have hfr2 := hk2.fr (.o 1 <| .n 5 <| .nil)
 replace hv := hv.mono hle2
 replace hz := hz.mono hle2
 clear hst1 hfr1 hk2
 refine hK3 _ _ ?_
 refine zB fun _ hK4 => ?_
 refine zT ?_
 refine zx (T := [(1, _)]) (fun (y : (Ev) × (Option Addr)) => ([(5, .pointer y.2)] : List (Nat × Value))) (fun y => []) (fun (y : (Ev) × (Option Addr)) m => (fun (v2 : Ev) (p2 : Option Addr) => (EvR m v2 p2) ∧ (Zf s v2 = Zf s v)) y.1 y.2) (fun y => y.1.len) ((v, pv)) ⟨hst2, MLe.refl _, hfr2.sub (.c <| .c <| .nil), ⟨hv, rfl⟩⟩ fun y a3 w3 m3 hh3 => ?_
 have hst3 := hh3.st; have hle3 := hh3.le; have hfr3 := hh3.fr; have hrel := hh3.rel; clear hh3
 replace hz := hz.mono hle3
 clear hst2 hfr2
 obtain ⟨v2, p2⟩ := y
 dsimp only at hrel hfr3 hst3
 obtain ⟨hv2, hdx⟩ := hrel
 have hlh3 := hle3
 refine zB fun _ hK6 => ?_
 refine zB fun _ hK7 => ?_
 rcases hv2.cases with ⟨rfl, rfl⟩ | ⟨s9, k9, l9, e9, o9, a9, oa9, ca9, pe9, po9, rfl, rfl, hce, hki9, hla9, hee9, hoo9⟩
 ·skip
  refine rp0 hst3 hfr3 (.cons rfl (zC rfl) <| .cons rfl (zBU rfl underlying73) <| .cons rfl (zC rfl) <| .cons rfl (zF (κ := .eq (.bool false)) (b := true) 10 rfl rfl (fun h => by simp at h)) <| .cons rfl (zF (κ := .eq (.bool false)) (b := true) 10 rfl rfl (fun h => by simp at h)) <| .cons rfl (zF (κ := .eq (.bool false)) (b := true) 10 rfl rfl (fun h => by simp at h)) <| .cons rfl (zF (κ := .eq (.bool false)) (b := true) 10 rfl rfl (fun h => by simp at h)) <| .cons rfl (zU rfl rfl rfl) <| .nil) fun a4 w4 m4 hst4 hle4 hk4 => ?_
  have hfr4 := hk4.fr (.o 5 <| .o 1 <| .n 15 <| .nil)
  clear hst3 hfr3 hk4
  refine hK7 _ _ ?_
  refine zE hfr4 rfl rfl (fun hb15 => ?_) (fun hb15 => ?_)
  ·simp at hb15
  ·try simp only [nqs] at hb15
   replace hv2 := hv2.mono hle4
   have hres : EvR m4 (Zf s v) none := by rw [← hdx]; exact hv2
   refine zv ?_
   refine hK4 _ _ ?_
   refine zB fun _ hK8 => ?_
   refine rp0 hst4 hfr4 (.cons rfl (zC rfl) <| .cons rfl (zD rfl) <| .nil) fun a5 w5 m5 hst5 hle5 hk5 => ?_
   have hfr5 := hk5.fr (.o 5 <| .n 4 <| .nil)
   clear hst4 hfr4 hk5
   refine hK8 _ _ ?_
   refine zN ?_
   repeat (with_reducible first | refine zH ?_ | refine zG ?_)
   replace hres := hres.mono hle5
   exact zO hst5 hfr5 rfl (.tmp rfl <| .nil) (⟨_, rfl, hres⟩)
 ·skip
  refine rp0 hst3 hfr3 (.cons rfl (zC rfl) <| .cons rfl (zBU rfl underlying73) <| .cons rfl (zC rfl) <| .cons rfl (zC rfl) <| .cons rfl (zC rfl) <| .cons rfl (zX rfl (.cons rfl <| .nil) call82 (fun w m hK => by have hle_ := KC.le hK; have hA := KC.agree hK; have hz := hz.mono hle_; have hce := hce.mono hle_; exact vfindf_c hA hce hz)) <| .cons rfl (z2 rfl) <| .cons rfl (zU rfl rfl rfl) <| .nil) fun a4 w4 m4 hst4 hle4 hk4 => ?_
  have hfr4 := hk4.fr (.o 5 <| .o 1 <| .n 15 <| .nil)
  clear hst3 hfr3 hk4
  refine hK7 _ _ ?_
  refine zE hfr4 rfl rfl (fun hb15 => ?_) (fun hb15 => ?_)
  ·try simp only [nqs] at hb15
   have hy : ¬ s9 = s := by simpa using hb15
   refine zR ?_
   refine hK6 _ _ ?_
   refine zT ?_
   replace hce := hce.mono hle4
   refine rp0 hst4 hfr4 (.cons rfl (zC rfl) <| .cons rfl (zL rfl) <| .cons rfl (zA (off := 5) rfl underlying150 rfl rfl sizeOf73 rfl) <| .cons rfl (zJ rfl hce isAgg73 rfl) <| .cons rfl (zD rfl) <| .nil) fun a5 w5 m5 hst5 hle5 hk5 => ?_
   have hfr5 := hk5.fr (.o 1 <| .n 5 <| .nil)
   clear hst4 hfr4 hk5
   have zq1 := hle4.trans hle5
   replace hoo9 := hoo9.mono zq1
   have hlh5 := hlh3.trans zq1
   exact ⟨(o9, po9), m5, Nat.lt_succ_self _, ⟨hst5, hlh5, hfr5.sub (.c <| .c <| .nil), ⟨hoo9, by rw [← hdx, Zf, if_neg hy]⟩⟩⟩
  ·try simp only [nqs] at hb15
   have hy : s9 = s := by simpa using hb15
   replace hce := hce.mono hle4
   replace hla9 := hla9.mono hle4
   replace hee9 := hee9.mono hle4
   replace hoo9 := hoo9.mono hle4
   have hres : EvR m4 (Zf s v) (some a9) := by rw [← hdx, Zf, if_pos hy]; exact EvR.mk hki9 hla9 hee9 hoo9 hce
   refine zv ?_
   refine hK4 _ _ ?_
   refine zB fun _ hK10 => ?_
   refine rp0 hst4 hfr4 (.cons rfl (zC rfl) <| .cons rfl (zD rfl) <| .nil) fun a5 w5 m5 hst5 hle5 hk5 => ?_
   have hfr5 := hk5.fr (.o 5 <| .n 4 <| .nil)
   clear hst4 hfr4 hk5
   refine hK10 _ _ ?_
   refine zN ?_
   repeat (with_reducible first | refine zH ?_ | refine zG ?_)
   replace hres := hres.mono hle5
   exact zO hst5 hfr5 rfl (.tmp rfl <| .nil) (⟨_, rfl, hres⟩)
set_option maxHeartbeats 400000 in
theorem vfind_c {w : World} {m : Mem} {v : Ev} {pv : Option Addr} {s : Str} (hA : Agree w m) (hv : EvR m v pv) : FnV Try.prog 68 #[.agg #[.pointer pv], S s] w m (fun _ m v9 => (MP.fnd (Zf s v)).p m v9) := by
 refine zZ (vs := [_, _]) func68 rfl rfl rfl fun a0 hfr0 => ?_
 have hst0 := zW hA (zg [] _ w m)
 have hM : MLe m m := MLe.refl m
 refine zB fun _ hK1 => ?_
 replace hst0 := hst0.more (r := .free) trivial List.nodup_nil (by simp [Res.blocks])
 replace hst0 := hst0.more (r := .free) trivial List.nodup_nil (by simp [Res.blocks])
 refine ra0 (tch := [(2, 0, (fun v => .blk v _)), (4, 1, (fun v => .blk v _))]) hst0 hfr0 (.cons rfl (zr rfl rfl) <| .cons rfl (zr rfl rfl) <| .consT rfl rfl (fun _ => rfl) rfl (zP zeroValue114 rfl) <| .cons rfl (zD rfl) <| .consT rfl rfl (fun _ => rfl) rfl (zP zeroValue75 rfl) <| .cons rfl (zD rfl) <| .nil) fun a1 w1 m1 hst1 hle1 hk1 => ?_
 have hfr1 := hk1.fr (.nil)
 obtain ⟨g2, e2, hc2⟩ := hk1.ex 2 rfl
 replace hfr1 := hfr1.cons e2
 obtain ⟨g3, e3, hc3⟩ := hk1.ex 3 rfl
 replace hfr1 := hfr1.cons e3
 obtain ⟨g4, e4, _⟩ := hk1.ex 4 rfl
 replace hfr1 := hfr1.cons e4
 obtain ⟨g6, e5, _⟩ := hk1.ex 6 rfl
 replace hfr1 := hfr1.cons e5
 replace hst1 := hst1.fin (L' := [_, _]) (.cons e4 <| .cons e5 <| .nil)
 replace hv := hv.mono hle1
 clear hst0 hfr0 hk1
 refine hK1 _ _ ?_
 refine zB fun _ hK6 => ?_
 refine ra0 (tch := []) hst1 hfr1 (.cons rfl (zY rfl hc2 isAgg75 sizeOf75 rfl rfl) <| .cons rfl (ZN (.cons rfl <| .nil)) <| .cons rfl (zm (φ := MP.evp (Zf s v)) rfl (.cons rfl <| .cons rfl <| .nil) call81 (fun w m hK => by have hle_ := KC.le hK; have hA := KC.agree hK; have hv := hv.mono hle_; have hc3 := hc3.mono hle_; exact FnG.mono (vthe_c hA hv hc3) fun _ _ _ _ h => h)) <| .consA 11 rfl rfl <| .nil) fun a2 w2 m2 hst2 hle2 hk2 => ?_
 have hfr2 := hk2.fr (.o 4 <| .o 6 <| .nil)
 obtain ⟨p9, e7, hfv⟩ := hk2.ex 11 rfl
 replace hfr2 := hfr2.cons (hk2.same 8 rfl e7)
 clear hst1 hfr1 hk2
 refine hK6 _ _ ?_
 refine zB fun _ hK8 => ?_
 refine zB fun _ hK9 => ?_
 refine rp0 hst2 hfr2 (.cons rfl (zC rfl) <| .cons rfl (ob_pnil rfl underlying73) <| .nil) fun a3 w3 m3 hst3 hle3 hk3 => ?_
 have hfr3 := hk3.fr (.o 4 <| .o 6 <| .o 8 <| .n 13 <| .nil)
 replace hfv := hfv.mono hle3
 clear hst2 hfr2 hk3
 refine hK9 _ _ ?_
 refine zE hfr3 rfl rfl (fun hb13 => ?_) (fun hb13 => ?_)
 ·try simp only [nqs] at hb13
  obtain ⟨hf0, rfl⟩ := hfv.cases.resolve_right (fun ⟨_, _, _, _, _, _, _, _, _, _, _, h9, _⟩ => by rw [h9] at hb13; simp at hb13)
  refine zB fun _ hK10 => ?_
  refine ra0 (tch := [(2, 0, (fun _ => .blk _ _)), (4, 1, (fun _ => .blk _ _))]) hst3 hfr3 (.cons rfl (zX rfl (.nil) call83 (fun w m hK => by have hle_ := KC.le hK; have hA := KC.agree hK; exact nothing_c hA)) <| .cons rfl (zQ (.nil) underlying75 zeroValue75 (.cons sizeOf73 <| .nil) rfl) <| .consT rfl rfl (fun _ => rfl) rfl (ze rfl rfl rfl sizeOf114 rfl rfl rfl) <| .cons rfl (zD rfl) <| .consT rfl rfl (fun _ => rfl) rfl (ze rfl rfl rfl sizeOf75 rfl rfl rfl) <| .cons rfl (zD rfl) <| .nil) fun a4 w4 m4 hst4 hle4 hk4 => ?_
  have hfr4 := hk4.fr (.o 4 <| .o 6 <| .n 5 <| .n 7 <| .nil)
  replace hst4 := hst4.fin (L' := [_, _]) (.cons rfl <| .cons rfl <| .nil)
  try simp only [List.take_succ_cons, List.take_zero, List.drop_succ_cons, List.drop_zero, List.cons_append, List.nil_append, List.append_nil, List.length_cons, List.length_nil, Nat.zero_add, Nat.reduceAdd] at hst4
  clear hst3 hfr3 hk4
  refine hK10 _ _ ?_
  refine zN ?_
  repeat (with_reducible first | refine zH ?_ | refine zG ?_)
  exact zO hst4 hfr4 rfl (.cell rfl (zi (zf (hst4.loc.at_ (k := 0) rfl)) isAgg114 sizeOf114) <| .tmp rfl <| .cell rfl (zi (zf (hst4.loc.at_ (k := 1) rfl)) isAgg75 sizeOf75) <| .tmp rfl <| .nil) (⟨((none, 0), none, none), by rw [hf0]; rfl, by rw [hf0]; exact fnd_nil⟩)
 ·try simp only [nqs] at hb13
  obtain ⟨s9, k9, l9, e9, o9, a9, oa9, ca9, pe9, po9, hf1, rfl, hce, hki9, hla9, hee9, hoo9⟩ := hfv.cases.resolve_left (fun h => by rw [h.2] at hb13; simp at hb13)
  refine zR ?_
  refine hK8 _ _ ?_
  refine zB fun _ hK12 => ?_
  refine zc (tch := [(13, 0, (fun _ => .blk _ _)), (15, 1, (fun _ => .blk _ _))]) (fun _ => zw) hst3 hfr3 (by kernel_rfl) (by kernel_rfl) (by kernel_rfl) (.cons rfl (zC rfl) <| .cons rfl (zL rfl) <| .cons rfl (zA (off := 2) rfl underlying150 rfl rfl sizeOf114 rfl) <| .cons rfl (Zk rfl hce isAgg114 sizeOf114 rfl rfl) <| .cons rfl (zC rfl) <| .cons rfl (zL rfl) <| .cons rfl (zA (off := 1) rfl underlying150 rfl rfl sizeOf3 rfl) <| .cons rfl (zJ rfl hce isAgg3 rfl) <| .cons rfl (zC rfl) <| .cons rfl (zL rfl) <| .cons rfl (zA (off := 5) rfl underlying150 rfl rfl sizeOf73 rfl) <| .cons rfl (zJ rfl hce isAgg73 rfl) <| .cons rfl (zQ (.cons rfl <| .nil) underlying75 zeroValue75 (.cons sizeOf73 <| .nil) rfl) <| .consT rfl rfl (fun _ => rfl) rfl (ze rfl rfl rfl sizeOf114 rfl rfl rfl) <| .cons rfl (zD rfl) <| .consT rfl rfl (fun _ => rfl) rfl (ze rfl rfl rfl sizeOf75 rfl rfl rfl) <| .cons rfl (zD rfl) <| .nil) fun a4 w4 m4 hst4 hle4 hk4 => ?_
  have hfr4 := hk4.fr (.o 4 <| .o 6 <| .n 5 <| .n 7 <| .nil)
  replace hst4 := hst4.fin (L' := [_, _]) (.cons rfl <| .cons rfl <| .nil)
  try simp only [List.take_succ_cons, List.take_zero, List.drop_succ_cons, List.drop_zero, List.cons_append, List.nil_append, List.append_nil, List.length_cons, List.length_nil, Nat.zero_add, Nat.reduceAdd] at hst4
  clear hst3 hfr3 hk4
  refine hK12 _ _ ?_
  refine zN ?_
  repeat (with_reducible first | refine zH ?_ | refine zG ?_)
  replace hla9 := hla9.mono hle4
  replace hee9 := hee9.mono hle4
  replace hoo9 := hoo9.mono hle4
  exact zO hst4 hfr4 rfl (.cell rfl (zi (zf (hst4.loc.at_ (k := 0) rfl)) isAgg114 sizeOf114) <| .tmp rfl <| .cell rfl (zi (zf (hst4.loc.at_ (k := 1) rfl)) isAgg75 sizeOf75) <| .tmp rfl <| .nil) (⟨((oa9, ca9), pe9, po9), by rw [hf1]; rfl, by rw [hf1]; exact ⟨hla9, hee9, hoo9, hki9⟩⟩)
end Go.Proofs.Ytnppknioifgdfaa
namespace Go.Proofs.Ytnppknioifgdfaa
set_option linter.all false
open Go.RowKit
section
variable {P : Program} {K : World → Mem → Prop} {m0 : Mem} {L : List Res} {us : List Nat} {ch : List (Nat × Bool)} {pre : List Ent} {T : List (Nat × Value)}
variable {dst : Option Nat} {ty : TypeId} {pos : String} {af : Array Edge} {gd : Option (Nat × Bool)}
theorem append_full {w : World} {m : Mem} {t ty e : TypeId} {i : TypeInfo} {z : Value} {size bytes n k c : Nat} {o A : Option Addr} {olds news : List Value} (ht : P.underlying t = some (.slice e)) (hi : P.info? e = some i) (hz : i.zero = some z)
  (hsize : i.size = size) (hby : i.bytes = bytes) (hzs : z.cells.size = size) (ha : Agree w m) (hb : RowAt m o olds) (hlo : olds.length = n * size)
  (hx : RowAt m A news) (hl : news.length = k * size) (hsz : 0 < size) (hk : 0 < k) (h1 : ∀ u ∈ news, u.oneCell' = true) (h63 : n + k ≤ maxLen) (hbytes : (n + k) * bytes ≤ 140737488355328) :
  ∃ o' cap w' m', (Builtin.append_ #[t, t] ty #[.slice o n n, .slice A k c]).run P w = .ok (.slice o' (n + k) cap) w' ∧ ExtG [] w m w' m' ∧ RowAt m' o' (olds ++ news) ∧ n + k ≤ cap := by
 subst hsize; subst hby
 have hlen : (olds ++ news).length = (n + k) * i.size := by rw [List.length_append, hlo, hl, Nat.add_mul]
 have hne : news ≠ [] := fun hh => by
  rw [hh, List.length_nil] at hl
  have := Nat.mul_pos hk hsz; omega
 obtain ⟨ad, rfl, hcell⟩ : ∃ p, A = some p ∧ CellsAt m p news := by
  rcases hx with h | h
  ·exact absurd h hne
  ·exact h
 have hnews : ∀ j u, news[j]? = some u → w.cell? (ad.add j) = some u := fun j u e => ZM ha hcell e
 have fresh : ∀ old, old < n + k → ZR .free (.row (.slice (some ⟨w.heap.size, 0, none⟩) (n + k) (grownCap w (n + k) old e)) (n + k) i.size e (olds ++ news)) w m
   (w.drew.alloc (.cells (olds.toArray ++ news.toArray ++ Builtin.zeroCells z.cells (grownCap w (n + k) old e - (n + k))) e)) (m.add w.heap.size (olds ++ news).toArray) := fun old ho => by
  have hge := grownCap_ge w (n + k) old e
  refine zCt (row_new (w := w.drew) hlen hge (grownCap_le_maxLen w (n + k) old e h63) ?_ ?_ ⟨ha.cell, ha.map⟩)
  ·simp only [Array.size_append, List.size_toArray, size_zeroCells, hzs, hlo, hl, ← Nat.add_mul]
   congr 1; omega
  ·simp only [Array.toList_append, List.append_assoc]
   rw [← List.append_assoc, ← hlen]
   exact List.take_left
 have newrow : RowAt (m.add w.heap.size (olds ++ news).toArray) (some ⟨w.heap.size, 0, none⟩) (olds ++ news) := .inr ⟨_, rfl, zAE _⟩
 have hge := grownCap_ge w (n + k) n e
 cases o with
 | none =>
  have ho : olds = [] := by
   rcases hb with h | ⟨p, h, _⟩
   ·exact h
   ·cases h
  subst ho
  have hn : n = 0 := by
   rw [List.length_nil] at hlo
   rcases Nat.eq_zero_or_pos n with h | h
   ·exact h
   ·have := Nat.mul_pos h hsz; omega
  subst hn
  have hrun := run_append_nil (P := P) w t ty e i z ht hi hz ad k c news hl hnews (by omega) (by simp only [maxLen] at h63; omega) (by simp only [Nat.zero_add] at hbytes; omega)
  have hf := (fresh 0 (by omega)).ext
  simp only [Nat.zero_add, List.nil_append, Array.empty_append] at hf hge newrow ⊢
  exact ⟨_, _, _, _, hrun, hf, newrow, hge⟩
 | some b =>
  have hold : ∀ j u, olds[j]? = some u → w.cell? (b.add j) = some u := fun j u h => by
   rcases hb with h0 | ⟨p, h0, hc⟩
   ·rw [h0] at h; cases h
   ·injection h0 with h0; subst h0; exact ZM ha hc h
  have hrun := run_append_grow (P := P) w t ty e i z ht hi hz b n n olds hlo hold ad k c news hl hnews (by omega) (by simp only [maxLen] at h63; omega) (growslice_fits (by omega) hbytes)
  exact ⟨_, _, _, _, hrun, (fresh n (by omega)).ext, newrow, hge⟩
theorem ob_appendF [hK : KC K m0 L] {d : Nat} {t e : TypeId} {i : TypeInfo} {z : Value} {size bytes n k c : Nat} {o A : Option Addr} {olds news : List Value} {x y : Operand} (hv : ev us ch pre T x = some (.slice o n n)) (hy : ev us ch pre T y = some (.slice A k c))
  (ht : P.underlying t = some (.slice e)) (hi : P.info? e = some i) (hz : i.zero = some z) (hsize : i.size = size) (hby : i.bytes = bytes) (hzs : z.cells.size = size) (hb : ∀ w m, K w m → RowAt m o olds) (hlo : olds.length = n * size)
  (hx : ∀ w m, K w m → RowAt m A news) (hl : news.length = k * size) (hsz : 0 < size) (hk : 0 < k) (h1 : news.all (·.oneCell') = true) (h63 : n + k ≤ maxLen) (hbytes : (n + k) * bytes ≤ 140737488355328) :
  Ob P K us ch pre T ⟨some d, .call { callee := .builtin .append, args := #[x, y], argTypes := #[t, t] }, ty, pos, af, gd⟩ (.ex (MP.sl (n + k) (olds ++ news))) := fun σ w m hk' hn => by
 obtain ⟨o', cap, w', m', hrun, hE, hro, hle⟩ := append_full (P := P) (ty := ty) (c := c) ht hi hz hsize hby hzs (hK.agree hk') (hb w m hk') hlo (hx w m hk') hl hsz hk (fun u hu => List.all_eq_true.1 h1 u hu) h63 hbytes
 have hr2 : (execOp (zy σ) ⟨some d, .call { callee := .builtin .append, args := #[x, y], argTypes := #[t, t] }, ty, pos, af, gd⟩).run P w = .ok (.value (.slice o' (n + k) cap)) w' := by
  simp only [execOp, resolve, List.map_toArray, List.map_cons, List.map_nil, hn.ev hv, hn.ev hy, Sem.run_bind, Sem.run_pure, Result.andThen_ok, invoke, builtin]
  rw [hrun]; rfl
 unfold Does; rw [hr2]
 exact ⟨m', hE, (o', cap), rfl, hro, hle⟩
def notI : TypeDesc → Bool | .interface _ => false | _ => true
theorem zDj [hK : KC K m0 L] {t : TypeId} {x : Operand} {v : Value} {d : TypeDesc} (hx : ev us ch pre T x = some v) (ht : P.underlying t = some d) (hd : notI d = true) : Ob P K us ch pre T ⟨dst, .makeInterface t x, ty, pos, af, gd⟩ (.eq (.iface t v)) := fun σ w m hk hn => by
 have hr : (execOp (zy σ) ⟨dst, .makeInterface t x, ty, pos, af, gd⟩).run P w = .ok (.value (.iface t v)) w := by
  simp only [execOp, hn.ev hx, Instr.makeInterface, Sem.run_bind, run_underlying ht, Result.andThen_ok]
  cases d <;> first | rfl | cases hd
 unfold Does; rw [hr]
 exact ⟨m, ExtG.refl _ (hK.agree hk), rfl⟩
theorem zBy [hK : KC K m0 L] {xt t : TypeId} {x : Operand} {v : Value} {d : TypeDesc} (hx : ev us ch pre T x = some (.iface t v)) (ht : P.underlying t = some d) (hd : notI d = true) : Ob P K us ch pre T ⟨dst, .typeAssert x xt t true, ty, pos, af, gd⟩ (.eq (.tuple #[v, .bool true])) := fun σ w m hk hn => by
 have hr : (execOp (zy σ) ⟨dst, .typeAssert x xt t true, ty, pos, af, gd⟩).run P w = .ok (.value (.tuple #[v, .bool true])) w := by
  simp only [execOp, hn.ev hx, Instr.typeAssert, Sem.run_bind, run_underlying ht, Result.andThen_ok]
  cases d <;> first | (simp [Sem.run_pure, Sem.run_bind]; done) | rfl | cases hd
 unfold Does; rw [hr]
 exact ⟨m, ExtG.refl _ (hK.agree hk), rfl⟩
theorem zAg [hK : KC K m0 L] {xt t t' : TypeId} {x : Operand} {v z : Value} {d : TypeDesc} (hx : ev us ch pre T x = some (.iface t' v)) (ht : P.underlying t = some d) (hd : notI d = true) (hne : Nat.beq t' t = false) (hz : ∀ w, (zeroValue t).run P w = .ok z w) : Ob P K us ch pre T ⟨dst, .typeAssert x xt t true, ty, pos, af, gd⟩ (.eq (.tuple #[z, .bool false])) := fun σ w m hk hn => by
 have hne' : ¬ t' = t := fun e => by subst e; rw [Nat.beq_refl] at hne; cases hne
 have hr : (execOp (zy σ) ⟨dst, .typeAssert x xt t true, ty, pos, af, gd⟩).run P w = .ok (.value (.tuple #[z, .bool false])) w := by
  simp only [execOp, hn.ev hx, Instr.typeAssert, Sem.run_bind, run_underlying ht, Result.andThen_ok]
  cases d <;> first | (simp [hne', Sem.run_pure, Sem.run_bind, hz]; done) | cases hd
 unfold Does; rw [hr]
 exact ⟨m, ExtG.refl _ (hK.agree hk), rfl⟩
theorem ob_slnnil [KC K m0 L] {t e yt : TypeId} {x : Operand} {o : Option Addr} {n c n' c' : Nat} (hx : ev us ch pre T x = some (.slice o n c)) (ht : P.underlying t = some (.slice e)) :
  Ob P K us ch pre T ⟨dst, .binOp .neq t x (.const (.slice none n' c')) yt, ty, pos, af, gd⟩ (.eq (.bool !o.isNone)) := Zl hx (y := .const (.slice none n' c')) rfl fun w => by
 rw [Sem.run_bind, show (eqGuard .neq t x (.const (.slice none n' c')) (.slice o n c) (.slice none n' c')).run P w = .ok () w from by simp [eqGuard]]
 exact run_neq_slice_nil_any w t e o n c n' c' ht
end
end Go.Proofs.Ytnppknioifgdfaa
namespace Go.Proofs.Ytnppknioifgdfaa
set_option linter.all false
open Go.RowKit
theorem blk_see {w : World} {m : Mem} {g : Nat} {cs : List Value} {e : TypeId} (hA : Agree w m) (h : (Res.blk (.pointer (some ⟨g, 0, none⟩)) (.cells cs.toArray e)).holds w m) : ∃ m', Agree w m' ∧ MLe m m' ∧ CellsAt m' ⟨g, 0, none⟩ cs := by
 obtain ⟨g', e1, hh, hm⟩ := h
 injection e1 with e1; injection e1 with e1; injection e1 with e1; subst e1
 refine ⟨m.add g cs.toArray, ⟨fun b o v e => ?_, hA.map⟩, ⟨fun b o v e => ?_, fun _ _ h => h⟩, rfl, fun i v e => ?_⟩
 ·change (if b = g then cs.toArray[o]? else m b o) = some v at e
  split at e
  ·rename_i hb; subst hb; unfold World.cell?; simp only [hh]; exact e
  ·exact hA.cell b o v e
 ·show (if b = g then cs.toArray[o]? else m b o) = some v
  rw [if_neg (fun hb => by rw [hb, hm] at e; cases e)]; exact e
 ·show (if g = g then cs.toArray[0 + i]? else _) = _
  rw [if_pos rfl, Nat.zero_add]; simpa using e
section
variable {P : Program}
theorem FnV.pure {f : FuncId} {args : Array Value} {w : World} {m m2 : Mem} {u : Value} (hA : Agree w m) (h : FnV P f args w m2 fun _ _ v => v = u) : FnV P f args w m fun _ _ v => v = u :=
 Calls.mono h fun e w' ⟨v, m', e1, hE, hv⟩ => ⟨v, m, e1, ExtG.of_below hA hE.below, hv⟩
variable {K : World → Mem → Prop} {m0 : Mem} {L : List Res} {us : List Nat} {ch : List (Nat × Bool)} {pre : List Ent} {T : List (Nat × Value)}
variable {dst : Option Nat} {ty : TypeId} {pos : String} {af : Array Edge} {gd : Option (Nat × Bool)}
end
end Go.Proofs.Ytnppknioifgdfaa
