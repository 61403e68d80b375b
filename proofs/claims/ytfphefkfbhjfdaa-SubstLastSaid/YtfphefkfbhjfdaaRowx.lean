/-
  Rows of one's own that are known by what they read as: appended to, or written over. Conditions: those of each lemma; no program occurs here.
-/
import Derived.Test.YtfphefkfbhjfdaaMrow
namespace Go.Proofs.Ytfphefkfbhjfdaa
set_option linter.all false
open Go.RowKit
def MP.reads {α : Type} (R : Mem → List Value → α → Prop) [RepR R] (sz : Nat) (l : List α) : MP := MP.mem (fun xs : List Value => .agg xs.toArray) (fun xs m => Reads R sz m xs l) fun hm h => h.mono hm
theorem MP.reads_p {α : Type} {R : Mem → List Value → α → Prop} [RepR R] {sz : Nat} {l : List α} {m : Mem} {xs : List Value} : (MP.reads R sz l).p m (.agg xs.toArray) ↔ Reads R sz m xs l := by
  constructor
  · rintro ⟨y, e, h⟩
    change Value.agg xs.toArray = Value.agg (List.toArray y) at e
    injection e with e2
    have : xs = y := congrArg Array.toList e2
    subst this; exact h
  · exact fun h => ⟨xs, rfl, h⟩
/-- A slice that reads as l. -/
def MP.slx {α : Type} (R : Mem → List Value → α → Prop) [hR : RepR R] (sz : Nat) (l : List α) : MP := MP.mem (fun y : Option Addr × Nat => .slice y.1 l.length y.2) (fun y m => Sl R sz m y.1 l.length y.2 l) fun hm h => Sl.mono h (fun _ _ e => hR.mono hm e) hm
/-- xs with ws in the stead of what stands from p on. -/
def splice (p : Nat) (ws xs : List Value) : List Value := xs.take p ++ ws ++ xs.drop (p + ws.length)
theorem splice_len {p : Nat} {ws xs : List Value} (h : p + ws.length ≤ xs.length) : (splice p ws xs).length = xs.length := by simp [splice]; omega
theorem splice_get {p : Nat} {ws xs : List Value} (h : p + ws.length ≤ xs.length) (q : Nat) : (splice p ws xs)[q]? = if p ≤ q ∧ q < p + ws.length then ws[q - p]? else xs[q]? := by
  unfold splice
  rw [List.append_assoc, List.getElem?_append]
  have hl : (xs.take p).length = p := by rw [List.length_take]; omega
  rw [hl]
  by_cases h1 : q < p
  · rw [if_pos h1, if_neg (by omega), List.getElem?_take, if_pos h1]
  · rw [if_neg h1, List.getElem?_append]
    by_cases h2 : q < p + ws.length
    · rw [if_pos (by omega), if_pos ⟨by omega, h2⟩]
    · rw [if_neg (by omega), if_neg (by omega), List.getElem?_drop]; congr 1; omega
section
variable {α : Type} {R : Mem → List Value → α → Prop} [hR : RepR R] {sz : Nat} {m : Mem} {l : List α} {xs : List Value}
theorem Reads.splice {i off : Nat} {ws : List Value} {a b : α} (h : Reads R sz m xs l) (hi : l[i]? = some a) (ho : off + ws.length ≤ sz) (hb : R m (splice off ws ((xs.drop (i * sz)).take sz)) b) (h1 : ws.all (·.oneCell') = true) : Reads R sz m (splice (i * sz + off) ws xs) (l.set i b) := by
  have hil : i < l.length := (List.getElem?_eq_some_iff.1 hi).1
  have h2 : (i + 1) * sz ≤ l.length * sz := Nat.mul_le_mul_right _ hil
  rw [Nat.succ_mul] at h2
  have hlen := h.len
  have hfit : i * sz + off + ws.length ≤ xs.length := by omega
  refine ⟨by rw [splice_len hfit, hlen, List.length_set], fun j x hx => ?_, ?_⟩
  · rw [List.getElem?_set] at hx
    by_cases hj : i = j
    · subst hj
      rw [if_pos rfl, if_pos hil] at hx
      injection hx with hx; subst hx
      have e : ((Go.Proofs.Ytfphefkfbhjfdaa.splice (i * sz + off) ws xs).drop (i * sz)).take sz = Go.Proofs.Ytfphefkfbhjfdaa.splice off ws ((xs.drop (i * sz)).take sz) := by
        apply List.ext_getElem?
        intro q
        rw [List.getElem?_take, List.getElem?_drop, splice_get hfit, splice_get (by rw [List.length_take, List.length_drop]; omega), List.getElem?_take, List.getElem?_drop]
        by_cases hq : q < sz
        · rw [if_pos hq, if_pos hq]
          by_cases hw : off ≤ q ∧ q < off + ws.length
          · rw [if_pos hw, if_pos ⟨by omega, by omega⟩]; congr 1; omega
          · rw [if_neg hw, if_neg (by omega)]
        · rw [if_neg hq, if_neg hq, if_neg (by omega)]
      rw [e]; exact hb
    · rw [if_neg hj] at hx
      have hjl : j < l.length := (List.getElem?_eq_some_iff.1 hx).1
      have e : ((Go.Proofs.Ytfphefkfbhjfdaa.splice (i * sz + off) ws xs).drop (j * sz)).take sz = (xs.drop (j * sz)).take sz := by
        apply List.ext_getElem?
        intro q
        rw [List.getElem?_take, List.getElem?_drop, splice_get hfit, List.getElem?_take, List.getElem?_drop]
        by_cases hq : q < sz
        · rw [if_pos hq, if_pos hq, if_neg]
          intro ⟨h3, h4⟩
          rcases Nat.lt_or_gt_of_ne hj with hlt | hgt
          · have : (i + 1) * sz ≤ j * sz := Nat.mul_le_mul_right _ hlt
            rw [Nat.succ_mul] at this; omega
          · have : (j + 1) * sz ≤ i * sz := Nat.mul_le_mul_right _ hgt
            rw [Nat.succ_mul] at this; omega
        · rw [if_neg hq, if_neg hq]
      rw [e]; exact h.at_ j x hx
  · unfold Go.Proofs.Ytfphefkfbhjfdaa.splice
    have ho1 := h.one
    rw [List.all_eq_true] at ho1 h1 ⊢
    intro v hv
    rw [List.mem_append, List.mem_append] at hv
    rcases hv with (hv | hv) | hv
    · exact ho1 v (List.mem_of_mem_take hv)
    · exact h1 v hv
    · exact ho1 v (List.mem_of_mem_drop hv)
theorem Reads.nth {i : Nat} {a : α} (h : Reads R sz m xs l) (hi : l[i]? = some a) : ((xs.drop (i * sz)).take sz).length = sz ∧ R m ((xs.drop (i * sz)).take sz) a := by
  have hil : i < l.length := (List.getElem?_eq_some_iff.1 hi).1
  have h2 : (i + 1) * sz ≤ l.length * sz := Nat.mul_le_mul_right _ hil
  rw [Nat.succ_mul] at h2
  refine ⟨by rw [List.length_take, List.length_drop, h.len]; omega, h.at_ i a hi⟩
theorem rowx_sl {o : Option Addr} {n cap : Nat} {e : TypeId} {w : World} (h : (Res.rowx (nz (.slice o n cap)) n sz e (MP.reads R sz l)).holds w m) (hl : l.length = n) (hc : n ≤ cap) (hb : n ≤ 9223372036854775807) (hsz : 0 < sz) : Sl R sz m o n cap l := by
  obtain ⟨xs, hr, hp⟩ := h
  rw [MP.reads_p] at hp
  cases cap with
  | zero =>
    obtain rfl : n = 0 := by omega
    obtain rfl : l = [] := List.eq_nil_of_length_eq_zero hl
    exact ⟨rfl, Nat.le_refl _, by omega, fun i x hx => by simp at hx⟩
  | succ c =>
    rcases hr.2 with ⟨h1, _⟩ | ⟨g, cap, cur, h1, _, _, _, _, _, h5, _⟩
    · cases h1
    · injection h1 with e1 e2 e3
      subst e1
      exact hp.sl (.inr ⟨_, rfl, rfl, fun i u hu => by rw [Nat.zero_add]; exact h5 i u hu⟩) hsz hl hc hb
theorem rowx_new {w : World} {e : TypeId} : (Res.rowx (.slice none 0 0) 0 sz e (MP.reads R sz [])).holds w m := ⟨[], ⟨by simp, .inl ⟨rfl, rfl⟩⟩, MP.reads_p.2 Reads.nil⟩
end
theorem Res.mrowx_val {v : Value} {n size : Nat} {e : TypeId} {ψ : MP} {w : World} {m : Mem} (h : (Res.mrowx v n size e ψ).holds w m) : ∃ o cap, v = .slice o n cap ∧ n ≤ cap ∧ cap ≤ maxLen ∧ (0 < n → ∃ g, o = some ⟨g, 0, none⟩) := by
  obtain ⟨xs, ⟨_, o, cap, h1, h2, h3, h4⟩, _⟩ := h
  refine ⟨o, cap, h1, h2, h3, fun hn => ?_⟩
  rcases h4 with h4 | ⟨g, _, h4, _⟩
  · omega
  · exact ⟨g, h4⟩
theorem mrowx_nodup (v : Value) (n size : Nat) (e : TypeId) (ψ : MP) : (Res.mrowx v n size e ψ).blocks.Nodup := mBlock_nodup v
theorem rowx_nodup (v : Value) (n size : Nat) (e : TypeId) (ψ : MP) : (Res.rowx v n size e ψ).blocks.Nodup := rowBlock_nodup v
/-- It is written no more. -/
theorem St.freezeX {α : Type} {R : Mem → List Value → α → Prop} [hR : RepR R] {G0 : List Nat} {W : World} {mE : Mem} {L : List Res} {w : World} {m : Mem} {k : Nat} {v : Value} {n size : Nat} {e : TypeId} {l : List α} (h : St G0 W mE L w m) (hk : L[k]? = some (.mrowx v n size e (MP.reads R size l))) (hl : l.length = n) (hsz : 0 < size) (hb : n ≤ 9223372036854775807) :
    ∃ m', MLe m m' ∧ St G0 W mE (L.set k (.rowx (nz v) n size e (MP.reads R size l))) w m' ∧ ∃ o cap, v = .slice o n cap ∧ Sl R size m' o n cap l := by
  obtain ⟨xs, hr, hp⟩ := h.loc.at_ hk
  obtain ⟨m', ht, o, cap, hv, h1, h2, h3⟩ := mrow_freeze (v := v) (n := n) (size := size) (e := e) (xs := xs) h.agree hr
  have hp' := (MP.reads R size l).mono ht.ext.le hp
  have ht2 : Touch (.mrowx v n size e (MP.reads R size l)) (.rowx (nz v) n size e (MP.reads R size l)) w m w m' := ⟨ht.ext, ⟨xs, ht.now, hp'⟩, ht.nodup, ht.where_⟩
  exact ⟨m', ht.ext.le, h.touch hk ht2, o, cap, hv, (MP.reads_p.1 hp').sl h3 hsz hl h1 hb⟩
section
variable {P : Program} {K : World → Mem → Prop} {m0 : Mem} {L : List Res} {us : List Nat} {ch : List (Nat × Bool)} {pre : List Ent} {T : List (Nat × Value)}
variable {dst : Option Nat} {ty : TypeId} {pos : String} {af : Array Edge} {gd : Option (Nat × Bool)}
variable {α : Type} {R : Mem → List Value → α → Prop} [hR : RepR R]
/-- 'append' onto a row that reads as l. -/
theorem ob_appendX [hK : KC K m0 L] {d : Nat} {t e : TypeId} {i : TypeInfo} {z : Value} {size bytes n k c c0 : Nat} {o A : Option Addr} {l l' : List α} {x y : Operand} {r : (Nat → Value) → Res} (hv : ev us ch pre T x = some (.slice o n c0)) (hy : ev us ch pre T y = some (.slice A k c))
    (hrr : ∀ σ, r σ = .rowx (nz (evalO σ x)) n size e (MP.reads R size l) ∨ r σ = .rowx (nz (.slice o n c0)) n size e (MP.reads R size l) ∨ (r σ = .free ∧ c0 = 0 ∧ n = 0 ∧ l = []))
    (ht : P.underlying t = some (.slice e)) (hi : P.info? e = some i) (hz : i.zero = some z) (hsize : i.size = size) (hby : i.bytes = bytes) (hzs : z.cells.size = size)
    (hx : ∀ w m, K w m → Sl R size m A k c l') (hn0 : l.length = n) (hsz : 0 < size) (h63 : n + k ≤ maxLen) (hbytes : (n + k) * bytes ≤ 140737488355328) :
    ObT P K us ch pre T r (fun v' => .rowx (nz v') (l ++ l').length size e (MP.reads R size (l ++ l'))) ⟨some d, .call { callee := .builtin .append, args := #[x, y], argTypes := #[t, t] }, ty, pos, af, gd⟩ (.ex (MP.slx R size (l ++ l'))) := fun σ w m hk hr hn => by
  have hsl := hx w m hk
  obtain ⟨news, hra, hrd, hnl⟩ := hsl.reads
  have hkl : l'.length = k := hsl.len
  have hle : (l ++ l').length = n + k := by rw [List.length_append, hn0, hkl]
  obtain ⟨olds, hro, hrp, hbl⟩ : ∃ olds, (Res.row (nz (.slice o n c0)) n size e olds).holds w m ∧ Reads R size m olds l ∧ ∀ g ∈ (Res.row (nz (.slice o n c0)) n size e olds).blocks, g ∈ (r σ).blocks := by
    rcases hrr σ with h | h | ⟨h, rfl, rfl, rfl⟩
    · rw [h, hn.ev hv] at hr
      obtain ⟨olds, h1, h2⟩ := hr
      exact ⟨olds, h1, MP.reads_p.1 h2, by rw [h, hn.ev hv]; exact fun g hg => hg⟩
    · rw [h] at hr
      obtain ⟨olds, h1, h2⟩ := hr
      exact ⟨olds, h1, MP.reads_p.1 h2, by rw [h]; exact fun g hg => hg⟩
    · exact ⟨[], ⟨by simp, .inl ⟨rfl, rfl⟩⟩, Reads.nil, fun g hg => by cases hg⟩
  obtain ⟨o', cap, w', m', hrun, ht', hro', hle'⟩ := append_touchZ (P := P) (ty := ty) (c := c) ht hi hz hsize hby hzs (hK.agree hk) hro hra hnl hsz (fun u hu => List.all_eq_true.1 hrd.one u hu) h63 hbytes
  have hr2 : (execOp (evalO σ) ⟨some d, .call { callee := .builtin .append, args := #[x, y], argTypes := #[t, t] }, ty, pos, af, gd⟩).run P w = .ok (.value (.slice o' (n + k) cap)) w' := by
    simp only [execOp, resolve, List.map_toArray, List.map_cons, List.map_nil, hn.ev hv, hn.ev hy, Sem.run_bind, Sem.run_pure, Result.andThen_ok, invoke, builtin]
    rw [hrun]; rfl
  have hrd' : Reads R size m' (olds ++ news) (l ++ l') := (hrp.app hrd).mono ht'.ext.le
  unfold Does; rw [hr2]
  rw [hle]
  have ht2 : Touch (r σ) (.rowx (nz (.slice o' (n + k) cap)) (n + k) size e (MP.reads R size (l ++ l'))) w m w' m' :=
    touch_from (r := .row (nz (.slice o n c0)) n size e olds) ⟨ht'.ext, ⟨olds ++ news, ht'.now, MP.reads_p.2 hrd'⟩, ht'.nodup, ht'.where_⟩ hbl
  refine ⟨m', ht2, (o', cap), by show _ = Value.slice o' (l ++ l').length cap; rw [hle], ?_⟩
  show Sl R size m' o' (l ++ l').length cap (l ++ l')
  have hb : n + k ≤ 9223372036854775807 := by simp only [maxLen] at h63; omega
  rw [hle]
  exact hrd'.sl hro' hsz hle hle' hb
theorem below_da (w : World) (o : Obj) : Below w.heap.size w (w.drew.alloc o) :=
  have h := (Below.refl w.drew.heap.size w.drew).alloc (Nat.le_refl _) o
  ⟨h.os, h.tape, h.output, h.size, fun b hb => h.block b hb⟩
/-- 'append' of what there is onto an empty literal: a row that may be written over. -/
theorem ob_appendM0 [hK : KC K m0 L] {d : Nat} {t e : TypeId} {i : TypeInfo} {z : Value} {size bytes k c : Nat} {o A : Option Addr} {l : List α} {x y : Operand} (hv : ev us ch pre T x = some (.slice o 0 0)) (hy : ev us ch pre T y = some (.slice A k c))
    (ht : P.underlying t = some (.slice e)) (hi : P.info? e = some i) (hz : i.zero = some z) (hsize : i.size = size) (hby : i.bytes = bytes) (hzs : z.cells.size = size)
    (hx : ∀ w m, K w m → Sl R size m A k c l) (hsz : 0 < size) (h63 : k ≤ maxLen) (hbytes : k * bytes ≤ 140737488355328) :
    ObT P K us ch pre T (fun _ => .free) (fun v' => .mrowx v' k size e (MP.reads R size l)) ⟨some d, .call { callee := .builtin .append, args := #[x, y], argTypes := #[t, t] }, ty, pos, af, gd⟩ (.ex (MP.made' k)) := fun σ w m hk hr hn => by
  have hsl := hx w m hk
  obtain ⟨news, hra, hrd, hnl⟩ := hsl.reads
  have hkl : l.length = k := hsl.len
  have ha := hK.agree hk
  have fin : ∀ v w', (Builtin.append_ #[t, t] ty #[.slice o 0 0, .slice A k c]).run P w = .ok v w' → (execOp (evalO σ) ⟨some d, .call { callee := .builtin .append, args := #[x, y], argTypes := #[t, t] }, ty, pos, af, gd⟩).run P w = .ok (.value v) w' := fun v w' h => by
    simp only [execOp, resolve, List.map_toArray, List.map_cons, List.map_nil, hn.ev hv, hn.ev hy, Sem.run_bind, Sem.run_pure, Result.andThen_ok, invoke, builtin]
    rw [h]; rfl
  by_cases hk0 : k = 0
  · subst hk0
    obtain rfl : news = [] := List.eq_nil_of_length_eq_zero (by simpa using hnl)
    have hrun : (Builtin.append_ #[t, t] ty #[.slice o 0 0, .slice A 0 c]).run P w = .ok (.slice o 0 0) w := by
      cases o <;> cases A <;> simp [Builtin.append_, run_underlying ht, sizeOf, typeInfo, hi, Builtin.lenOf, Builtin.firstCells, loadCells, loadCellsFrom, storeCells]
    unfold Does; rw [fin _ _ hrun]
    exact ⟨m, ⟨ExtG.refl _ ha, ⟨[], ⟨by simp, o, 0, rfl, Nat.le_refl _, Nat.zero_le _, .inl rfl⟩, MP.reads_p.2 hrd⟩, List.nodup_nil, fun g hg => by cases hg⟩, (o, 0), rfl, Nat.le_refl _⟩
  · subst hsize; subst hby
    have hne : news ≠ [] := fun hh => by
      rw [hh, List.length_nil] at hnl
      have := Nat.mul_pos (Nat.pos_of_ne_zero hk0) hsz; omega
    obtain ⟨ad, rfl, hcell⟩ : ∃ p, A = some p ∧ CellsAt m p news := by
      rcases hra with h | h
      · exact absurd h hne
      · exact h
    have hnews : ∀ j u, news[j]? = some u → w.cell? (ad.add j) = some u := fun j u e => cell_of_cells ha hcell e
    obtain ⟨cap, w', hrun, g, hg, hge, hcm, hb, hh⟩ : ∃ cap w', (Builtin.append_ #[t, t] ty #[.slice o 0 0, .slice (some ad) k c]).run P w = .ok (.slice (some ⟨w.heap.size, 0, none⟩) k cap) w' ∧ ∃ g, g = w.heap.size ∧ k ≤ cap ∧ cap ≤ maxLen ∧ Below w.heap.size w w' ∧ w'.heap[g]? = some (.cells (news.toArray ++ Builtin.zeroCells z.cells (cap - k)) e (0, 0)) := by
      cases o with
      | none =>
        have hrun := run_append_nil (P := P) w t ty e i z ht hi hz ad k c news hnl hnews (by omega) (by simp only [maxLen] at h63; omega) (by omega)
        exact ⟨_, _, hrun, _, rfl, grownCap_ge w k 0 e, grownCap_le_maxLen w k 0 e h63, below_da w _, heap_alloc_new w.drew _⟩
      | some b =>
        have hrun := run_append_grow (P := P) w t ty e i z ht hi hz b 0 0 [] (by simp) (fun j u h => by simp at h) ad k c news hnl hnews (by omega) (by simp only [maxLen] at h63; omega) (growslice_fits (by omega) (by rw [Nat.zero_add]; exact hbytes))
        simp only [Nat.zero_add, Array.empty_append] at hrun
        exact ⟨_, _, hrun, _, rfl, grownCap_ge w k 0 e, grownCap_le_maxLen w k 0 e h63, below_da w _, heap_alloc_new w.drew _⟩
    unfold Does; rw [fin _ _ hrun]
    subst hg
    have ht2 := mrow_new (size := i.size) (xs := news) ha hnl hge hcm (by simp only [Array.size_append, List.size_toArray, size_zeroCells, hzs, hnl, ← Nat.add_mul]; congr 1; omega) (by simp only [Array.toList_append, ← hnl]; exact List.take_left) hb (Nat.le_refl _) hh
    exact ⟨m, ⟨ht2.ext, ⟨news, ht2.now, MP.reads_p.2 hrd⟩, ht2.nodup, ht2.where_⟩, (_, cap), rfl, hge⟩
/-- A load of one thing out of a row that may be written over. -/
theorem ob_loadMX [hK : KC K m0 L] {t e : TypeId} {x : Operand} {i j g n cap size : Nat} {l : List α} {a : α} (hx : ev us ch pre T x = some (.pointer (some ((⟨g, 0, none⟩ : Addr).add (i * size)))))
    (hL : L[j]? = some (.mrowx (.slice (some ⟨g, 0, none⟩) n cap) n size e (MP.reads R size l))) (ha : ∀ w, (isAgg t).run P w = .ok true w) (hz : ∀ w, (sizeOf t).run P w = .ok size w) (hi : l[i]? = some a) (hsz : 0 < size) :
    Ob P K us ch pre T ⟨dst, .load t x, ty, pos, af, gd⟩ (.ex (MP.mem (fun vs : List Value => .agg vs.toArray) (fun vs m => R m vs a) fun hm h => hR.mono hm h)) := fun σ w m hk hn => by
  obtain ⟨xs, ⟨hlen, o, cap', e1, h1, h2, h3⟩, hp⟩ := hK.at_ hk hL
  injection e1 with e1 e2 e3; subst e1; subst e3
  rw [MP.reads_p] at hp
  have hil : i < l.length := (List.getElem?_eq_some_iff.1 hi).1
  have hln := hp.len
  have hmul : (i + 1) * size ≤ l.length * size := Nat.mul_le_mul_right _ hil
  rw [Nat.succ_mul] at hmul
  rcases h3 with h3 | ⟨g', cur, e4, hh, h4, h5, h6⟩
  · subst h3
    obtain rfl : n = 0 := by omega
    rw [hln] at hlen; omega
  · injection e4 with e4; injection e4 with e4; subst e4
    obtain ⟨q1, q2⟩ := hp.nth hi
    have hl := loadCells_run (P := P) (w := w) (a := (⟨g, 0, none⟩ : Addr).add (i * size)) (vs := (xs.drop (i * size)).take size) fun k v ek => by
      rw [add_add']
      rw [List.getElem?_take, List.getElem?_drop] at ek
      split at ek
      · rename_i hk'
        rw [← h5, List.getElem?_take] at ek
        split at ek
        · have e5 : (⟨g, 0, none⟩ : Addr).add (i * size + k) = ⟨g, i * size + k, none⟩ := by unfold Addr.add; split <;> simp_all
          rw [e5]; unfold World.cell?; simp only [hh]; simpa using ek
        · cases ek
      · cases ek
    rw [q1] at hl
    have hrun : (execOp (evalO σ) ⟨dst, .load t x, ty, pos, af, gd⟩).run P w = .ok (.value (.agg ((xs.drop (i * size)).take size).toArray)) w := by
      simp [execOp, hn.ev hx, Instr.loadAt, Instr.sureAddr, loadVar, ha, hz, hl]
    unfold Does; rw [hrun]
    exact ⟨m, ExtG.refl _ (hK.agree hk), _, rfl, q2⟩
/-- .. of one cell of it. -/
theorem ob_loadMX1 [hK : KC K m0 L] {t e : TypeId} {x : Operand} {i off j g n cap size : Nat} {l : List α} {a : α} {φ : MP} (hx : ev us ch pre T x = some (.pointer (some ((⟨g, 0, none⟩ : Addr).add (i * size + off)))))
    (hL : L[j]? = some (.mrowx (.slice (some ⟨g, 0, none⟩) n cap) n size e (MP.reads R size l))) (ha : ∀ w, (isAgg t).run P w = .ok false w) (hi : l[i]? = some a) (ho : off < size) (hsel : ∀ m vs, R m vs a → ∃ v, vs[off]? = some v ∧ φ.p m v) :
    Ob P K us ch pre T ⟨dst, .load t x, ty, pos, af, gd⟩ (.ex φ) := fun σ w m hk hn => by
  obtain ⟨xs, ⟨hlen, o, cap', e1, h1, h2, h3⟩, hp⟩ := hK.at_ hk hL
  injection e1 with e1 e2 e3; subst e1; subst e3
  rw [MP.reads_p] at hp
  obtain ⟨q1, q2⟩ := hp.nth hi
  obtain ⟨v, hv, hφ⟩ := hsel m _ q2
  rcases h3 with h3 | ⟨g', cur, e4, hh, h4, h5, h6⟩
  · subst h3
    obtain rfl : n = 0 := by omega
    have : xs = [] := List.eq_nil_of_length_eq_zero (by simpa using hlen)
    subst this; simp at hv
  · injection e4 with e4; injection e4 with e4; subst e4
    rw [List.getElem?_take, if_pos ho, List.getElem?_drop, ← h5, List.getElem?_take] at hv
    split at hv
    · have e5 : (⟨g, 0, none⟩ : Addr).add (i * size + off) = ⟨g, i * size + off, none⟩ := by unfold Addr.add; split <;> simp_all
      have hcell : w.cell? ((⟨g, 0, none⟩ : Addr).add (i * size + off)) = some v := by rw [e5]; unfold World.cell?; simp only [hh]; simpa using hv
      have hrun : (execOp (evalO σ) ⟨dst, .load t x, ty, pos, af, gd⟩).run P w = .ok (.value v) w := by
        simp [execOp, hn.ev hx, Instr.loadAt, Instr.sureAddr, loadVar, ha, run_load, hcell]
      unfold Does; rw [hrun]
      exact ⟨m, ExtG.refl _ (hK.agree hk), hφ⟩
    · cases hv
/-- A store into one thing of such a row. -/
theorem ob_storeMX [hK : KC K m0 L] {t e : TypeId} {x y : Operand} {i off g n cap size : Nat} {l : List α} {a b : α} {v : Value} {ws : List Value} (hx : ev us ch pre T x = some (.pointer (some ((⟨g, 0, none⟩ : Addr).add (i * size + off))))) (hy : ev us ch pre T y = some v)
    (hv : v.cells = ws.toArray) (hz : ∀ w, (sizeOf t).run P w = .ok ws.length w) (hi : l[i]? = some a) (hsz : 0 < size) (ho : off + ws.length ≤ size) (hb : ∀ w m, K w m → ∀ vs, vs.length = size → R m vs a → R m (splice off ws vs) b) (h1 : ∀ w m, K w m → ws.all (·.oneCell') = true) :
    ObT P K us ch pre T (fun _ => .mrowx (.slice (some ⟨g, 0, none⟩) n cap) n size e (MP.reads R size l)) (fun _ => .mrowx (.slice (some ⟨g, 0, none⟩) n cap) n size e (MP.reads R size (l.set i b))) ⟨none, .store t x y, ty, pos, af, gd⟩ (.ex MP.any) := fun σ w m hk hr hkn => by
  obtain ⟨xs, ⟨hlen, o, cap', e1, hnc, hcm, h3⟩, hp⟩ := hr
  injection e1 with e1 e2 e3; subst e1; subst e3
  rw [MP.reads_p] at hp
  have h1' := h1 w m hk
  obtain ⟨q1, q2⟩ := hp.nth hi
  have hsp := hp.splice hi ho (hb w m hk _ q1 q2) h1'
  have hil : i < l.length := (List.getElem?_eq_some_iff.1 hi).1
  have hln := hp.len
  have hmul : (i + 1) * size ≤ l.length * size := Nat.mul_le_mul_right _ hil
  rw [Nat.succ_mul] at hmul
  have hfit : i * size + off + ws.length ≤ xs.length := by omega
  have hln' : l.length = n := Nat.eq_of_mul_eq_mul_right hsz (hln.symm.trans hlen)
  rcases h3 with h3 | ⟨g', cur, e4, hh, h4, h5, h6⟩
  · omega
  · injection e4 with e4; injection e4 with e4; subst e4
    have hcl : n * size ≤ cur.size := by rw [h4]; exact Nat.mul_le_mul_right _ hnc
    obtain ⟨w', r1, r2, r3, r4, r5, r6, r7⟩ := storeCells_run (P := P) (g := g) (e := e) ws w cur.toList (i * size + off) 0 (by simpa using hh) (by simp only [Array.length_toList]; omega) (fun u hu => List.all_eq_true.1 h1' u hu)
    have hrun : (execOp (evalO σ) ⟨none, .store t x y, ty, pos, af, gd⟩).run P w = .ok .skip w' := by
      simp only [execOp, hkn.ev hx, hkn.ev hy]
      rw [Sem.run_bind]
      have : (Instr.storeAt t (.pointer (some ((⟨g, 0, none⟩ : Addr).add (i * size + off)))) v).run P w = .ok () w' := by
        simp [Instr.storeAt, Instr.sureAddr, storeVar, hz, hv, r1]
      rw [this]; rfl
    simp only [Nat.add_zero] at r2
    have ht := mrow_write (w := w) (w' := w') (m := m) (g := g) (n := n) (cap := cap) (n' := n) (size := size) (e := e) (xs := xs) (ys := splice (i * size + off) ws xs) (cur := cur) (cur' := (splice (i * size + off) ws cur.toList).toArray) (hK.agree hk) (by omega) hcm hh h6 hnc (by rw [splice_len hfit]; exact hlen) r2
      (by simp only [List.size_toArray]; rw [splice_len (by simp only [Array.length_toList]; omega)]; simp [h4])
      (by
        simp only
        apply List.ext_getElem?
        intro q
        rw [List.getElem?_take, splice_get (by simp only [Array.length_toList]; omega), splice_get hfit, ← h5, List.getElem?_take]
        by_cases hq : q < n * size
        · rw [if_pos hq, if_pos hq]
        · rw [if_neg hq, if_neg hq, if_neg (by omega)])
      r3 r4 r5 (by omega) (fun b _ hb => r7 b hb)
    unfold Does; rw [hrun]
    exact ⟨m, ⟨ht.ext, ⟨_, ht.now, MP.reads_p.2 hsp⟩, ht.nodup, ht.where_⟩, _, rfl, trivial⟩
end
/-- Ways that part and meet again: what holds where they meet. -/
theorem join_any {α : Type} {P : Program} {Q : Exit → Act → World → Prop} {x y : Code} {n : Nat} {T : List (Nat × Value)} {G0 : List Nat} {W : World} {mE m0 : Mem} {a : Act} {w : World}
    (f : α → List (Nat × Value)) (Lf : α → List Res) (J : α → Mem → Prop) (y0 : α) (h0 : Head n T G0 W mE m0 f Lf (fun _ _ => True) y0 a w m0)
    (cont : ∀ (g : α) (a : Act) (w : World) (m : Mem), Head n T G0 W mE m0 f Lf J g a w m → y.wp P Q a w)
    (first : ∀ K : Act → World → Prop, (∀ (g : α) (a : Act) (w : World) (m : Mem), Head n T G0 W mE m0 f Lf J g a w m → K a w) → x.wp P (Exit.then K Q) a w) : (Code.seq x y).wp P Q a w :=
  seq_any fun K hK => first K fun g a w m h => hK a w (cont g a w m h)
theorem putL_len : ∀ (l cs : List Value) (off : Nat), (putL cs off l).length = cs.length
  | [], _, _ => rfl
  | v :: l, cs, off => by rw [putL, putL_len l, List.length_set]
theorem putL_get : ∀ (l cs : List Value) (off i : Nat), off + l.length ≤ cs.length → (putL cs off l)[i]? = if off ≤ i ∧ i < off + l.length then l[i - off]? else cs[i]?
  | [], cs, off, i, _ => by rw [putL, if_neg (by simp only [List.length_nil]; omega)]
  | v :: l, cs, off, i, h => by
    simp only [List.length_cons] at h ⊢
    rw [putL, putL_get l _ _ _ (by rw [List.length_set]; omega)]
    by_cases h1 : off + 1 ≤ i ∧ i < off + 1 + l.length
    · rw [if_pos h1, if_pos (by omega), show i - off = (i - (off + 1)) + 1 by omega]; rfl
    · rw [if_neg h1]
      by_cases h2 : i = off
      · subst h2; rw [if_pos (by omega), Nat.sub_self, List.getElem?_set_self (by omega)]; rfl
      · rw [if_neg (by omega), List.getElem?_set_ne (by omega)]
section
variable {P : Program} {K : World → Mem → Prop} {m0 : Mem} {L : List Res} {us : List Nat} {ch : List (Nat × Bool)} {pre : List Ent} {T : List (Nat × Value)}
variable {dst : Option Nat} {ty : TypeId} {pos : String} {af : Array Edge} {gd : Option (Nat × Bool)}
/-- A literal of one thing of its own cells. -/
theorem ob_buildSlice1 [hK : KC K m0 L] {t e : TypeId} {sz : Nat} {x : Operand} {vs : List Value} {z : Value} (hx : ev us ch pre T x = some (.agg vs.toArray)) (ht : P.underlying t = some (.slice e))
    (hsz : ∀ w, (sizeOf e).run P w = .ok sz w) (hz : ∀ w, (zeroValue e).run P w = .ok z w) (hl : Nat.beq vs.length sz = true) (hzs : Nat.beq z.cells.size sz = true) (hn : Nat.ble sz 16777216 = true) (h0 : Nat.beq sz 0 = false) :
    Ob P K us ch pre T ⟨dst, .buildSlice t 1 #[(0, x)], ty, pos, af, gd⟩ (.ex (MP.row 1 vs)) := by
  rw [Nat.beq_eq] at hl
  refine ob_buildSlice (zero := z.cells.toList) (EvPs.cons hx .nil) ht hsz hz rfl (by rw [Nat.one_mul]; exact hn) (by rw [Nat.one_mul]; exact h0) ?_
  have hlen : ((List.range (1 * sz)).map fun i => z.cells.toList.toArray[i % z.cells.toList.toArray.size]!).length = sz := by simp
  have hc : (Value.agg vs.toArray).cells.toList = vs := rfl
  simp only [fillL, hc]
  have e1 : Nat.beq vs.length sz = true := by rw [Nat.beq_eq]; exact hl
  have e2 : Nat.ble (0 * sz + vs.length) ((List.range (1 * sz)).map fun i => z.cells.toList.toArray[i % z.cells.toList.toArray.size]!).length = true := by rw [hlen]; exact Nat.ble_eq_true_of_le (by omega)
  rw [e1, e2]
  simp only [Bool.not_true, Bool.or_self, cond_false]
  congr 1
  apply List.ext_getElem?
  intro i
  rw [putL_get _ _ _ _ (by rw [hlen]; omega)]
  by_cases hi : i < sz
  · rw [if_pos (by omega)]; simp
  · rw [if_neg (by omega), List.getElem?_eq_none (by rw [hlen]; omega), List.getElem?_eq_none (by omega)]
/-- A store of cells that are known to be one each by what is known here. -/
theorem ob_storeK [hK : KC K m0 L] {t e : TypeId} {x y : Operand} {k g : Nat} {cs vs : List Value} {v : Value} {n : Nat} (hx : ev us ch pre T x = some (.pointer (some ((⟨g, 0, none⟩ : Addr).add k)))) (hy : ev us ch pre T y = some v)
    (hv : v.cells = vs.toArray) (hz : ∀ w, (sizeOf t).run P w = .ok n w) (hn : Nat.beq vs.length n = true) (hl : Nat.ble (k + n) cs.length = true) (h1 : ∀ w m, K w m → vs.all (·.oneCell') = true) :
    ObT P K us ch pre T (fun _ => .blk (.pointer (some ⟨g, 0, none⟩)) (.cells cs.toArray e)) (fun _ => .blk (.pointer (some ⟨g, 0, none⟩)) (.cells (cs.take k ++ vs ++ cs.drop (k + vs.length)).toArray e)) ⟨none, .store t x y, ty, pos, af, gd⟩ (.ex MP.any) := fun σ w m hk hr hkn =>
  ob_store hx hy hv hz hn hl (h1 w m hk) σ w m hk hr hkn
theorem ob_storeK' [hK : KC K m0 L] {t e : TypeId} {x y : Operand} {g : Nat} {cs vs : List Value} {v : Value} {n : Nat} (hx : ev us ch pre T x = some (.pointer (some ⟨g, 0, none⟩))) (hy : ev us ch pre T y = some v)
    (hv : v.cells = vs.toArray) (hz : ∀ w, (sizeOf t).run P w = .ok n w) (hn : Nat.beq vs.length n = true) (hl : Nat.ble (0 + n) cs.length = true) (h1 : ∀ w m, K w m → vs.all (·.oneCell') = true) :
    ObT P K us ch pre T (fun _ => .blk (.pointer (some ⟨g, 0, none⟩)) (.cells cs.toArray e)) (fun _ => .blk (.pointer (some ⟨g, 0, none⟩)) (.cells (cs.take 0 ++ vs ++ cs.drop (0 + vs.length)).toArray e)) ⟨none, .store t x y, ty, pos, af, gd⟩ (.ex MP.any) :=
  ob_storeK (k := 0) hx hy hv hz hn hl h1
/-- A load of all the cells of a block. -/
theorem ob_loadLA [hK : KC K m0 L] {t e : TypeId} {x : Operand} {n j g : Nat} {cs : List Value} {fz : Nat × Nat} (hx : ev us ch pre T x = some (.pointer (some ⟨g, 0, none⟩)))
    (hL : L[j]? = some (.blk (.pointer (some ⟨g, 0, none⟩)) (.cells cs.toArray e fz))) (ha : ∀ w, (isAgg t).run P w = .ok true w) (hz : ∀ w, (sizeOf t).run P w = .ok n w) (hn' : Nat.beq cs.length n = true) :
    Ob P K us ch pre T ⟨dst, .load t x, ty, pos, af, gd⟩ (.eq (.agg cs.toArray)) := ob_loadLS' hx hL ha hz (by rw [Nat.beq_eq] at hn'; rw [← hn', List.take_length]) (by rw [Nat.beq_eq] at hn'; exact hn')
theorem ob_storeKF [hK : KC K m0 L] {t e : TypeId} {p : Nat} {y : Operand} {g : Nat} {cs vs : List Value} {v : Value} {n : Nat} (hst : stTmp (.store t (.tmp p) y) = some p) (hf : (find pre p).isSome = true) (hx : evT us ch pre T p = some (.pointer (some ⟨g, 0, none⟩))) (hy : ev us ch pre T y = some v)
    (hv : v.cells = vs.toArray) (hz : ∀ w, (sizeOf t).run P w = .ok n w) (hn : Nat.beq vs.length n = true) (hl : Nat.ble (0 + n) cs.length = true) (h1 : ∀ w m, K w m → vs.all (·.oneCell') = true) :
    ObT P K us ch pre T (fun σ => .blk (σ p) (.cells cs.toArray e)) (fun x => .blk x (.cells (cs.take 0 ++ vs ++ cs.drop (0 + vs.length)).toArray e)) ⟨none, .store t (.tmp p) y, ty, pos, af, gd⟩ (.ex MP.any) := fun σ w m hk hr hkn =>
  ob_storeF hst hf hx hy hv hz hn hl (h1 w m hk) σ w m hk hr hkn
end
end Go.Proofs.Ytfphefkfbhjfdaa
