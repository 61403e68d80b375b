/-
  Maps of the snapshot whose values are things of many cells; loops over maps. Conditions: those of each lemma; no program occurs here.
-/
import Derived.Test.YtfphefkfbhjfdaaMapx
namespace Go.Proofs.Ytfphefkfbhjfdaa
set_option linter.all false
open Go.RowKit Go.MapKept
/-- Entries, and the keys and things that they stand for. -/
inductive EntsR {κ α : Type} (R : Mem → List Value → α → Prop) (m : Mem) : List (κ × Value) → List (κ × α) → Prop where
  | nil : EntsR R m [] []
  | cons {k : κ} {x : α} {vs : List Value} {es : List (κ × Value)} {l : List (κ × α)} (h : R m vs x) (hs : EntsR R m es l) : EntsR R m ((k, .agg vs.toArray) :: es) ((k, x) :: l)
section
variable {κ α : Type} {R : Mem → List Value → α → Prop} {ek : κ → Value} {m m' : Mem} {es : List (κ × Value)} {l : List (κ × α)}
theorem EntsR.mono [hR : RepR R] (h : EntsR R m es l) (hm : MLe m m') : EntsR R m' es l := by
  induction h with
  | nil => exact .nil
  | cons h _ ih => exact .cons (hR.mono hm h) ih
theorem EntsR.look [DecidableEq κ] (h : EntsR R m es l) (k : κ) : (∃ vs x, alook k es = some (.agg vs.toArray) ∧ alook k l = some x ∧ R m vs x) ∨ (alook k es = none ∧ alook k l = none) := by
  induction h with
  | nil => exact .inr ⟨rfl, rfl⟩
  | @cons k' x vs es l h _ ih =>
    by_cases e : k = k'
    · exact .inl ⟨vs, x, by simp [alook, e], by simp [alook, e], h⟩
    · simpa [alook, e] using ih
theorem EntsR.set [DecidableEq κ] (h : EntsR R m es l) (k : κ) {vs : List Value} {x : α} (hx : R m vs x) : EntsR R m (aset k (.agg vs.toArray) es) (aset k x l) := by
  induction h with
  | nil => exact .cons hx .nil
  | @cons k' y us es l h hs ih =>
    by_cases e : k = k'
    · simp only [aset, e, if_true]; exact .cons hx hs
    · simp only [aset, e, if_false]; exact .cons h ih
theorem EntsR.len (h : EntsR R m es l) : es.length = l.length := by
  induction h with
  | nil => rfl
  | cons _ _ ih => simp [ih]
/-- A map's entries as they lie there; of no map there are none. -/
def RangeV (m : Mem) : Option Nat → List (Value × Value) → Prop
  | none, rest => rest = []
  | some g, rest => ∃ ents clock, m.mp g = some (ents, clock) ∧ Stamps ents clock ∧ entriesOf ents = rest
theorem RangeV.mono {o : Option Nat} {rest : List (Value × Value)} (h : RangeV m o rest) (hm : MLe m m') : RangeV m' o rest := by
  cases o with
  | none => exact h
  | some g => obtain ⟨e, c, h1, h2⟩ := h; exact ⟨e, c, hm.map _ _ h1, h2⟩
/-- A map, or none, that is written no more. -/
def MapO (ek : κ → Value) (R : Mem → List Value → α → Prop) (m : Mem) (o : Option Nat) (l : List (κ × α)) : Prop := ∃ es : List (κ × Value), RangeV m o (encs ek es) ∧ EntsR R m es l
theorem MapO.mono [hR : RepR R] {o : Option Nat} (h : MapO ek R m o l) (hm : MLe m m') : MapO ek R m' o l := by obtain ⟨es, h1, h2⟩ := h; exact ⟨es, h1.mono hm, h2.mono hm⟩
theorem MapO.nil : MapO ek R m none ([] : List (κ × α)) := ⟨[], rfl, .nil⟩
theorem MapO.of_at {g : Nat} (h : MapAt ek m g es) (hs : EntsR R m es l) : MapO ek R m (some g) l := by obtain ⟨e, c, h1, h2, h3⟩ := h; exact ⟨es, ⟨e, c, h1, h3, h2⟩, hs⟩
theorem MapO.none_nil (h : MapO ek R m none l) : l = [] := by
  obtain ⟨es, h1, h2⟩ := h
  cases es with
  | nil => cases h2; rfl
  | cons e es => cases h1
theorem MapO.at_ {g : Nat} (h : MapO ek R m (some g) l) : ∃ es, MapAt ek m g es ∧ EntsR R m es l := by obtain ⟨es, ⟨e, c, h1, h2, h3⟩, hs⟩ := h; exact ⟨es, ⟨e, c, h1, h3, h2⟩, hs⟩
/-- What a look into a map gives. -/
def LookV [DecidableEq κ] (ek : κ → Value) (m : Mem) (o : Option Nat) (k : κ) (z v : Value) (b : Bool) : Prop :=
  match o with
  | none => v = z ∧ b = false
  | some g => ∃ es : List (κ × Value), MapAt ek m g es ∧ (match alook k es with | some u => (u, true) | none => (z, false)) = (v, b)
theorem LookV.mono [DecidableEq κ] {o : Option Nat} {k : κ} {z v : Value} {b : Bool} (h : LookV ek m o k z v b) (hm : MLe m m') : LookV ek m' o k z v b := by
  cases o with
  | none => exact h
  | some g => obtain ⟨es, h1, h2⟩ := h; exact ⟨es, h1.mono hm, h2⟩
theorem MapO.look [DecidableEq κ] {o : Option Nat} (h : MapO ek R m o l) (k : κ) {zv : List Value} {z : α} (hz : R m zv z) :
    ∃ vs x b, LookV ek m o k (.agg zv.toArray) (.agg vs.toArray) b ∧ b = (alook k l).isSome ∧ x = (alook k l).getD z ∧ R m vs x := by
  cases o with
  | none => obtain rfl := h.none_nil; exact ⟨zv, z, false, ⟨rfl, rfl⟩, rfl, rfl, hz⟩
  | some g =>
    obtain ⟨es, h1, h2⟩ := h.at_
    rcases h2.look k with ⟨vs, x, e1, e2, h3⟩ | ⟨e1, e2⟩
    · exact ⟨vs, x, true, ⟨es, h1, by rw [e1]⟩, by rw [e2]; rfl, by rw [e2]; rfl, h3⟩
    · exact ⟨zv, z, false, ⟨es, h1, by rw [e1]⟩, by rw [e2]; rfl, by rw [e2]; rfl, hz⟩
end
section
variable {P : Program} {K : World → Mem → Prop} {m0 : Mem} {L : List Res} {us : List Nat} {ch : List (Nat × Bool)} {pre : List Ent} {T : List (Nat × Value)}
variable {dst : Option Nat} {ty : TypeId} {pos : String} {af : Array Edge} {gd : Option (Nat × Bool)}
theorem ob_lookupO [hK : KC K m0 L] {κ : Type} [DecidableEq κ] {enc : κ → Value} {d : TypeDesc} {t kt et : TypeId} {x y : Operand} {k : κ} {o : Option Nat} {z v : Value} {b : Bool} (hKe : Keys d enc) (hx : ev us ch pre T x = some (.map o)) (hy : ev us ch pre T y = some (enc k))
    (hM : ∀ w m, K w m → LookV enc m o k z v b) (hm : P.underlying t = some (.map kt et)) (hd : P.underlying kt = some d) (hz : ∀ w, (zeroValue et).run P w = .ok z w) :
    Ob P K us ch pre T ⟨dst, .lookup t x y true, ty, pos, af, gd⟩ (.eq (.tuple #[v, .bool b])) := by
  cases o with
  | none =>
    refine ob_val fun σ w m hk hn => ?_
    obtain ⟨rfl, rfl⟩ := hM w m hk
    have hf : Instr.findNow d (enc k) [] 0 = some none := rfl
    simp [execOp, hn.ev hx, hn.ev hy, Instr.lookup, run_underlying hm, Result.andThen, run_checkKey hd (hKe.key k), run_findKey hd hf, hz]
  | some g =>
    refine ob_val fun σ w m hk hn => ?_
    obtain ⟨es, hA, hv⟩ := hM w m hk
    obtain ⟨ents, clock, hh0, he, -⟩ := hA
    have hh := (hK.agree hk).map g _ hh0
    have hf := findNow_enc hKe k ents.toList es 0 he
    have hget : (getObj g).run P w = .ok (.map ents clock) w := by simp [getObj, Sem.run, hh]
    rw [alook_aidx k es 0] at hv
    cases ha : aidx k es 0 with
    | none =>
      rw [ha] at hf hv
      simp only [Option.map_none, Prod.mk.injEq] at hv
      obtain ⟨rfl, rfl⟩ := hv
      simp [execOp, hn.ev hx, hn.ev hy, Instr.lookup, run_underlying hm, Result.andThen, hget, run_checkKey hd (hKe.key k), run_findKey hd hf, hz]
    | some q =>
      rw [ha] at hf hv
      simp only [Option.map_some, Prod.mk.injEq] at hv
      obtain ⟨rfl, rfl⟩ := hv
      simp [execOp, hn.ev hx, hn.ev hy, Instr.lookup, run_underlying hm, Result.andThen, hget, run_checkKey hd (hKe.key k), run_findKey hd hf]
theorem run_eqIn_mapnil (w : World) (d : Nat) (t k e : TypeId) (p : Option Nat) (h : P.underlying t = some (.map k e)) : (Op.equalIn (d + 1) t (.map p) (.map none)).run P w = .ok p.isNone w := by
  cases p <;> simp [Op.equalIn, run_underlying h]
theorem run_eql_mapnil (w : World) (t k e : TypeId) (p : Option Nat) (h : P.underlying t = some (.map k e)) : (binOp .eql t (.map p) (.map none)).run P w = .ok (.bool p.isNone) w := by
  simp only [binOp]
  simp [show Op.equal t (.map p) (.map none) = Op.equalIn (9999 + 1) t (.map p) (.map none) from rfl, run_eqIn_mapnil w 9999 t k e p h]
/-- A map held against nil. -/
theorem ob_mapnil [KC K m0 L] {t k e yt : TypeId} {x : Operand} {o : Option Nat} (hx : ev us ch pre T x = some (.map o)) (ht : P.underlying t = some (.map k e)) :
    Ob P K us ch pre T ⟨dst, .binOp .eql t x (.const (.map none)) yt, ty, pos, af, gd⟩ (.eq (.bool o.isNone)) := ob_bin hx (y := .const (.map none)) rfl fun w => by
  rw [Sem.run_bind, show (eqGuard .eql t x (.const (.map none)) (.map o) (.map none)).run P w = .ok () w from by simp [eqGuard]]
  exact run_eql_mapnil w t k e o ht
open Classical in
/-- A list without one of its members. -/
noncomputable def eraseV (e : Value × Value) : List (Value × Value) → List (Value × Value)
  | [] => []
  | x :: l => if x = e then l else x :: eraseV e l
theorem perm_eraseV {e : Value × Value} : ∀ {l : List (Value × Value)}, e ∈ l → l.Perm (e :: eraseV e l)
  | x :: l, h => by
    unfold eraseV
    split
    · rename_i hx; subst hx; exact .refl _
    · rename_i hx
      have h' : e ∈ l := by rcases List.mem_cons.1 h with h | h; (exact absurd h.symm hx); exact h
      exact ((perm_eraseV h').cons x).trans (.swap e x _)
/-- What 'next' hands out. -/
def nextV : Option (Value × Value) → Value
  | none => .tuple #[.bool false]
  | some e => .tuple #[.bool true, e.1, e.2]
noncomputable def nextRes (p : Value) (rest : List (Value × Value)) : Value → Res
  | .tuple vs => match vs.toList with
    | [_, k, x] => .iter p (eraseV (k, x) rest) (some (k, x))
    | _ => .iter p rest none
  | _ => .iter p rest none
def MP.next (rest : List (Value × Value)) : MP := MP.mem nextV (fun y _ => match y with | none => rest = [] | some e => e ∈ rest) fun _ h => h
theorem ob_range [hK : KC K m0 L] {d : Nat} {t kt et : TypeId} {x : Operand} {o : Option Nat} {rest : List (Value × Value)} (hx : ev us ch pre T x = some (.map o)) (hm : P.underlying t = some (.map kt et)) (hR : ∀ w m, K w m → RangeV m o rest) :
    ObT P K us ch pre T (fun _ => .free) (fun v => .iter v rest none) ⟨some d, .range t x, ty, pos, af, gd⟩ (.ex MP.ptr) := fun σ w m hk _ hn => by
  have ha := hK.agree hk
  have hr := hR w m hk
  have key : ∀ b s c, (∀ off, m w.heap.size off = none) → m.mp w.heap.size = none →
      ((∃ bm ents clock, b = some bm ∧ m.mp bm = some (ents, clock) ∧ Stamps ents clock ∧ s = clock ∧ c = clock ∧ entriesOf ents = rest) ∨ (b = none ∧ rest = [])) →
      Touch .free (.iter (.pointer (some ⟨w.heap.size, 0, none⟩)) rest none) w m (w.alloc (.mapIter b s #[] c)) m := fun b s c h1 h2 h3 => by
    refine ⟨(ext_alloc ha _).mono (by simp), ⟨w.heap.size, s, #[], c, rfl, h1, h2, ?_⟩, by simp [Res.blocks, ptrBlock], by simp [Res.blocks, ptrBlock]⟩
    rcases h3 with ⟨bm, ents, clock, rfl, hb, hs, rfl, rfl, he⟩ | ⟨rfl, he⟩
    · refine .inl ⟨bm, ents, _, heap_alloc_new w _, hb, hs, hs.1, Nat.le_refl _, Nat.le_refl _, ?_, fun _ e => by cases e⟩
      rw [← he]
      have : leftOf ents #[] = ents := by unfold leftOf; rw [Array.filter_eq_self]; intro a _; simp
      rw [this]; exact .refl _
    · exact .inr ⟨heap_alloc_new w _, he, rfl⟩
  cases o with
  | none =>
    have hrun : (execOp (evalO σ) ⟨some d, .range t x, ty, pos, af, gd⟩).run P w = .ok (.value (.pointer (some ⟨w.heap.size, 0, none⟩))) (w.alloc (.mapIter none 0 #[] 0)) := by
      simp only [execOp, hn.ev hx]; rw [Sem.run_bind, run_range_nilMap w t kt et hm]; rfl
    unfold Does; rw [hrun]
    exact ⟨m, key _ _ _ (fun off => agree_none ha (Nat.le_refl _) off) (agree_noneM ha (Nat.le_refl _)) (.inr ⟨rfl, hr⟩), _, rfl, trivial⟩
  | some g =>
    obtain ⟨ents, clock, h1, h2, h3⟩ := hr
    have hrun : (execOp (evalO σ) ⟨some d, .range t x, ty, pos, af, gd⟩).run P w = .ok (.value (.pointer (some ⟨w.heap.size, 0, none⟩))) (w.alloc (.mapIter (some g) clock #[] clock)) := by
      simp only [execOp, hn.ev hx]; rw [Sem.run_bind, run_range_map w t kt et g ents clock hm (ha.map g _ h1)]; rfl
    unfold Does; rw [hrun]
    exact ⟨m, key _ _ _ (fun off => agree_none ha (Nat.le_refl _) off) (agree_noneM ha (Nat.le_refl _)) (.inl ⟨g, ents, clock, rfl, h1, h2, rfl, rfl, h3⟩), _, rfl, trivial⟩
theorem left_push {e : MapEntry} {ents : Array MapEntry} {seen : Array Nat} (hn : (ents.toList.map (·.born)).Nodup) (he : e ∈ (leftOf ents seen).toList) :
    ((leftOf ents seen).toList.map fun e => (e.key, e.val)).Perm ((e.key, e.val) :: ((leftOf ents (seen.push e.born)).toList.map fun e => (e.key, e.val))) := by
  have hA : ((leftOf ents seen).toList.map (·.born)).Nodup := by
    unfold leftOf; rw [Array.toList_filter]
    exact List.Nodup.sublist (List.Sublist.map _ List.filter_sublist) hn
  have hB : (leftOf ents (seen.push e.born)).toList = (leftOf ents seen).toList.filter fun x => !(x.born == e.born) := by
    unfold leftOf; rw [Array.toList_filter, Array.toList_filter, List.filter_filter]
    congr 1; funext x
    simp only [Array.contains_push, Bool.not_or]
    rw [Bool.and_comm]
  rw [hB]
  generalize (leftOf ents seen).toList = A at hA he
  induction A with
  | nil => cases he
  | cons x A ih =>
    simp only [List.map_cons, List.nodup_cons] at hA
    rcases List.mem_cons.1 he with rfl | h
    · have : (A.filter fun x => !(x.born == e.born)) = A := List.filter_eq_self.2 fun y hy => by
        simp only [Bool.not_eq_true', beq_eq_false_iff_ne, ne_eq]
        exact fun eq => hA.1 (List.mem_map.2 ⟨y, hy, eq⟩)
      simp [this]
    · have hne : (x.born == e.born) = false := by
        simp only [beq_eq_false_iff_ne, ne_eq]
        exact fun eq => hA.1 (List.mem_map.2 ⟨e, h, eq.symm⟩)
      simp only [List.map_cons, List.filter_cons, hne, Bool.not_false, if_true]
      exact ((ih hA.2 h).cons _).trans (.swap _ _ _)
theorem heap_setIf {w : World} {r : Nat} {o o' : Obj} (hr : w.heap[r]? = some o) : (w.heap.setIfInBounds r o')[r]? = some o' := by
  rw [Array.getElem?_setIfInBounds_self_of_lt (lt_of_heap hr)]
theorem ob_next [hK : KC K m0 L] {d r : Nat} {x : Operand} {rest : List (Value × Value)} {last : Option (Value × Value)} (hx : ev us ch pre T x = some (.pointer (some ⟨r, 0, none⟩))) :
    ObT P K us ch pre T (fun _ => .iter (.pointer (some ⟨r, 0, none⟩)) rest last) (nextRes (.pointer (some ⟨r, 0, none⟩)) rest) ⟨some d, .next x false, ty, pos, af, gd⟩ (.ex (MP.next rest)) := fun σ w m hk hr hn => by
  have ha := hK.agree hk
  have hkp : ∀ v, keepP pre ⟨some d, .next x false, ty, pos, af, gd⟩ σ v = v := fun v => rfl
  obtain ⟨r', since, seen, c0, e1, h1, h2, h⟩ := hr
  injection e1 with e1; injection e1 with e1; injection e1 with e1; subst e1
  rcases h with ⟨bm, ents, clock, hh, hb, hs, hold, hsc, hsl, hp, hl⟩ | ⟨hh, rfl, rfl⟩
  · have hbh := ha.map bm _ hb
    rcases run_next_at (P := P) w ty r bm since c0 seen ents clock hh hbh hold hsc with ⟨h0, hrun⟩ | ⟨e, he, w1, hw1, hrun⟩
    · have hr : (execOp (evalO σ) ⟨some d, .next x false, ty, pos, af, gd⟩).run P w = .ok (.value (.tuple #[.bool false])) w := by
        simp only [execOp, hn.ev hx]; rw [Sem.run_bind, hrun]; rfl
      have h00 : rest = [] := by
        have : (leftOf ents seen).toList = [] := by rw [← List.length_eq_zero_iff, Array.length_toList]; exact h0
        rw [this] at hp; exact hp.eq_nil
      unfold Does; rw [hr]
      exact ⟨m, ⟨ExtG.refl _ ha, ⟨r, since, seen, c0, rfl, h1, h2, .inl ⟨bm, ents, clock, hh, hb, hs, hold, hsc, hsl, hp, fun _ e => by cases e⟩⟩, by simp [hkp, nextRes, Res.blocks, ptrBlock], by simp [hkp, nextRes, Res.blocks, ptrBlock]⟩, none, rfl, h00⟩
    · have hr : (execOp (evalO σ) ⟨some d, .next x false, ty, pos, af, gd⟩).run P w = .ok (.value (.tuple #[.bool true, e.key, e.val])) (Go.ChangeMaps.setBlock w1 r (.mapIter (some bm) since (seen.push e.born) clock)) := by
        simp only [execOp, hn.ev hx]; rw [Sem.run_bind, hrun]; rfl
      have hmem : (e.key, e.val) ∈ rest := hp.mem_iff.2 (List.mem_map.2 ⟨e, he, rfl⟩)
      have hw : w1.os = w.os ∧ w1.tape = w.tape ∧ w1.output = w.output ∧ w1.heap = w.heap := by rcases hw1 with rfl | rfl <;> exact ⟨rfl, rfl, rfl, rfl⟩
      obtain ⟨q1, q2, q3, q4⟩ := hw
      have hoth : ∀ b, b ≠ r → (Go.ChangeMaps.setBlock w1 r (.mapIter (some bm) since (seen.push e.born) clock)).heap[b]? = w.heap[b]? := fun b hb => by
        show (w1.heap.setIfInBounds r _)[b]? = _
        rw [q4, Array.getElem?_setIfInBounds_ne (fun e => hb e.symm)]
      have hmine : (Go.ChangeMaps.setBlock w1 r (.mapIter (some bm) since (seen.push e.born) clock)).heap[r]? = some (.mapIter (some bm) since (seen.push e.born) clock) := by
        show (w1.heap.setIfInBounds r _)[r]? = _
        rw [q4]; exact heap_setIf hh
      have hag : Agree (Go.ChangeMaps.setBlock w1 r (.mapIter (some bm) since (seen.push e.born) clock)) m := ⟨fun b o u hu => by
        have hne : b ≠ r := fun e => by subst e; rw [h1 o] at hu; cases hu
        rw [World.cell?_of_block (hoth b hne)]; exact ha.cell b o u hu, fun b y hy => by
        have hne : b ≠ r := fun e => by subst e; rw [h2] at hy; cases hy
        rw [hoth b hne]; exact ha.map b y hy⟩
      have hec : e ∈ ents.toList := by unfold leftOf at he; simp at he ⊢; exact he.1
      unfold Does; rw [hr]
      refine ⟨m, ⟨⟨q1, q2, q3, ?_, fun b _ hb => hoth b (fun e => hb (by simp [Res.blocks, ptrBlock, e])), hag, MLe.refl _, fun _ _ _ => ⟨rfl, rfl⟩⟩,
        ⟨r, since, seen.push e.born, clock, rfl, h1, h2, .inl ⟨bm, ents, clock, hmine, hb, hs, hold, hsl, hsl, ?_, fun kv e2 => ⟨e, hec, ⟨seen, rfl⟩, by injection e2 with e2; exact e2.symm, rfl⟩⟩⟩, by simp [hkp, nextRes, Res.blocks, ptrBlock], by simp [hkp, nextRes, Res.blocks, ptrBlock]⟩, some (e.key, e.val), rfl, hmem⟩
      · show w.heap.size ≤ (w1.heap.setIfInBounds r _).size
        rw [q4]; simp
      · exact ((perm_eraseV hmem).symm.trans (hp.trans (left_push hs.2 he))).cons_inv
  · have hr : (execOp (evalO σ) ⟨some d, .next x false, ty, pos, af, gd⟩).run P w = .ok (.value (.tuple #[.bool false])) w := by
      simp only [execOp, hn.ev hx, Instr.next, getObj, Sem.run_bind, Sem.run, hh, Result.andThen]; rfl
    unfold Does; rw [hr]
    exact ⟨m, ⟨ExtG.refl _ ha, ⟨r, since, seen, c0, rfl, h1, h2, .inr ⟨hh, rfl, rfl⟩⟩, by simp [hkp, nextRes, Res.blocks, ptrBlock], by simp [hkp, nextRes, Res.blocks, ptrBlock]⟩, none, rfl, rfl⟩
theorem ob_entry [hK : KC K m0 L] {r j : Nat} {x : Operand} {rest : List (Value × Value)} {k v : Value} (hx : ev us ch pre T x = some (.pointer (some ⟨r, 0, none⟩))) (hL : L[j]? = some (.iter (.pointer (some ⟨r, 0, none⟩)) rest (some (k, v)))) :
    Ob P K us ch pre T ⟨dst, .entry x, ty, pos, af, gd⟩ (.eq (.tuple #[k, v])) := ob_val fun σ w m hk hn => by
  obtain ⟨r', since, seen, c0, e1, h1, h2, h⟩ := hK.at_ hk hL
  injection e1 with e1; injection e1 with e1; injection e1 with e1; subst e1
  rcases h with ⟨bm, ents, clock, hh, hb, hs, hold, hsc, hsl, hp, hl⟩ | ⟨hh, -, e⟩
  · obtain ⟨e, he, ⟨s0, rfl⟩, e2, rfl⟩ := hl _ rfl
    injection e2 with e2 e3; subst e2; subst e3
    simp only [execOp, hn.ev hx]
    rw [Sem.run_bind, run_entry_at w r bm since s0 ents _ e hh ((hK.agree hk).map bm _ hb) he hs.2]; rfl
  · cases e
end
/-- What comes next is one of the things that are left. -/
theorem EntsR.next {κ α : Type} {R : Mem → List Value → α → Prop} {ek : κ → Value} {m : Mem} {e : Value × Value} : ∀ {es : List (κ × Value)} {l : List (κ × α)}, EntsR R m es l → e ∈ encs ek es →
    ∃ k x vs es' l', e = (ek k, .agg vs.toArray) ∧ R m vs x ∧ l.Perm ((k, x) :: l') ∧ eraseV e (encs ek es) = encs ek es' ∧ EntsR R m es' l' ∧ l'.length + 1 = l.length
  | _, _, .nil, h => by cases h
  | _, _, .cons (k := k) (x := x) (vs := vs) (es := es) (l := l) hx hs, h => by
    by_cases hc : (ek k, Value.agg vs.toArray) = e
    · exact ⟨k, x, vs, es, l, hc.symm, hx, .refl _, by simp only [encs, List.map_cons]; unfold eraseV; rw [if_pos hc], hs, rfl⟩
    · have h' : e ∈ encs ek es := by
        simp only [encs, List.map_cons] at h
        rcases List.mem_cons.1 h with h | h
        · exact absurd h.symm hc
        · exact h
      obtain ⟨k', x', vs', es', l', e1, h1, h2, h3, h4, h5⟩ := EntsR.next hs h'
      refine ⟨k', x', vs', (k, .agg vs.toArray) :: es', (k, x) :: l', e1, h1, (h2.cons _).trans (.swap _ _ _), ?_, .cons hx h4, by simp [← h5]⟩
      simp only [encs, List.map_cons] at h3 ⊢
      unfold eraseV; rw [if_neg hc, h3]
theorem EntsR.nil_iff {κ α : Type} {R : Mem → List Value → α → Prop} {ek : κ → Value} {m : Mem} {es : List (κ × Value)} {l : List (κ × α)} (h : EntsR R m es l) (he : encs ek es = []) : l = [] := by
  cases h with
  | nil => rfl
  | cons _ _ => cases he
end Go.Proofs.Ytfphefkfbhjfdaa
