/-
  Texts that the law rests on: Mapx, Mapt, Ref1, Shelf, Tyapp, Sort5. Conditions: those of each theorem.
-/
import Derived.Test.YtlidonjpgigocaaGreatSqA
import Derived.Lib.SliceRun
import Derived.Shelf.Sort.Plain
import Derived.Shelf.Slices.Turned
import Derived.Ground.Names2Prog
import Derived.Shelf.Slices.Clone
import Derived.Shelf.Slices.SearchI
import Derived.Shelf.Slices.Delete
import Derived.Shelf.Slices.Cells
import Derived.Shelf.Slices.In.SortNone
import Derived.Shelf.Slices.Empties
import Derived.Shelf.SlGeneric
import Derived.Shelf.Spec.SlicesGrow
import Derived.Shelf.SlMaps.Clone
import Derived.Shelf.SlIterI.Nil
import Derived.Ground.GgzProg
import Derived.Sort.Grow
import Derived.Sort.Walk0
import Derived.Test.YtlidonjpgigocaaGreatRows
import Derived.Test.YtlidonjpgigocaaGreatProg
namespace Go.Proofs.YtlidonjpgigocaaGreat
set_option linter.all false
open Go.RowKit Go.MapKept
def MapAt {κ : Type} (ek : κ → Value) (m : Mem) (g : Nat) (es : List (κ × Value)) : Prop := ∃ ents clock, m.mp g = some (ents, clock) ∧ zAD ents = zBR ek es ∧ Stamps ents clock
theorem MapAt.mono {κ : Type} {ek : κ → Value} {m m' : Mem} {g : Nat} {es : List (κ × Value)} (h : MapAt ek m g es) (hm : MLe m m') : MapAt ek m' g es := by obtain ⟨e, c, h1, h2⟩ := h; exact ⟨e, c, hm.map _ _ h1, h2⟩
def MapR {κ : Type} (ek : κ → Value) (m : Mem) (vs : List Value) (es : List (κ × Value)) : Prop := ∃ g, vs = [.map (some g)] ∧ MapAt ek m g es
instance {κ : Type} (ek : κ → Value) : RepR (MapR ek) := ⟨fun hm h => by obtain ⟨g, e, h1⟩ := h; exact ⟨g, e, h1.mono hm⟩, fun h => by obtain ⟨g, rfl, h1⟩ := h; rfl⟩
theorem MLe.addMap {w : World} {m : Mem} {g : Nat} (x : Array MapEntry × Nat) (hm : m.mp g = none) : MLe m (m.addMap g x) := ⟨fun _ _ _ h => h, fun b es' hb => by
 show (if b = g then some x else m.mp b) = some es'
 split
 ·rename_i e; subst e; rw [hm] at hb; cases hb
 ·exact hb⟩
theorem Agree.addMap {w : World} {m : Mem} {g : Nat} {x : Array MapEntry × Nat} (ha : Agree w m) (hh : w.heap[g]? = some (.map x.1 x.2)) : Agree w (m.addMap g x) := ⟨ha.cell, fun b es' hb => by
 change (if b = g then some x else m.mp b) = some es' at hb
 split at hb
 ·rename_i e; subst e; injection hb with hb; subst hb; exact hh
 ·exact ha.map b es' hb⟩
theorem St.freezeMap {G0 : List Nat} {W : World} {mE : Mem} {L : List Res} {w : World} {m : Mem} {k : Nat} {v : Value} {κ : Type} {ek : κ → Value} {es : List (κ × Value)} (h : St G0 W mE L w m) (hk : L[k]? = some (.map v (zBR ek es))) :
  ∃ m', MLe m m' ∧ St G0 W mE (L.set k .free) w m' ∧ ∃ g, v = .map (some g) ∧ MapAt ek m' g es := by
 obtain ⟨g, ents, clock, rfl, hh, he, hm, hs⟩ := h.loc.at_ hk
 have hle := MLe.addMap (w := w) (g := g) (ents, clock) hm
 refine ⟨m.addMap g (ents, clock), hle, h.touch (r' := .free) hk ⟨⟨rfl, rfl, rfl, Nat.le_refl _, fun _ _ _ => rfl, h.agree.addMap hh, hle, fun b _ hb => ⟨rfl, ?_⟩⟩, trivial, List.nodup_nil, fun g hg => by cases hg⟩, g, rfl, ents, clock, ?_, he, hs⟩
 ·show (if b = g then some (ents, clock) else m.mp b) = m.mp b
  rw [if_neg (fun e => hb (by simp [Res.blocks, mapBlock, e]))]
 ·show (if g = g then some (ents, clock) else m.mp g) = some (ents, clock)
  rw [if_pos rfl]
theorem zEl {w : World} {m : Mem} {ents : Array MapEntry} {clock : Nat} {es : List (Value × Value)} (ha : Agree w m) (he : zAD ents = es) (hs : Stamps ents clock) :
  Touch .free (.map (.map (some w.heap.size)) es) w m (w.alloc (.map ents clock)) m :=
 ⟨(zCo ha _).mono (by simp), ⟨w.heap.size, ents, clock, rfl, heap_alloc_new w _, he, zCg ha (Nat.le_refl _), hs⟩, by simp [Res.blocks, mapBlock], by simp [Res.blocks, mapBlock]⟩
section
variable {P : Program} {K : World → Mem → Prop} {m0 : Mem} {L : List Res} {us : List Nat} {ch : List (Nat × Bool)} {pre : List Ent} {T : List (Nat × Value)}
variable {dst : Option Nat} {ty : TypeId} {pos : String} {af : Array Edge} {gd : Option (Nat × Bool)}
theorem zCI [hK : KC K m0 L] {κ : Type} [DecidableEq κ] {enc : κ → Value} {d : TypeDesc} {t kt et : TypeId} {x y z : Operand} {k : κ} {g : Nat} {v : Value} {es : List (κ × Value)} (hKe : Keys d enc) (hx : ev us ch pre T x = some (.map (some g))) (hy : ev us ch pre T y = some (enc k)) (hz : ev us ch pre T z = some v)
  (hm : P.underlying t = some (.map kt et)) (hd : P.underlying kt = some d) :
  ObT P K us ch pre T (fun _ => .map (.map (some g)) (zBR enc es)) (fun _ => .map (.map (some g)) (zBR enc (zBF k v es))) ⟨none, .mapUpdate t x y z, ty, pos, af, gd⟩ (.ex MP.any) := fun σ w m hk hr hkn => by
 obtain ⟨g', ents, clock, e1, hh, he, hmp, hsp⟩ := hr
 injection e1 with e1; injection e1 with e1; subst e1
 obtain ⟨ents', clock', hrun, he', hsp'⟩ := run_update (P := P) hKe hm hd hh he hsp k v
 have hx' : (execOp (Zj σ) ⟨none, .mapUpdate t x y z, ty, pos, af, gd⟩).run P w = .ok .skip { w with heap := w.heap.setIfInBounds g (.map ents' clock') } := by
  simp only [execOp, hkn.ev hx, hkn.ev hy, hkn.ev hz]
  rw [Sem.run_bind, hrun]; rfl
 unfold Does; rw [hx']
 exact ⟨m, touch_map (hK.agree hk) rfl hh hmp he' hsp', _, rfl, trivial⟩
theorem ob_slnil [KC K m0 L] {t e yt : TypeId} {x : Operand} {o : Option Addr} {n c n' c' : Nat} (hx : ev us ch pre T x = some (.slice o n c)) (ht : P.underlying t = some (.slice e)) :
  Ob P K us ch pre T ⟨dst, .binOp .eql t x (.const (.slice none n' c')) yt, ty, pos, af, gd⟩ (.eq (.bool o.isNone)) := zBS hx (y := .const (.slice none n' c')) rfl fun w => by
 rw [Sem.run_bind, show (eqGuard .eql t x (.const (.slice none n' c')) (.slice o n c) (.slice none n' c')).run P w = .ok () w from by simp [eqGuard]]
 exact Go.Lib.run_eql_slice_nil w t e o n c n' c' ht
end
theorem MP.made_some {n size : Nat} {e : TypeId} {ψ : MP} {w : World} {m : Mem} {o : Option Addr} {c : Nat} (h : (Res.mrowx (.slice o n c) n size e ψ).holds w m) (h0 : 0 < n) : ∃ g, o = some ⟨g, 0, none⟩ := by
 obtain ⟨o', cap, e1, h1, h2, h3⟩ := Res.mrowx_val h
 injection e1 with e1 e2 e3; subst e1
 exact h3 h0
theorem mrowx_nil {α : Type} {R : Mem → List Value → α → Prop} [RepR R] {size : Nat} {e : TypeId} {w : World} {m : Mem} : (Res.mrowx (.slice none 0 0) 0 size e (MP.reads R size [])).holds w m :=
 ⟨[], ⟨by simp, none, 0, rfl, Nat.le_refl _, Nat.zero_le _, .inl rfl⟩, MP.reads_p.2 Reads.nil⟩
theorem Sl.none_nil {α : Type} {R : Mem → List Value → α → Prop} {sz : Nat} {m : Mem} {n cap : Nat} {xs : List α} (h : Sl R sz m none n cap xs) : xs = [] := by
 cases xs with
 | nil => rfl
 | cons x xs => obtain ⟨p, vs, e, -⟩ := h.at_ 0 x rfl; cases e
theorem set_mid {α : Type} : ∀ (d : List α) (l : List α) (x y : α), (d ++ x :: l).set d.length y = (d ++ [y]) ++ l
 | [], l, x, y => rfl
 | a :: d, l, x, y => by simp [set_mid d l x y]
theorem get_mid {α : Type} (d : List α) (l : List α) (x : α) : (d ++ x :: l)[d.length]? = some x := by simp
end Go.Proofs.YtlidonjpgigocaaGreat
namespace Go.Proofs.YtlidonjpgigocaaGreat
set_option linter.all false
open Go.RowKit Go.MapKept
inductive EntsR {κ α : Type} (R : Mem → List Value → α → Prop) (m : Mem) : List (κ × Value) → List (κ × α) → Prop where
 | nil : EntsR R m [] []
 | cons {k : κ} {x : α} {vs : List Value} {es : List (κ × Value)} {l : List (κ × α)} (h : R m vs x) (hs : EntsR R m es l) : EntsR R m ((k, .agg vs.toArray) :: es) ((k, x) :: l)
section
variable {κ α : Type} {R : Mem → List Value → α → Prop} {ek : κ → Value} {m m' : Mem} {es : List (κ × Value)} {l : List (κ × α)}
theorem EntsR.mono [hR : RepR R] (h : EntsR R m es l) (hm : MLe m m') : EntsR R m' es l := by
 induction h with
 | nil => exact .nil
 | cons h _ ih => exact .cons (hR.mono hm h) ih
theorem EntsR.look [DecidableEq κ] (h : EntsR R m es l) (k : κ) : (∃ vs x, zP k es = some (.agg vs.toArray) ∧ zP k l = some x ∧ R m vs x) ∨ (zP k es = none ∧ zP k l = none) := by
 induction h with
 | nil => exact .inr ⟨rfl, rfl⟩
 | @cons k' x vs es l h _ ih =>
  by_cases e : k = k'
  ·exact .inl ⟨vs, x, by simp [zP, e], by simp [zP, e], h⟩
  ·simpa [zP, e] using ih
theorem EntsR.set [DecidableEq κ] (h : EntsR R m es l) (k : κ) {vs : List Value} {x : α} (hx : R m vs x) : EntsR R m (zBF k (.agg vs.toArray) es) (zBF k x l) := by
 induction h with
 | nil => exact .cons hx .nil
 | @cons k' y us es l h hs ih =>
  by_cases e : k = k'
  ·simp only [zBF, e, if_true]; exact .cons hx hs
  ·simp only [zBF, e, if_false]; exact .cons h ih
theorem EntsR.len (h : EntsR R m es l) : es.length = l.length := by
 induction h with
 | nil => rfl
 | cons _ _ ih => simp [ih]
def RangeV (m : Mem) : Option Nat → List (Value × Value) → Prop
 | none, rest => rest = []
 | some g, rest => ∃ ents clock, m.mp g = some (ents, clock) ∧ Stamps ents clock ∧ zAD ents = rest
theorem RangeV.mono {o : Option Nat} {rest : List (Value × Value)} (h : RangeV m o rest) (hm : MLe m m') : RangeV m' o rest := by
 cases o with
 | none => exact h
 | some g => obtain ⟨e, c, h1, h2⟩ := h; exact ⟨e, c, hm.map _ _ h1, h2⟩
def MapO (ek : κ → Value) (R : Mem → List Value → α → Prop) (m : Mem) (o : Option Nat) (l : List (κ × α)) : Prop := ∃ es : List (κ × Value), RangeV m o (zBR ek es) ∧ EntsR R m es l
theorem MapO.mono [hR : RepR R] {o : Option Nat} (h : MapO ek R m o l) (hm : MLe m m') : MapO ek R m' o l := by obtain ⟨es, h1, h2⟩ := h; exact ⟨es, h1.mono hm, h2.mono hm⟩
theorem MapO.nil : MapO ek R m none ([] : List (κ × α)) := ⟨[], rfl, .nil⟩
theorem MapO.of_at {g : Nat} (h : MapAt ek m g es) (hs : EntsR R m es l) : MapO ek R m (some g) l := by obtain ⟨e, c, h1, h2, h3⟩ := h; exact ⟨es, ⟨e, c, h1, h3, h2⟩, hs⟩
theorem MapO.none_nil (h : MapO ek R m none l) : l = [] := by
 obtain ⟨es, h1, h2⟩ := h
 cases es with
 | nil => cases h2; rfl
 | cons e es => cases h1
theorem MapO.at_ {g : Nat} (h : MapO ek R m (some g) l) : ∃ es, MapAt ek m g es ∧ EntsR R m es l := by obtain ⟨es, ⟨e, c, h1, h2, h3⟩, hs⟩ := h; exact ⟨es, ⟨e, c, h1, h3, h2⟩, hs⟩
def LookV [DecidableEq κ] (ek : κ → Value) (m : Mem) (o : Option Nat) (k : κ) (z v : Value) (b : Bool) : Prop :=
 match o with
 | none => v = z ∧ b = false
 | some g => ∃ es : List (κ × Value), MapAt ek m g es ∧ (match zP k es with | some u => (u, true) | none => (z, false)) = (v, b)
theorem LookV.mono [DecidableEq κ] {o : Option Nat} {k : κ} {z v : Value} {b : Bool} (h : LookV ek m o k z v b) (hm : MLe m m') : LookV ek m' o k z v b := by
 cases o with
 | none => exact h
 | some g => obtain ⟨es, h1, h2⟩ := h; exact ⟨es, h1.mono hm, h2⟩
theorem MapO.look [DecidableEq κ] {o : Option Nat} (h : MapO ek R m o l) (k : κ) {zv : List Value} {z : α} (hz : R m zv z) :
  ∃ vs x b, LookV ek m o k (.agg zv.toArray) (.agg vs.toArray) b ∧ b = (zP k l).isSome ∧ x = (zP k l).getD z ∧ R m vs x := by
 cases o with
 | none => obtain rfl := h.none_nil; exact ⟨zv, z, false, ⟨rfl, rfl⟩, rfl, rfl, hz⟩
 | some g =>
  obtain ⟨es, h1, h2⟩ := h.at_
  rcases h2.look k with ⟨vs, x, e1, e2, h3⟩ | ⟨e1, e2⟩
  ·exact ⟨vs, x, true, ⟨es, h1, by rw [e1]⟩, by rw [e2]; rfl, by rw [e2]; rfl, h3⟩
  ·exact ⟨zv, z, false, ⟨es, h1, by rw [e1]⟩, by rw [e2]; rfl, by rw [e2]; rfl, hz⟩
end
section
variable {P : Program} {K : World → Mem → Prop} {m0 : Mem} {L : List Res} {us : List Nat} {ch : List (Nat × Bool)} {pre : List Ent} {T : List (Nat × Value)}
variable {dst : Option Nat} {ty : TypeId} {pos : String} {af : Array Edge} {gd : Option (Nat × Bool)}
theorem zDE [hK : KC K m0 L] {κ : Type} [DecidableEq κ] {enc : κ → Value} {d : TypeDesc} {t kt et : TypeId} {x y : Operand} {k : κ} {o : Option Nat} {z v : Value} {b : Bool} (hKe : Keys d enc) (hx : ev us ch pre T x = some (.map o)) (hy : ev us ch pre T y = some (enc k))
  (hM : ∀ w m, K w m → LookV enc m o k z v b) (hm : P.underlying t = some (.map kt et)) (hd : P.underlying kt = some d) (hz : ∀ w, (zeroValue et).run P w = .ok z w) :
  Ob P K us ch pre T ⟨dst, .lookup t x y true, ty, pos, af, gd⟩ (.eq (.tuple #[v, .bool b])) := by
 cases o with
 | none =>
  refine Z9 fun σ w m hk hn => ?_
  obtain ⟨rfl, rfl⟩ := hM w m hk
  have hf : Instr.findNow d (enc k) [] 0 = some none := rfl
  simp [execOp, hn.ev hx, hn.ev hy, Instr.lookup, run_underlying hm, Result.andThen, run_checkKey hd (hKe.key k), run_findKey hd hf, hz]
 | some g =>
  refine Z9 fun σ w m hk hn => ?_
  obtain ⟨es, hA, hv⟩ := hM w m hk
  obtain ⟨ents, clock, hh0, he, -⟩ := hA
  have hh := (hK.agree hk).map g _ hh0
  have hf := zDV hKe k ents.toList es 0 he
  have hget : (getObj g).run P w = .ok (.map ents clock) w := by simp [getObj, Sem.run, hh]
  rw [zGg k es 0] at hv
  cases ha : zGf k es 0 with
  | none =>
   rw [ha] at hf hv
   simp only [Option.map_none, Prod.mk.injEq] at hv
   obtain ⟨rfl, rfl⟩ := hv
   simp [execOp, hn.ev hx, hn.ev hy, Instr.lookup, run_underlying hm, Result.andThen, hget, run_checkKey hd (hKe.key k), run_findKey hd hf, hz]
  | some q =>
   rw [ha] at hf hv
   simp only [Option.map_some, Prod.mk.injEq] at hv
   obtain ⟨rfl, rfl⟩ := hv
   simp [execOp, hn.ev hx, hn.ev hy, Instr.lookup, run_underlying hm, Result.andThen, hget, run_checkKey hd (hKe.key k), run_findKey hd hf]
theorem zFq (w : World) (d : Nat) (t k e : TypeId) (p : Option Nat) (h : P.underlying t = some (.map k e)) : (Op.equalIn (d + 1) t (.map p) (.map none)).run P w = .ok p.isNone w := by
 cases p <;> simp [Op.equalIn, run_underlying h]
theorem zGl (w : World) (t k e : TypeId) (p : Option Nat) (h : P.underlying t = some (.map k e)) : (binOp .eql t (.map p) (.map none)).run P w = .ok (.bool p.isNone) w := by
 simp only [binOp]
 simp [show Op.equal t (.map p) (.map none) = Op.equalIn (9999 + 1) t (.map p) (.map none) from rfl, zFq w 9999 t k e p h]
theorem zDw [KC K m0 L] {t k e yt : TypeId} {x : Operand} {o : Option Nat} (hx : ev us ch pre T x = some (.map o)) (ht : P.underlying t = some (.map k e)) :
  Ob P K us ch pre T ⟨dst, .binOp .eql t x (.const (.map none)) yt, ty, pos, af, gd⟩ (.eq (.bool o.isNone)) := zBS hx (y := .const (.map none)) rfl fun w => by
 rw [Sem.run_bind, show (eqGuard .eql t x (.const (.map none)) (.map o) (.map none)).run P w = .ok () w from by simp [eqGuard]]
 exact zGl w t k e o ht
open Classical in
noncomputable def zEQ (e : Value × Value) : List (Value × Value) → List (Value × Value)
 | [] => []
 | x :: l => if x = e then l else x :: zEQ e l
theorem zFZ {e : Value × Value} : ∀ {l : List (Value × Value)}, e ∈ l → l.Perm (e :: zEQ e l)
 | x :: l, h => by
  unfold zEQ
  split
  ·rename_i hx; subst hx; exact .refl _
  ·rename_i hx
   have h' : e ∈ l := by rcases List.mem_cons.1 h with h | h; (exact absurd h.symm hx); exact h
   exact ((zFZ h').cons x).trans (.swap e x _)
def nextV : Option (Value × Value) → Value
 | none => .tuple #[.bool false]
 | some e => .tuple #[.bool true, e.1, e.2]
noncomputable def zBE (p : Value) (rest : List (Value × Value)) : Value → Res
 | .tuple vs => match vs.toList with
  | [_, k, x] => .iter p (zEQ (k, x) rest) (some (k, x))
  | _ => .iter p rest none
 | _ => .iter p rest none
def MP.next (rest : List (Value × Value)) : MP := MP.mem nextV (fun y _ => match y with | none => rest = [] | some e => e ∈ rest) fun _ h => h
theorem ob_range [hK : KC K m0 L] {d : Nat} {t kt et : TypeId} {x : Operand} {o : Option Nat} {rest : List (Value × Value)} (hx : ev us ch pre T x = some (.map o)) (hm : P.underlying t = some (.map kt et)) (hR : ∀ w m, K w m → RangeV m o rest) :
  ObT P K us ch pre T (fun _ => .free) (fun v => .iter v rest none) ⟨some d, .range t x, ty, pos, af, gd⟩ (.ex MP.ptr) := fun σ w m hk _ hn => by
 have ha := hK.agree hk
 have hr := hR w m hk
 have key : ∀ b s c, (∀ off, m w.heap.size off = none) → m.mp w.heap.size = none →
   ((∃ bm ents clock, b = some bm ∧ m.mp bm = some (ents, clock) ∧ Stamps ents clock ∧ s = clock ∧ c = clock ∧ zAD ents = rest) ∨ (b = none ∧ rest = [])) →
   Touch .free (.iter (.pointer (some ⟨w.heap.size, 0, none⟩)) rest none) w m (w.alloc (.mapIter b s #[] c)) m := fun b s c h1 h2 h3 => by
  refine ⟨(zCo ha _).mono (by simp), ⟨w.heap.size, s, #[], c, rfl, h1, h2, ?_⟩, by simp [Res.blocks, ZB], by simp [Res.blocks, ZB]⟩
  rcases h3 with ⟨bm, ents, clock, rfl, hb, hs, rfl, rfl, he⟩ | ⟨rfl, he⟩
  ·refine .inl ⟨bm, ents, _, heap_alloc_new w _, hb, hs, hs.1, Nat.le_refl _, Nat.le_refl _, ?_, fun _ e => by cases e⟩
   rw [← he]
   have : leftOf ents #[] = ents := by unfold leftOf; rw [Array.filter_eq_self]; intro a _; simp
   rw [this]; exact .refl _
  ·exact .inr ⟨heap_alloc_new w _, he, rfl⟩
 cases o with
 | none =>
  have hrun : (execOp (Zj σ) ⟨some d, .range t x, ty, pos, af, gd⟩).run P w = .ok (.value (.pointer (some ⟨w.heap.size, 0, none⟩))) (w.alloc (.mapIter none 0 #[] 0)) := by
   simp only [execOp, hn.ev hx]; rw [Sem.run_bind, run_range_nilMap w t kt et hm]; rfl
  unfold Does; rw [hrun]
  exact ⟨m, key _ _ _ (fun off => zDG ha (Nat.le_refl _) off) (zCg ha (Nat.le_refl _)) (.inr ⟨rfl, hr⟩), _, rfl, trivial⟩
 | some g =>
  obtain ⟨ents, clock, h1, h2, h3⟩ := hr
  have hrun : (execOp (Zj σ) ⟨some d, .range t x, ty, pos, af, gd⟩).run P w = .ok (.value (.pointer (some ⟨w.heap.size, 0, none⟩))) (w.alloc (.mapIter (some g) clock #[] clock)) := by
   simp only [execOp, hn.ev hx]; rw [Sem.run_bind, run_range_map w t kt et g ents clock hm (ha.map g _ h1)]; rfl
  unfold Does; rw [hrun]
  exact ⟨m, key _ _ _ (fun off => zDG ha (Nat.le_refl _) off) (zCg ha (Nat.le_refl _)) (.inl ⟨g, ents, clock, rfl, h1, h2, rfl, rfl, h3⟩), _, rfl, trivial⟩
theorem left_push {e : MapEntry} {ents : Array MapEntry} {seen : Array Nat} (hn : (ents.toList.map (·.born)).Nodup) (he : e ∈ (leftOf ents seen).toList) :
  ((leftOf ents seen).toList.map fun e => (e.key, e.val)).Perm ((e.key, e.val) :: ((leftOf ents (seen.push e.born)).toList.map fun e => (e.key, e.val))) := by
 have hA : ((leftOf ents seen).toList.map (·.born)).Nodup := by
  unfold leftOf; rw [Array.toList_filter]
  exact List.Nodup.sublist (List.Sublist.map _ List.filter_sublist) hn
 have hB : (leftOf ents (seen.push e.born)).toList = (leftOf ents seen).toList.filter fun x => !(x.born == e.born) := by
  unfold leftOf; rw [Array.toList_filter, Array.toList_filter, List.filter_filter]
  congr 1; funext x
  simp only [Array.contains_push, Bool.not_or]
  rw [Bool.and_comm]
 rw [hB]
 generalize (leftOf ents seen).toList = A at hA he
 induction A with
 | nil => cases he
 | cons x A ih =>
  simp only [List.map_cons, List.nodup_cons] at hA
  rcases List.mem_cons.1 he with rfl | h
  ·have : (A.filter fun x => !(x.born == e.born)) = A := List.filter_eq_self.2 fun y hy => by
    simp only [Bool.not_eq_true', beq_eq_false_iff_ne, ne_eq]
    exact fun eq => hA.1 (List.mem_map.2 ⟨y, hy, eq⟩)
   simp [this]
  ·have hne : (x.born == e.born) = false := by
    simp only [beq_eq_false_iff_ne, ne_eq]
    exact fun eq => hA.1 (List.mem_map.2 ⟨e, h, eq.symm⟩)
   simp only [List.map_cons, List.filter_cons, hne, Bool.not_false, if_true]
   exact ((ih hA.2 h).cons _).trans (.swap _ _ _)
theorem heap_setIf {w : World} {r : Nat} {o o' : Obj} (hr : w.heap[r]? = some o) : (w.heap.setIfInBounds r o')[r]? = some o' := by
 rw [Array.getElem?_setIfInBounds_self_of_lt (Z2 hr)]
theorem ob_next [hK : KC K m0 L] {d r : Nat} {x : Operand} {rest : List (Value × Value)} {last : Option (Value × Value)} (hx : ev us ch pre T x = some (.pointer (some ⟨r, 0, none⟩))) :
  ObT P K us ch pre T (fun _ => .iter (.pointer (some ⟨r, 0, none⟩)) rest last) (zBE (.pointer (some ⟨r, 0, none⟩)) rest) ⟨some d, .next x false, ty, pos, af, gd⟩ (.ex (MP.next rest)) := fun σ w m hk hr hn => by
 have ha := hK.agree hk
 have hkp : ∀ v, zCF pre ⟨some d, .next x false, ty, pos, af, gd⟩ σ v = v := fun v => rfl
 obtain ⟨r', since, seen, c0, e1, h1, h2, h⟩ := hr
 injection e1 with e1; injection e1 with e1; injection e1 with e1; subst e1
 rcases h with ⟨bm, ents, clock, hh, hb, hs, hold, hsc, hsl, hp, hl⟩ | ⟨hh, rfl, rfl⟩
 ·have hbh := ha.map bm _ hb
  rcases run_next_at (P := P) w ty r bm since c0 seen ents clock hh hbh hold hsc with ⟨h0, hrun⟩ | ⟨e, he, w1, hw1, hrun⟩
  ·have hr : (execOp (Zj σ) ⟨some d, .next x false, ty, pos, af, gd⟩).run P w = .ok (.value (.tuple #[.bool false])) w := by
    simp only [execOp, hn.ev hx]; rw [Sem.run_bind, hrun]; rfl
   have h00 : rest = [] := by
    have : (leftOf ents seen).toList = [] := by rw [← List.length_eq_zero_iff, Array.length_toList]; exact h0
    rw [this] at hp; exact hp.eq_nil
   unfold Does; rw [hr]
   exact ⟨m, ⟨ExtG.refl _ ha, ⟨r, since, seen, c0, rfl, h1, h2, .inl ⟨bm, ents, clock, hh, hb, hs, hold, hsc, hsl, hp, fun _ e => by cases e⟩⟩, by simp [hkp, zBE, Res.blocks, ZB], by simp [hkp, zBE, Res.blocks, ZB]⟩, none, rfl, h00⟩
  ·have hr : (execOp (Zj σ) ⟨some d, .next x false, ty, pos, af, gd⟩).run P w = .ok (.value (.tuple #[.bool true, e.key, e.val])) (Go.ChangeMaps.setBlock w1 r (.mapIter (some bm) since (seen.push e.born) clock)) := by
    simp only [execOp, hn.ev hx]; rw [Sem.run_bind, hrun]; rfl
   have hmem : (e.key, e.val) ∈ rest := hp.mem_iff.2 (List.mem_map.2 ⟨e, he, rfl⟩)
   have hw : w1.os = w.os ∧ w1.tape = w.tape ∧ w1.output = w.output ∧ w1.heap = w.heap := by rcases hw1 with rfl | rfl <;> exact ⟨rfl, rfl, rfl, rfl⟩
   obtain ⟨q1, q2, q3, q4⟩ := hw
   have hoth : ∀ b, b ≠ r → (Go.ChangeMaps.setBlock w1 r (.mapIter (some bm) since (seen.push e.born) clock)).heap[b]? = w.heap[b]? := fun b hb => by
    show (w1.heap.setIfInBounds r _)[b]? = _
    rw [q4, Array.getElem?_setIfInBounds_ne (fun e => hb e.symm)]
   have hmine : (Go.ChangeMaps.setBlock w1 r (.mapIter (some bm) since (seen.push e.born) clock)).heap[r]? = some (.mapIter (some bm) since (seen.push e.born) clock) := by
    show (w1.heap.setIfInBounds r _)[r]? = _
    rw [q4]; exact heap_setIf hh
   have hag : Agree (Go.ChangeMaps.setBlock w1 r (.mapIter (some bm) since (seen.push e.born) clock)) m := ⟨fun b o u hu => by
    have hne : b ≠ r := fun e => by subst e; rw [h1 o] at hu; cases hu
    rw [World.cell?_of_block (hoth b hne)]; exact ha.cell b o u hu, fun b y hy => by
    have hne : b ≠ r := fun e => by subst e; rw [h2] at hy; cases hy
    rw [hoth b hne]; exact ha.map b y hy⟩
   have hec : e ∈ ents.toList := by unfold leftOf at he; simp at he ⊢; exact he.1
   unfold Does; rw [hr]
   refine ⟨m, ⟨⟨q1, q2, q3, ?_, fun b _ hb => hoth b (fun e => hb (by simp [Res.blocks, ZB, e])), hag, MLe.refl _, fun _ _ _ => ⟨rfl, rfl⟩⟩,
    ⟨r, since, seen.push e.born, clock, rfl, h1, h2, .inl ⟨bm, ents, clock, hmine, hb, hs, hold, hsl, hsl, ?_, fun kv e2 => ⟨e, hec, ⟨seen, rfl⟩, by injection e2 with e2; exact e2.symm, rfl⟩⟩⟩, by simp [hkp, zBE, Res.blocks, ZB], by simp [hkp, zBE, Res.blocks, ZB]⟩, some (e.key, e.val), rfl, hmem⟩
   ·show w.heap.size ≤ (w1.heap.setIfInBounds r _).size
    rw [q4]; simp
   ·exact ((zFZ hmem).symm.trans (hp.trans (left_push hs.2 he))).cons_inv
 ·have hr : (execOp (Zj σ) ⟨some d, .next x false, ty, pos, af, gd⟩).run P w = .ok (.value (.tuple #[.bool false])) w := by
   simp only [execOp, hn.ev hx, Instr.next, getObj, Sem.run_bind, Sem.run, hh, Result.andThen]; rfl
  unfold Does; rw [hr]
  exact ⟨m, ⟨ExtG.refl _ ha, ⟨r, since, seen, c0, rfl, h1, h2, .inr ⟨hh, rfl, rfl⟩⟩, by simp [hkp, zBE, Res.blocks, ZB], by simp [hkp, zBE, Res.blocks, ZB]⟩, none, rfl, rfl⟩
theorem ob_entry [hK : KC K m0 L] {r j : Nat} {x : Operand} {rest : List (Value × Value)} {k v : Value} (hx : ev us ch pre T x = some (.pointer (some ⟨r, 0, none⟩))) (hL : L[j]? = some (.iter (.pointer (some ⟨r, 0, none⟩)) rest (some (k, v)))) :
  Ob P K us ch pre T ⟨dst, .entry x, ty, pos, af, gd⟩ (.eq (.tuple #[k, v])) := Z9 fun σ w m hk hn => by
 obtain ⟨r', since, seen, c0, e1, h1, h2, h⟩ := hK.at_ hk hL
 injection e1 with e1; injection e1 with e1; injection e1 with e1; subst e1
 rcases h with ⟨bm, ents, clock, hh, hb, hs, hold, hsc, hsl, hp, hl⟩ | ⟨hh, -, e⟩
 ·obtain ⟨e, he, ⟨s0, rfl⟩, e2, rfl⟩ := hl _ rfl
  injection e2 with e2 e3; subst e2; subst e3
  simp only [execOp, hn.ev hx]
  rw [Sem.run_bind, run_entry_at w r bm since s0 ents _ e hh ((hK.agree hk).map bm _ hb) he hs.2]; rfl
 ·cases e
end
theorem EntsR.next {κ α : Type} {R : Mem → List Value → α → Prop} {ek : κ → Value} {m : Mem} {e : Value × Value} : ∀ {es : List (κ × Value)} {l : List (κ × α)}, EntsR R m es l → e ∈ zBR ek es →
  ∃ k x vs es' l', e = (ek k, .agg vs.toArray) ∧ R m vs x ∧ l.Perm ((k, x) :: l') ∧ zEQ e (zBR ek es) = zBR ek es' ∧ EntsR R m es' l' ∧ l'.length + 1 = l.length
 | _, _, .nil, h => by cases h
 | _, _, .cons (k := k) (x := x) (vs := vs) (es := es) (l := l) hx hs, h => by
  by_cases hc : (ek k, Value.agg vs.toArray) = e
  ·exact ⟨k, x, vs, es, l, hc.symm, hx, .refl _, by simp only [zBR, List.map_cons]; unfold zEQ; rw [if_pos hc], hs, rfl⟩
  ·have h' : e ∈ zBR ek es := by
    simp only [zBR, List.map_cons] at h
    rcases List.mem_cons.1 h with h | h
    ·exact absurd h.symm hc
    ·exact h
   obtain ⟨k', x', vs', es', l', e1, h1, h2, h3, h4, h5⟩ := EntsR.next hs h'
   refine ⟨k', x', vs', (k, .agg vs.toArray) :: es', (k, x) :: l', e1, h1, (h2.cons _).trans (.swap _ _ _), ?_, .cons hx h4, by simp [← h5]⟩
   simp only [zBR, List.map_cons] at h3 ⊢
   unfold zEQ; rw [if_neg hc, h3]
theorem EntsR.nil_iff {κ α : Type} {R : Mem → List Value → α → Prop} {ek : κ → Value} {m : Mem} {es : List (κ × Value)} {l : List (κ × α)} (h : EntsR R m es l) (he : zBR ek es = []) : l = [] := by
 cases h with
 | nil => rfl
 | cons _ _ => cases he
end Go.Proofs.YtlidonjpgigocaaGreat
namespace Go.Proofs.YtlidonjpgigocaaGreat
open Go.Proofs.Tryz
set_option linter.all false
set_option maxRecDepth 4000
open Go.RowKit
theorem mixed : Tryz.prog.follows .mixedOrders = true := by kernel_rfl
def zBO {α : Type} [DecidableEq α] : Nat → List α → α → Int
 | _, [], _ => -1
 | i, x :: l, s => if s = x then (i : Int) else zBO (i + 1) l s
theorem idxA_pos {α : Type} [DecidableEq α] (s : α) : ∀ (l : List α) (i : Nat), decide (0 ≤ zBO i l s) = decide (s ∈ l)
 | [], i => by simp [zBO]
 | x :: l, i => by
  simp only [zBO, List.mem_cons]
  by_cases h : s = x
  ·simp [h]
  ·simp only [h, if_false, false_or]; exact idxA_pos s l (i + 1)
theorem idxA_mem {α : Type} [DecidableEq α] (s : α) (l : List α) (i : Nat) : 0 ≤ zBO i l s ↔ s ∈ l := by
 have h := idxA_pos s l i
 rwa [decide_eq_decide] at h
def zAs {α : Type} (ψ : α → α → Bool) : List α → List α → Bool
 | [], [] => true
 | x :: xs, y :: ys => ψ x y && zAs ψ xs ys
 | [], _ :: _ => false
 | _ :: _, [] => false
theorem zDZ {α : Type} {ψ : α → α → Bool} : ∀ {xs ys : List α}, xs.length ≠ ys.length → zAs ψ xs ys = false
 | [], [], h => absurd rfl h
 | [], _ :: _, _ => rfl
 | _ :: _, [], _ => rfl
 | x :: xs, y :: ys, h => by simp only [zAs]; rw [zDZ (by simpa using h)]; simp
theorem all2_eq {α : Type} [DecidableEq α] : ∀ (xs ys : List α), zAs (fun a b => decide (a = b)) xs ys = decide (xs = ys)
 | [], [] => rfl
 | [], _ :: _ => by simp [zAs]
 | _ :: _, [] => by simp [zAs]
 | x :: xs, y :: ys => by simp [zAs, all2_eq xs ys]
def ZF : List Str → Bool
 | a :: b :: r => !Op.bytesLess b a && ZF (b :: r)
 | _ => true
def ZW (ls : List Str) (rv : Int) : Bool := decide (0 ≤ rv) && ZF ls && !ls.contains []
mutual
def zDB (left : Nat) : Ty → Nat
 | ⟨_, _, _, ts, _, _⟩ => if left = 0 then 1 else zBA (left - 1) ts + 1
def zBA (left : Nat) : List Ty → Nat
 | [] => 0
 | t :: ts => max (zDB left t) (zBA left ts)
end
theorem zFO (left : Nat) (t : Ty) : zDB left t = if left = 0 then 1 else zBA (left - 1) t.args + 1 := by obtain ⟨k, n, v, ts, ls, r⟩ := t; rw [zDB]; rfl
theorem zDI (left : Nat) : ∀ (l : List Ty) (x : Ty), zBA left (l ++ [x]) = max (zBA left l) (zDB left x)
 | [], x => by simp [zBA]
 | t :: ts, x => by simp only [List.cons_append, zBA, zDI left ts x]; omega
mutual
def zBj : Ty → Nat
 | ⟨_, _, _, ts, _, _⟩ => zBk ts + 1
def zBk : List Ty → Nat
 | [] => 0
 | t :: ts => max (zBj t) (zBk ts)
end
theorem zDn (t : Ty) : zBj t = zBk t.args + 1 := by obtain ⟨k, n, v, ts, ls, r⟩ := t; rw [zBj]; rfl
theorem zDW {p : Ty → Prop} (t : Ty) (h : ∀ u ∈ t.args, p u) (q : List Ty → Prop) (h0 : q []) (h1 : ∀ x l, p x → q l → q (x :: l)) : q t.args := by
 have key : ∀ l : List Ty, (∀ u ∈ l, u ∈ t.args) → q l := by
  intro l
  induction l with
  | nil => intro _; exact h0
  | cons x xs ih => intro hl; exact h1 x xs (h x (hl x (.head _))) (ih fun u hu => hl u (.tail _ hu))
 exact key _ fun u hu => hu
theorem zET (t : Ty) (left : Nat) : zDB left t = min (left + 1) (zBj t) := by
 induction t using Ty.rec_ generalizing left with
 | h t ih =>
  rw [zFO, zDn]
  have hk := zDW t ih (fun l => ∀ left, zBA left l = min (left + 1) (zBk l)) (fun left => by simp [zBA, zBk]) (fun x l hx hl left => by
   simp only [zBA, zBk, hx left, hl left]; omega)
  split
  ·omega
  ·rw [hk (left - 1)]; omega
def zFm (k : Int) : Option Nat := if k = 1 ∨ k = 2 ∨ k = 3 ∨ k = 4 then some 0 else if k = 5 then some 2 else if k = 6 then some 1 else none
def rightTB (k : Int) (nm : Str) (v : Int) (n : Nat) (ls : List Str) (rv : Int) (ko : Bool) : Bool :=
 if (k ≠ 5 ∧ ¬ (rv = 0 ∧ ls = [])) ∨ ((nm ≠ []) ≠ (k = 4)) then false
 else if k = 7 then decide (1 ≤ v) && decide (n = 0)
 else match zFm k with
  | some a => decide (v = 0) && decide (n = a) && ZW ls rv && ko
  | none => false
mutual
def zz : Ty → Bool
 | ⟨k, nm, v, ts, ls, rv⟩ => rightTB k nm v ts.length ls rv (zAS ts)
def zAS : List Ty → Bool
 | [] => true
 | t :: ts => zz t && zAS ts
end
theorem rightT_eq (t : Ty) : zz t = rightTB t.kind t.name t.var t.args.length t.labels t.rv (zAS t.args) := by obtain ⟨k, n, v, ts, ls, r⟩ := t; rw [zz]; rfl
theorem rightTs_any : ∀ (l : List Ty), (!l.any fun u => !zz u) = zAS l
 | [] => by simp [zAS]
 | t :: ts => by simp only [List.any_cons, zAS, Bool.not_or, Bool.not_not, rightTs_any ts]
def ZC (l : List Int) (n : Int) : List Int := if l.contains n then l else l ++ [n]
mutual
def zi : Ty → List Int × List Int → List Int × List Int
 | ⟨k, _, v, ts, _, rv⟩, s => Zo k rv 0 ts (if k = 7 then (ZC s.1 v, s.2) else s)
def Zo (k rv : Int) : Nat → List Ty → List Int × List Int → List Int × List Int
 | _, [], s => s
 | i, t :: ts, s => Zo k rv (i + 1) ts (if i = 0 ∧ k = 5 ∧ 0 < rv then ((zi t s).1, ZC (zi t s).2 rv) else zi t s)
end
theorem zBM (t : Ty) (s : List Int × List Int) : zi t s = Zo t.kind t.rv 0 t.args (if t.kind = 7 then (ZC s.1 t.var, s.2) else s) := by obtain ⟨k, n, v, ts, ls, r⟩ := t; rw [zi]; rfl
def zFz (ls : List Str) : Nat := (ls.map fun s => s.length + 2).sum
mutual
def zBe : Ty → Nat
 | ⟨_, nm, _, ts, ls, _⟩ => 1 + nm.length + zFz ls + zBG ts
def zBG : List Ty → Nat
 | [] => 0
 | t :: ts => zBe t + zBG ts
end
theorem zGC (t : Ty) : zBe t = 1 + t.name.length + zFz t.labels + zBG t.args := by obtain ⟨k, n, v, ts, ls, r⟩ := t; rw [zBe]; rfl
theorem bulkTs_mem : ∀ {l : List Ty} {u : Ty}, u ∈ l → zBe u ≤ zBG l
 | t :: ts, u, h => by
  rw [zBG]
  rcases List.mem_cons.1 h with rfl | h
  ·omega
  ·have := bulkTs_mem h; omega
theorem lensS_len (ls : List Str) : ls.length ≤ zFz ls := by
 unfold zFz; induction ls with
 | nil => simp
 | cons x l ih => simp only [List.length_cons, List.map_cons, List.sum_cons]; omega
theorem zCp {l : List Int} {x : Int} (h : x ∈ l) : ZC l x = l := by unfold ZC; rw [if_pos (by simpa using h)]
theorem zCu {l : List Int} {x : Int} (h : ¬ x ∈ l) : ZC l x = l ++ [x] := by unfold ZC; rw [if_neg (by simpa using h)]
theorem zAC (l : List Int) (x : Int) : (ZC l x).length ≤ l.length + 1 := by unfold ZC; split <;> simp
mutual
def ZH : Ty → Nat
 | ⟨_, _, _, ts, _, _⟩ => ZS ts + 1
def ZS : List Ty → Nat
 | [] => 0
 | t :: ts => ZH t + ZS ts
end
theorem Zy (t : Ty) : ZH t = ZS t.args + 1 := by obtain ⟨k, n, v, ts, ls, r⟩ := t; rw [ZH]; rfl
theorem zBX : ∀ {l : List Ty} {u : Ty}, u ∈ l → ZH u ≤ ZS l
 | t :: ts, u, h => by
  rw [ZS]
  rcases List.mem_cons.1 h with rfl | h
  ·omega
  ·have := zBX h; omega
theorem cnt_bulk (t : Ty) : ZH t ≤ zBe t := by
 induction t using Ty.rec_ with
 | h t ih =>
  have hk := zDW t ih (fun l => ZS l ≤ zBG l) (by simp [ZS, zBG]) (fun x l hx hl => by simp only [ZS, zBG]; omega)
  rw [Zy, zGC]; omega
def zBc (s : List Int × List Int) : Nat := s.1.length + s.2.length
theorem Zq (k rv : Int) (i : Nat) (t : Ty) (ts : List Ty) (s : List Int × List Int) : Zo k rv i (t :: ts) s = Zo k rv (i + 1) ts (if i = 0 ∧ k = 5 ∧ 0 < rv then ((zi t s).1, ZC (zi t s).2 rv) else zi t s) := by rw [Zo]
theorem Zu (t : Ty) : ∀ s, zBc (zi t s) ≤ zBc s + 2 * ZH t := by
 induction t using Ty.rec_ with
 | h t ih =>
  intro s
  have key : ∀ (l : List Ty), (∀ u ∈ l, u ∈ t.args) → ∀ (i : Nat) s, zBc (Zo t.kind t.rv i l s) ≤ zBc s + 2 * ZS l + (if i = 0 then 1 else 0) := by
   intro l
   induction l with
   | nil => intro _ i s; rw [Zo]; omega
   | cons x l ihl =>
    intro hl i s
    rw [Zq, ZS]
    have h1 := ih x (hl x (.head _)) s
    have h2 := ihl (fun u hu => hl u (.tail _ hu)) (i + 1) (if i = 0 ∧ t.kind = 5 ∧ 0 < t.rv then ((zi x s).1, ZC (zi x s).2 t.rv) else zi x s)
    rw [if_neg (Nat.succ_ne_zero i)] at h2
    have h3 : zBc (if i = 0 ∧ t.kind = 5 ∧ 0 < t.rv then ((zi x s).1, ZC (zi x s).2 t.rv) else zi x s) ≤ zBc (zi x s) + (if i = 0 then 1 else 0) := by
     have := zAC (zi x s).2 t.rv
     split <;> split <;> simp only [zBc] <;> omega
    omega
  rw [zBM, Zy]
  have h1 := key t.args (fun u hu => hu) 0 (if t.kind = 7 then (ZC s.1 t.var, s.2) else s)
  have h2 : zBc (if t.kind = 7 then (ZC s.1 t.var, s.2) else s) ≤ zBc s + 1 := by
   have := zAC s.1 t.var
   split <;> simp only [zBc] <;> omega
  simp only [if_true] at h1; omega
def zEA (k : Nat) (t : Ty) : Nat := if zBj t ≤ k then zBj t else 201
def zDP (k : Nat) : List Ty → Nat
 | [] => 0
 | t :: ts => max (zEA k t) (zDP k ts)
theorem zEP (k : Nat) : ∀ (l : List Ty) (x : Ty), zDP k (l ++ [x]) = max (zDP k l) (zEA k x)
 | [], x => by simp [zDP]
 | t :: ts, x => by simp only [List.cons_append, zDP, zEP k ts x]; omega
theorem capDs_eq (k : Nat) (hk : k ≤ 200) : ∀ l : List Ty, zDP k l = if zBk l ≤ k then zBk l else 201
 | [] => by simp [zDP, zBk]
 | t :: ts => by
  rw [zDP, zBk, capDs_eq k hk ts]; unfold zEA
  split <;> split <;> split <;> omega
theorem capD_eq {k : Nat} (h0 : 0 < k) (hk : k ≤ 201) (t : Ty) : zEA k t = min 201 (zDP (k - 1) t.args + 1) := by
 rw [capDs_eq (k - 1) (by omega)]; unfold zEA; rw [zDn]
 split <;> split <;> omega
theorem capD_le {k : Nat} (hk : k ≤ 201) (t : Ty) : zEA k t ≤ 201 := by unfold zEA; split <;> omega
def zDQ (ls : List Str) : Bool := ZF ls && !ls.contains []
theorem zGR (ls : List Str) (x : Str) (y : Nat) (h : ls.length = y) : zDQ (ls ++ [x]) = (zDQ ls && !(decide (x = []) || (decide (0 < y) && Op.bytesLess x (ls.getLast?.getD [])))) := by
 unfold zDQ
 have hs : ZF (ls ++ [x]) = (ZF ls && !(decide (0 < y) && Op.bytesLess x (ls.getLast?.getD []))) := by
  subst h
  rcases List.eq_nil_or_concat ls with rfl | ⟨p, a, rfl⟩
  ·simp [ZF]
  ·rw [List.concat_eq_append, List.append_assoc]
   have key : ∀ (p : List Str), ZF (p ++ ([a] ++ [x])) = (ZF (p ++ [a]) && !Op.bytesLess x a) := by
    intro p
    induction p with
    | nil => simp [ZF]
    | cons z p ih =>
     cases p with
     | nil => simp [ZF, Bool.and_assoc]
     | cons z' p => simp only [List.cons_append, ZF] at ih ⊢; rw [ih, Bool.and_assoc]
   rw [key]; simp
 rw [hs]
 have hc : (ls ++ [x]).contains [] = (ls.contains [] || decide (x = [])) := by
  rw [Bool.eq_iff_iff]
  simp only [List.contains_iff_mem, List.mem_append, List.mem_singleton, Bool.or_eq_true, decide_eq_true_eq]
  constructor
  ·rintro (h | h); exact .inl h; exact .inr h.symm
  ·rintro (h | h); exact .inl h; exact .inr h.symm
 rw [hc]
 cases ZF ls <;> cases ls.contains [] <;> cases decide (x = []) <;> simp
theorem zDf : ∀ (l : List Str) (k : Nat), ZF l = true → ZF (l.take k) = true
 | [], k, _ => by simp [ZF]
 | [a], 0, _ => rfl
 | [a], k + 1, _ => by simp [ZF]
 | a :: b :: r, 0, _ => rfl
 | a :: b :: r, 1, _ => by simp [ZF]
 | a :: b :: r, k + 2, h => by
  rw [ZF, Bool.and_eq_true] at h
  have := zDf (b :: r) (k + 1) h.2
  simp only [List.take_succ_cons] at this ⊢
  rw [ZF, h.1, this]; rfl
theorem zFh {ls : List Str} {rv : Int} {k : Nat} (h : zDQ (ls.take k) = false) : ZW ls rv = false := by
 unfold zDQ at h; unfold ZW
 by_cases h1 : ZF ls = true
 ·rw [zDf ls k h1, Bool.true_and] at h
  have h2 : [] ∈ ls.take k := by simpa using h
  have h3 : ls.contains [] = true := by simpa using List.mem_of_mem_take h2
  rw [h3]; simp
 ·rw [Bool.not_eq_true] at h1; rw [h1]; simp
mutual
def zCD : Ty → Ty → Bool
 | ⟨k, s, v, ts, ls, r⟩, ⟨k', s', v', ts', ls', r'⟩ => decide (k = k') && decide (s = s') && decide (v = v') && (decide (r = r') && decide (ls = ls')) && zCC ts ts'
def zCC : List Ty → List Ty → Bool
 | [], [] => true
 | t :: ts, u :: us => zCD t u && zCC ts us
 | [], _ :: _ => false
 | _ :: _, [] => false
end
theorem zDm : ∀ (l l' : List Ty), zAs zCD l l' = zCC l l'
 | [], [] => by simp [zAs, zCC]
 | [], _ :: _ => by simp [zAs, zCC]
 | _ :: _, [] => by simp [zAs, zCC]
 | t :: ts, u :: us => by simp [zAs, zCC, zDm ts us]
theorem zGO (t u : Ty) : zCD t u = (decide (t.kind = u.kind) && decide (t.name = u.name) && decide (t.var = u.var) && (decide (t.rv = u.rv) && decide (t.labels = u.labels)) && zCC t.args u.args) := by
 obtain ⟨k, n, v, ts, ls, r⟩ := t; obtain ⟨k', n', v', ts', ls', r'⟩ := u; rw [zCD]; rfl
theorem zFC (t u : Ty) : zCD t u = true ↔ t = u := by
 induction t using Ty.rec_ generalizing u with
 | h t ih =>
  have hk := zDW t ih (fun l => ∀ l' : List Ty, zCC l l' = true ↔ l = l') (fun l' => by cases l' <;> simp [zCC]) (fun x l hx hl l' => by
   cases l' with
   | nil => simp [zCC]
   | cons y l' => simp [zCC, hx, hl])
  rw [zGO]
  obtain ⟨k, n, v, ts, ls, r⟩ := t; obtain ⟨k', n', v', ts', ls', r'⟩ := u
  simp only [Ty.kind, Ty.name, Ty.var, Ty.args, Ty.labels, Ty.rv] at *
  simp only [hk, Bool.and_eq_true, Ty.mk.injEq, and_assoc]
  exact ⟨fun ⟨a, b, c, d, e, f⟩ => ⟨of_decide_eq_true a, of_decide_eq_true b, of_decide_eq_true c, f, of_decide_eq_true e, of_decide_eq_true d⟩, fun ⟨a, b, c, f, e, d⟩ => ⟨decide_eq_true a, decide_eq_true b, decide_eq_true c, decide_eq_true d, decide_eq_true e, f⟩⟩
def zCm (t : Ty) : Bool := decide ((t.labels.length : Int) = 0) && decide (t.rv = 0)
def hdT (t : Ty) : Bool :=
 if t.kind = 1 ∨ t.kind = 2 ∨ t.kind = 3 then decide ((t.args.length : Int) = 0) && zCm t && decide (t.name = []) && decide (t.var = 0)
 else if t.kind = 4 then decide ((t.args.length : Int) = 0) && zCm t && !decide (t.name = []) && decide (t.var = 0)
 else if t.kind = 7 then decide ((t.args.length : Int) = 0) && zCm t && decide (t.name = []) && decide (1 ≤ t.var)
 else if t.kind = 6 then decide ((t.args.length : Int) = 1) && zCm t && decide (t.name = []) && decide (t.var = 0)
 else if t.kind = 5 then decide ((t.args.length : Int) = 2) && ZW t.labels t.rv && decide (t.name = []) && decide (t.var = 0)
 else false
theorem hdT1 {t : Ty} (h : t.kind = 1 ∨ t.kind = 2 ∨ t.kind = 3) : hdT t = (decide ((t.args.length : Int) = 0) && zCm t && decide (t.name = []) && decide (t.var = 0)) := by unfold hdT; rw [if_pos h]
theorem hdT4 {t : Ty} (h : t.kind = 4) : hdT t = (decide ((t.args.length : Int) = 0) && zCm t && !decide (t.name = []) && decide (t.var = 0)) := by unfold hdT; rw [if_neg (by omega), if_pos h]
theorem hdT7 {t : Ty} (h : t.kind = 7) : hdT t = (decide ((t.args.length : Int) = 0) && zCm t && decide (t.name = []) && decide (1 ≤ t.var)) := by unfold hdT; rw [if_neg (by omega), if_neg (by omega), if_pos h]
theorem hdT6 {t : Ty} (h : t.kind = 6) : hdT t = (decide ((t.args.length : Int) = 1) && zCm t && decide (t.name = []) && decide (t.var = 0)) := by unfold hdT; rw [if_neg (by omega), if_neg (by omega), if_neg (by omega), if_pos h]
theorem hdT5 {t : Ty} (h : t.kind = 5) : hdT t = (decide ((t.args.length : Int) = 2) && ZW t.labels t.rv && decide (t.name = []) && decide (t.var = 0)) := by unfold hdT; rw [if_neg (by omega), if_neg (by omega), if_neg (by omega), if_neg (by omega), if_pos h]
theorem hdT0 {t : Ty} (h : ¬ (t.kind = 1 ∨ t.kind = 2 ∨ t.kind = 3)) (h4 : ¬ t.kind = 4) (h7 : ¬ t.kind = 7) (h6 : ¬ t.kind = 6) (h5 : ¬ t.kind = 5) : hdT t = false := by unfold hdT; rw [if_neg h, if_neg h4, if_neg h7, if_neg h6, if_neg h5]
theorem len0 {α : Type} (l : List α) : decide ((l.length : Int) = 0) = decide (l = []) := by rw [decide_eq_decide]; constructor; (intro h; exact List.eq_nil_of_length_eq_zero (by omega)); (intro h; rw [h]; rfl)
theorem zEO : ZW [] 0 = true := rfl
theorem lenK {α : Type} (l : List α) (k : Nat) : decide ((l.length : Int) = (k : Int)) = decide (l.length = k) := by rw [decide_eq_decide]; omega
theorem zAN (t : Ty) : zz t = (hdT t && zAS t.args) := by
 rw [rightT_eq]; unfold rightTB
 have e2 := lenK t.args 2; have e1 := lenK t.args 1; have e0 := len0 t.args
 have hb : zCm t = (decide (t.labels = []) && decide (t.rv = 0)) := by unfold zCm; rw [len0]
 by_cases h7 : t.kind = 7
 ·rw [hdT7 h7, hb, e0]
  by_cases hc : (t.kind ≠ 5 ∧ ¬ (t.rv = 0 ∧ t.labels = [])) ∨ ((t.name ≠ []) ≠ (t.kind = 4))
  ·rw [if_pos hc]; simp only [h7] at hc; simp at hc ⊢; intro _ a b c d; rcases hc with h | h; exact absurd a (h b); exact absurd c h
  ·rw [if_neg hc, if_pos h7]; simp only [h7] at hc; simp at hc
   obtain ⟨⟨h1, h2⟩, h3⟩ := hc
   rw [h1, h2, h3]
   cases hl : t.args with
   | nil => simp [zAS]
   | cons x l => simp
 ·by_cases h5 : t.kind = 5
  ·rw [hdT5 h5]
   by_cases hc : (t.kind ≠ 5 ∧ ¬ (t.rv = 0 ∧ t.labels = [])) ∨ ((t.name ≠ []) ≠ (t.kind = 4))
   ·rw [if_pos hc]; simp only [h5] at hc; simp at hc ⊢; intro _ _ c; exact absurd c hc
   ·rw [if_neg hc, if_neg h7, show zFm t.kind = some 2 by rw [h5]; rfl]; simp only [h5] at hc; simp at hc
    rw [show decide ((t.args.length : Int) = 2) = decide (t.args.length = 2) from e2, hc]; dsimp only
    cases decide (t.var = 0) <;> cases decide (t.args.length = 2) <;> cases ZW t.labels t.rv <;> simp
  ·by_cases h6 : t.kind = 6
   ·rw [hdT6 h6, hb]
    by_cases hc : (t.kind ≠ 5 ∧ ¬ (t.rv = 0 ∧ t.labels = [])) ∨ ((t.name ≠ []) ≠ (t.kind = 4))
    ·rw [if_pos hc]; simp only [h6] at hc; simp at hc ⊢; intro _ a b c; rcases hc with h | h; exact absurd a (h b); exact absurd c h
    ·rw [if_neg hc, if_neg h7, show zFm t.kind = some 1 by rw [h6]; rfl]; simp only [h6] at hc; simp at hc
     obtain ⟨⟨h1, h2⟩, h3⟩ := hc
     rw [h1, h2, h3, zEO, show decide ((t.args.length : Int) = 1) = decide (t.args.length = 1) from e1]; dsimp only
     cases decide (t.var = 0) <;> cases decide (t.args.length = 1) <;> simp
   ·by_cases h4 : t.kind = 4
    ·rw [hdT4 h4, hb, e0]
     by_cases hc : (t.kind ≠ 5 ∧ ¬ (t.rv = 0 ∧ t.labels = [])) ∨ ((t.name ≠ []) ≠ (t.kind = 4))
     ·rw [if_pos hc]; simp only [h4] at hc; simp at hc ⊢; intro _ a b c; rcases hc with h | h; exact absurd a (h b); exact absurd h c
     ·rw [if_neg hc, if_neg h7, show zFm t.kind = some 0 by rw [h4]; rfl]; simp only [h4] at hc; simp at hc
      obtain ⟨⟨h1, h2⟩, h3⟩ := hc
      rw [h1, h2, zEO]; dsimp only
      cases decide (t.var = 0) <;> cases ht : t.args <;> simp [h3, zAS]
    ·by_cases h1 : t.kind = 1 ∨ t.kind = 2 ∨ t.kind = 3
     ·rw [hdT1 h1, hb, e0]
      by_cases hc : (t.kind ≠ 5 ∧ ¬ (t.rv = 0 ∧ t.labels = [])) ∨ ((t.name ≠ []) ≠ (t.kind = 4))
      ·rw [if_pos hc]; simp only [h4] at hc; simp at hc ⊢; intro _ a b c; rcases hc with h | h; exact absurd a (h.2 b); exact absurd c h
      ·rw [if_neg hc, if_neg h7, show zFm t.kind = some 0 by unfold zFm; rw [if_pos (by omega)]]; simp only [h4] at hc; simp at hc
       obtain ⟨h12, h3⟩ := hc; obtain ⟨h1, h2⟩ := h12 h5
       rw [h1, h2, h3, zEO]; dsimp only
       cases decide (t.var = 0) <;> cases ht : t.args <;> simp [zAS]
     ·rw [hdT0 h1 h4 h7 h6 h5, show zFm t.kind = none by unfold zFm; rw [if_neg (by omega), if_neg h5, if_neg h6]]
      simp [h7]
set_option maxHeartbeats 400000 in
theorem zES {w : World} {m : Mem} {a : Rw} {vs_a : List Value} {b : Rw} {vs_b : List Value} (hA : Agree w m) (h_a : RwR m a vs_a) (h_b : RwR m b vs_b) : FnV Tryz.prog 20 #[.agg vs_a.toArray, .agg vs_b.toArray] w m (fun _ _ v => v = .bool (decide (a.var = b.var) && decide (a.labels = b.labels))) := by
 obtain ⟨o_a, c_a, rfl, hs_a, hr_a⟩ := h_a.open_
 have hbs_a := hs_a.big; have hcs_a := hs_a.cap
 obtain ⟨o_b, c_b, rfl, hs_b, hr_b⟩ := h_b.open_
 have hbs_b := hs_b.big; have hcs_b := hs_b.cap
 refine zY (vs := [_, _]) func20 rfl rfl rfl fun a0 hfr0 => ?_
 have hst0 := zX hA (zw [] _ w m)
 have hM : MLe m m := MLe.refl m
 have hae := all2_eq a.labels b.labels
 refine zE fun _ hK1 => ?_
 refine rp0 hst0 hfr0 (.cons rfl (ZA rfl rfl) <| .cons rfl (ZA rfl rfl) <| .cons rfl (zH rfl) <| .nil) fun a1 w1 m1 hst1 hle1 hk1 => ?_
 have hfr1 := hk1.fr (.nil)
 obtain ⟨g2, e2, hc2⟩ := hk1.ex 2 rfl
 replace hfr1 := hfr1.cons e2
 obtain ⟨g3, e3, hc3⟩ := hk1.ex 3 rfl
 replace hfr1 := hfr1.cons e3
 replace hs_a := hs_a.mono hle1
 replace hs_b := hs_b.mono hle1
 clear hst0 hfr0 hk1
 refine hK1 _ _ ?_
 refine zE fun _ hK4 => ?_
 refine zE fun _ hK5 => ?_
 refine rp0 hst1 hfr1 (.cons rfl (zF (off := 1) rfl underlying43 rfl rfl sizeOf3 rfl) <| .cons rfl (zK rfl hc2 isAgg3 rfl) <| .cons rfl (zF (off := 1) rfl underlying43 rfl rfl sizeOf3 rfl) <| .cons rfl (zK rfl hc3 isAgg3 rfl) <| .cons rfl (Z6 rfl rfl) <| .cons rfl (zG rfl) <| .cons rfl (zF (off := 0) rfl underlying43 rfl rfl sizeOf41 rfl) <| .cons rfl (zK rfl hc2 isAgg41 rfl) <| .cons rfl (zt rfl underlying41) <| .cons rfl (zF (off := 0) rfl underlying43 rfl rfl sizeOf41 rfl) <| .cons rfl (zK rfl hc3 isAgg41 rfl) <| .cons rfl (zt rfl underlying41) <| .cons rfl (Z6 rfl rfl) <| .cons rfl (zAq rfl rfl rfl) <| .nil) fun a2 w2 m2 hst2 hle2 hk2 => ?_
 have hfr2 := hk2.fr (.o 2 <| .o 3 <| .n 19 <| .nil)
 replace hs_a := hs_a.mono hle2
 replace hs_b := hs_b.mono hle2
 replace hc2 := hc2.mono hle2
 replace hc3 := hc3.mono hle2
 clear hst1 hfr1 hk2
 refine hK5 _ _ ?_
 refine zJ hfr2 rfl rfl (fun hb19 => ?_) (fun hb19 => ?_)
 ·try simp only [nqs] at hb19
  have hr : (decide (a.var = b.var) && decide (a.labels = b.labels)) = false := by rcases hb19 with h | h; (rw [decide_eq_false h]; rfl); (rw [← hae, zDZ (by omega), Bool.and_false])
  refine zE fun _ hK6 => ?_
  refine rp0 hst2 hfr2 (.cons rfl (zH rfl) <| .nil) fun a3 w3 m3 hst3 hle3 hk3 => ?_
  have hfr3 := hk3.fr (.n 4 <| .nil)
  clear hst2 hfr2 hk3
  refine hK6 _ _ ?_
  refine zU ?_
  repeat (with_reducible first | refine zL ?_ | refine zI ?_)
  exact zV hst3 hfr3 rfl (.tmp rfl <| .nil) (by rw [hr]; rfl)
 ·try simp only [nqs] at hb19
  have hv : a.var = b.var := by omega
  have hln : a.labels.length = b.labels.length := by omega
  refine zR ?_
  refine hK4 _ _ ?_
  refine zE fun _ hK8 => ?_
  refine zE fun _ hK9 => ?_
  refine rp0 hst2 hfr2 (.cons rfl (zH rfl) <| .nil) fun a3 w3 m3 hst3 hle3 hk3 => ?_
  have hfr3 := hk3.fr (.o 2 <| .o 3 <| .n 5 <| .nil)
  clear hst2 hfr2 hk3
  refine hK9 _ _ ?_
  refine zT ?_
  refine z6 (T := [(2, _), (3, _)]) (fun (y : Nat) => ([(5, .int .i64 (y : Int))] : List (Nat × Value))) (fun _ => _) (fun (y : Nat) m => (y ≤ a.labels.length) ∧ (zAs (fun a b => decide (a = b)) a.labels b.labels = zAs (fun a b => decide (a = b)) (a.labels.drop y) (b.labels.drop y))) (fun y => a.labels.length - y) (0) ⟨hst3, MLe.refl _, hfr3.sub (.c <| .c <| .c <| .nil), ⟨Nat.zero_le _, rfl⟩⟩ fun y a4 w4 m4 hh4 => ?_
  have hst4 := hh4.st; have hle4 := hh4.le; have hfr4 := hh4.fr; have hrel := hh4.rel; clear hh4
  clear hst3 hfr3
  obtain ⟨hyn, hrem⟩ := hrel
  have hlh4 := hle4
  refine zE fun _ hK11 => ?_
  refine zE fun _ hK12 => ?_
  have zq1 := hle3.trans hle4
  replace hc2 := hc2.mono zq1
  refine rp0 hst4 hfr4 (.cons rfl (zG rfl) <| .cons rfl (zF (off := 0) rfl underlying43 rfl rfl sizeOf41 rfl) <| .cons rfl (zK rfl hc2 isAgg41 rfl) <| .cons rfl (zt rfl underlying41) <| .cons rfl (ZG rfl rfl) <| .nil) fun a5 w5 m5 hst5 hle5 hk5 => ?_
  have hfr5 := hk5.fr (.o 5 <| .o 2 <| .o 3 <| .n 24 <| .nil)
  clear hst4 hfr4 hk5
  refine hK12 _ _ ?_
  refine zJ hfr5 rfl rfl (fun hb24 => ?_) (fun hb24 => ?_)
  ·try simp only [nqs] at hb24
   refine zR ?_
   refine hK11 _ _ ?_
   refine zE fun _ hK13 => ?_
   refine zT ?_
   refine zE fun _ hK14 => ?_
   have zq2 := zq1.trans hle5
   replace hs_a := hs_a.mono zq2
   obtain ⟨p15, vs15, x15, ho15, hd15, hm_x15, ht15, hcv15, hl15, hv15⟩ := hs_a.nth (k := y) (by omega)
   cases ho15
   subst hv15
   try rw [hd15] at hrem
   try simp only [zAs] at hrem
   replace hs_b := hs_b.mono zq2
   obtain ⟨p16, vs16, x16, ho16, hd16, hm_x16, ht16, hcv16, hl16, hv16⟩ := hs_b.nth (k := y) (by omega)
   cases ho16
   subst hv16
   try rw [hd16] at hrem
   try simp only [zAs] at hrem
   replace hc3 := hc3.mono zq2
   replace hc2 := hc2.mono hle5
   refine Zf (fun _ => mixed) hst5 hfr5 (by kernel_rfl) (by kernel_rfl) (.cons rfl (zF (off := 0) rfl underlying43 rfl rfl sizeOf41 rfl) <| .cons rfl (zK rfl hc2 isAgg41 rfl) <| .cons rfl (zG rfl) <| .cons rfl (zN (k := y) rfl rfl underlying41 sizeOf9 rfl (by omega)) <| .cons rfl (zr rfl hcv15 isAgg9 rfl) <| .cons rfl (zF (off := 0) rfl underlying43 rfl rfl sizeOf41 rfl) <| .cons rfl (zK rfl hc3 isAgg41 rfl) <| .cons rfl (zG rfl) <| .cons rfl (zN (k := y) rfl rfl underlying41 sizeOf9 rfl (by omega)) <| .cons rfl (zr rfl hcv16 isAgg9 rfl) <| .cons rfl (zEe rfl rfl) <| .nil) fun a6 w6 m6 hst6 hle6 hk6 => ?_
   have hfr6 := hk6.fr (.o 5 <| .o 2 <| .o 3 <| .n 37 <| .nil)
   clear hst5 hfr5 hk6
   refine hK14 _ _ ?_
   refine zJ hfr6 rfl rfl (fun hb37 => ?_) (fun hb37 => ?_)
   ·try simp only [nqs] at hb37
    refine zE fun _ hK17 => ?_
    refine rp0 hst6 hfr6 (.cons rfl (zH rfl) <| .nil) fun a7 w7 m7 hst7 hle7 hk7 => ?_
    have hfr7 := hk7.fr (.o 5 <| .n 4 <| .nil)
    clear hst6 hfr6 hk7
    refine hK17 _ _ ?_
    refine zU ?_
    repeat (with_reducible first | refine zL ?_ | refine zI ?_)
    exact zV hst7 hfr7 rfl (.tmp rfl <| .nil) (by refine congrArg Value.bool ?_; rw [← hae, hrem, hv]; simp_all)
   ·try simp only [nqs] at hb37
    refine zR ?_
    refine hK13 _ _ ?_
    refine rp0 hst6 hfr6 (.cons rfl (zG rfl) <| .cons rfl (zy rfl rfl ⟨by omega, by omega⟩) <| .cons rfl (zH rfl) <| .nil) fun a7 w7 m7 hst7 hle7 hk7 => ?_
    have hfr7 := hk7.fr (.o 2 <| .o 3 <| .n 5 <| .nil)
    clear hst6 hfr6 hk7
    have zq3 := hle6.trans hle7
    have zq4 := hle5.trans zq3
    have hlh7 := hlh4.trans zq4
    exact ⟨y + 1, m7, by show a.labels.length - (y + 1) < a.labels.length - y; omega, ⟨hst7, hlh7, hfr7.sub (.c <| .c <| .c <| .nil), ⟨by show y + 1 ≤ a.labels.length; omega, by simp_all⟩⟩⟩
  ·try simp only [nqs] at hb24
   have hge : y = a.labels.length := by omega
   rw [List.drop_of_length_le (by omega), List.drop_of_length_le (by omega)] at hrem
   simp only [zAs] at hrem
   refine z7 ?_
   refine hK8 _ _ ?_
   refine zE fun _ hK19 => ?_
   refine rp0 hst5 hfr5 (.cons rfl (zH rfl) <| .nil) fun a6 w6 m6 hst6 hle6 hk6 => ?_
   have hfr6 := hk6.fr (.o 5 <| .n 4 <| .nil)
   clear hst5 hfr5 hk6
   refine hK19 _ _ ?_
   refine zU ?_
   repeat (with_reducible first | refine zL ?_ | refine zI ?_)
   exact zV hst6 hfr6 rfl (.tmp rfl <| .nil) (by refine congrArg Value.bool ?_; rw [← hae, hrem, hv]; simp_all)
abbrev sameR_G (t : Ty) : Prop := ∀ {w : World} {m : Mem} {vs_t : List Value} {u : Ty} {vs_u : List Value} (hA : Agree w m) (h_t : TyR m t vs_t) (h_u : TyR m u vs_u), FnV Tryz.prog 16 #[.agg vs_t.toArray, .agg vs_u.toArray] w m (fun _ _ v => v = .bool (zCD t u))
set_option maxHeartbeats 400000 in
theorem sameR_s {t : Ty} (ih : ∀ u ∈ t.args, sameR_G u) {w : World} {m : Mem} {vs_t : List Value} {u : Ty} {vs_u : List Value} (hA : Agree w m) (h_t : TyR m t vs_t) (h_u : TyR m u vs_u) : FnV Tryz.prog 16 #[.agg vs_t.toArray, .agg vs_u.toArray] w m (fun _ _ v => v = .bool (zCD t u)) := by
 obtain ⟨o_t, c_t, oL_t, cL_t, rfl, hk_t, hs_t, hi_t, hj_t, hr_t⟩ := h_t.open_
 have hbg_t := hk_t.big; have hcp_t := hk_t.cap; have hbs_t := hs_t.big; have hcs_t := hs_t.cap
 have hrw_t : RwR _ ⟨t.labels, t.rv⟩ _ := ⟨_, _, rfl, hs_t, hr_t⟩
 obtain ⟨o_u, c_u, oL_u, cL_u, rfl, hk_u, hs_u, hi_u, hj_u, hr_u⟩ := h_u.open_
 have hbg_u := hk_u.big; have hcp_u := hk_u.cap; have hbs_u := hs_u.big; have hcs_u := hs_u.cap
 have hrw_u : RwR _ ⟨u.labels, u.rv⟩ _ := ⟨_, _, rfl, hs_u, hr_u⟩
 refine zY (vs := [_, _]) func16 rfl rfl rfl fun a0 hfr0 => ?_
 have hst0 := zX hA (zw [] _ w m)
 have hM : MLe m m := MLe.refl m
 have hse := zGO t u
 rw [← zDm] at hse
 refine zE fun _ hK1 => ?_
 refine rp0 hst0 hfr0 (.cons rfl (ZA rfl rfl) <| .cons rfl (ZA rfl rfl) <| .cons rfl (zH rfl) <| .nil) fun a1 w1 m1 hst1 hle1 hk1 => ?_
 have hfr1 := hk1.fr (.nil)
 obtain ⟨g2, e2, hc2⟩ := hk1.ex 2 rfl
 replace hfr1 := hfr1.cons e2
 obtain ⟨g3, e3, hc3⟩ := hk1.ex 3 rfl
 replace hfr1 := hfr1.cons e3
 replace h_t := h_t.mono hle1
 replace hk_t := hk_t.mono hle1
 replace hs_t := hs_t.mono hle1
 replace hrw_t := hrw_t.mono hle1
 replace h_u := h_u.mono hle1
 replace hk_u := hk_u.mono hle1
 replace hs_u := hs_u.mono hle1
 replace hrw_u := hrw_u.mono hle1
 clear hst0 hfr0 hk1
 refine hK1 _ _ ?_
 refine zE fun _ hK4 => ?_
 refine rp0 hst1 hfr1 (.cons rfl (zF (off := 4) rfl underlying45 rfl rfl sizeOf43 rfl) <| .cons rfl (Zs rfl hc2 isAgg43 sizeOf43 rfl rfl) <| .cons rfl (zF (off := 4) rfl underlying45 rfl rfl sizeOf43 rfl) <| .cons rfl (Zs rfl hc3 isAgg43 sizeOf43 rfl rfl) <| .cons rfl (zp rfl (.cons rfl <| .cons rfl <| .nil) call20 (fun w m hK => by have hle_ := KC.le hK; have hA := KC.agree hK; have hrw_t := hrw_t.mono hle_; have hrw_u := hrw_u.mono hle_; exact zES (a := ⟨t.labels, t.rv⟩) (b := ⟨u.labels, u.rv⟩) hA hrw_t hrw_u)) <| .cons rfl (zH rfl) <| .nil) fun a2 w2 m2 hst2 hle2 hk2 => ?_
 have hfr2 := hk2.fr (.o 2 <| .o 3 <| .n 5 <| .nil)
 replace h_t := h_t.mono hle2
 replace hk_t := hk_t.mono hle2
 replace hs_t := hs_t.mono hle2
 replace hrw_t := hrw_t.mono hle2
 replace h_u := h_u.mono hle2
 replace hk_u := hk_u.mono hle2
 replace hs_u := hs_u.mono hle2
 replace hrw_u := hrw_u.mono hle2
 replace hc2 := hc2.mono hle2
 replace hc3 := hc3.mono hle2
 clear hst1 hfr1 hk2
 refine hK4 _ _ ?_
 refine zE fun _ hK5 => ?_
 refine zE fun _ hK6 => ?_
 refine rp0 hst2 hfr2 (.cons rfl (zF (off := 0) rfl underlying45 rfl rfl sizeOf3 rfl) <| .cons rfl (zK rfl hc2 isAgg3 rfl) <| .cons rfl (zF (off := 0) rfl underlying45 rfl rfl sizeOf3 rfl) <| .cons rfl (zK rfl hc3 isAgg3 rfl) <| .cons rfl (Z6 rfl rfl) <| .cons rfl (zG rfl) <| .cons rfl (zF (off := 1) rfl underlying45 rfl rfl sizeOf9 rfl) <| .cons rfl (zK rfl hc2 isAgg9 rfl) <| .cons rfl (zF (off := 1) rfl underlying45 rfl rfl sizeOf9 rfl) <| .cons rfl (zK rfl hc3 isAgg9 rfl) <| .cons rfl (zEe rfl rfl) <| .cons rfl (zAq rfl rfl rfl) <| .cons rfl (zG rfl) <| .cons rfl (zF (off := 2) rfl underlying45 rfl rfl sizeOf3 rfl) <| .cons rfl (zK rfl hc2 isAgg3 rfl) <| .cons rfl (zF (off := 2) rfl underlying45 rfl rfl sizeOf3 rfl) <| .cons rfl (zK rfl hc3 isAgg3 rfl) <| .cons rfl (Z6 rfl rfl) <| .cons rfl (zAq rfl rfl rfl) <| .cons rfl (zG rfl) <| .cons rfl (zF (off := 3) rfl underlying45 rfl rfl sizeOf33 rfl) <| .cons rfl (zK rfl hc2 isAgg33 rfl) <| .cons rfl (zt rfl underlying33) <| .cons rfl (zF (off := 3) rfl underlying45 rfl rfl sizeOf33 rfl) <| .cons rfl (zK rfl hc3 isAgg33 rfl) <| .cons rfl (zt rfl underlying33) <| .cons rfl (Z6 rfl rfl) <| .cons rfl (zAq rfl rfl rfl) <| .cons rfl (zG rfl) <| .cons rfl (zG rfl) <| .cons rfl (zBJ rfl) <| .cons rfl (zAq rfl rfl rfl) <| .nil) fun a3 w3 m3 hst3 hle3 hk3 => ?_
 have hfr3 := hk3.fr (.o 2 <| .o 3 <| .n 44 <| .nil)
 replace h_t := h_t.mono hle3
 replace hk_t := hk_t.mono hle3
 replace hs_t := hs_t.mono hle3
 replace hrw_t := hrw_t.mono hle3
 replace h_u := h_u.mono hle3
 replace hk_u := hk_u.mono hle3
 replace hs_u := hs_u.mono hle3
 replace hrw_u := hrw_u.mono hle3
 replace hc2 := hc2.mono hle3
 replace hc3 := hc3.mono hle3
 clear hst2 hfr2 hk3
 refine hK6 _ _ ?_
 refine zJ hfr3 rfl rfl (fun hb44 => ?_) (fun hb44 => ?_)
 ·try simp only [nqs] at hb44
  have hr : zCD t u = false := by
   rw [hse]
   by_cases h1 : t.args.length = u.args.length
   ·simp_all; intro e1 e2 e3 e4 e5; rcases hb44 with ((h | h) | h) | h | h <;> exact absurd (by assumption) h
   ·rw [zDZ h1, Bool.and_false]
  refine zE fun _ hK7 => ?_
  refine rp0 hst3 hfr3 (.cons rfl (zH rfl) <| .nil) fun a4 w4 m4 hst4 hle4 hk4 => ?_
  have hfr4 := hk4.fr (.n 4 <| .nil)
  clear hst3 hfr3 hk4
  refine hK7 _ _ ?_
  refine zU ?_
  repeat (with_reducible first | refine zL ?_ | refine zI ?_)
  exact zV hst4 hfr4 rfl (.tmp rfl <| .nil) (by rw [hr]; rfl)
 ·try simp only [nqs] at hb44
  have hln : t.args.length = u.args.length := by omega
  have hh : zCD t u = zAs zCD t.args u.args := by rw [hse]; simp_all
  refine zR ?_
  refine hK5 _ _ ?_
  refine zE fun _ hK9 => ?_
  refine zE fun _ hK10 => ?_
  refine rp0 hst3 hfr3 (.cons rfl (zH rfl) <| .nil) fun a4 w4 m4 hst4 hle4 hk4 => ?_
  have hfr4 := hk4.fr (.o 2 <| .o 3 <| .n 6 <| .nil)
  clear hst3 hfr3 hk4
  refine hK10 _ _ ?_
  refine zT ?_
  refine z6 (T := [(2, _), (3, _)]) (fun (y : Nat) => ([(6, .int .i64 (y : Int))] : List (Nat × Value))) (fun _ => _) (fun (y : Nat) m => (y ≤ t.args.length) ∧ (zAs zCD t.args u.args = zAs zCD (t.args.drop y) (u.args.drop y))) (fun y => t.args.length - y) (0) ⟨hst4, MLe.refl _, hfr4.sub (.c <| .c <| .c <| .nil), ⟨Nat.zero_le _, rfl⟩⟩ fun y a5 w5 m5 hh5 => ?_
  have hst5 := hh5.st; have hle5 := hh5.le; have hfr5 := hh5.fr; have hrel := hh5.rel; clear hh5
  clear hst4 hfr4
  obtain ⟨hyn, hrem⟩ := hrel
  have hlh5 := hle5
  refine zE fun _ hK12 => ?_
  refine zE fun _ hK13 => ?_
  have zq1 := hle4.trans hle5
  replace hc2 := hc2.mono zq1
  refine rp0 hst5 hfr5 (.cons rfl (zG rfl) <| .cons rfl (zF (off := 3) rfl underlying45 rfl rfl sizeOf33 rfl) <| .cons rfl (zK rfl hc2 isAgg33 rfl) <| .cons rfl (zt rfl underlying33) <| .cons rfl (ZG rfl rfl) <| .nil) fun a6 w6 m6 hst6 hle6 hk6 => ?_
  have hfr6 := hk6.fr (.o 6 <| .o 2 <| .o 3 <| .n 49 <| .nil)
  clear hst5 hfr5 hk6
  refine hK13 _ _ ?_
  refine zJ hfr6 rfl rfl (fun hb49 => ?_) (fun hb49 => ?_)
  ·try simp only [nqs] at hb49
   refine zR ?_
   refine hK12 _ _ ?_
   refine zE fun _ hK14 => ?_
   refine zT ?_
   refine zE fun _ hK15 => ?_
   have zq2 := zq1.trans hle6
   replace hk_t := hk_t.mono zq2
   obtain ⟨p16, vs16, x16, ho16, hd16, hm_x16, ht16, hcv16, hl16, hv16⟩ := hk_t.nth (k := y) (by omega)
   cases ho16
   obtain ⟨o16, c16, oL16, cL16, rfl, hkd16, hs16, hi16, hj16, hr16⟩ := hv16.open_
   have hbg16 := hkd16.big; have hcp16 := hkd16.cap; have hbs16 := hs16.big; have hcs16 := hs16.cap
   have hrw16 : RwR _ ⟨x16.labels, x16.rv⟩ _ := ⟨_, _, rfl, hs16, hr16⟩
   try rw [hd16] at hrem
   try simp only [zAs] at hrem
   replace hk_u := hk_u.mono zq2
   obtain ⟨p17, vs17, x17, ho17, hd17, hm_x17, ht17, hcv17, hl17, hv17⟩ := hk_u.nth (k := y) (by omega)
   cases ho17
   obtain ⟨o17, c17, oL17, cL17, rfl, hkd17, hs17, hi17, hj17, hr17⟩ := hv17.open_
   have hbg17 := hkd17.big; have hcp17 := hkd17.cap; have hbs17 := hs17.big; have hcs17 := hs17.cap
   have hrw17 : RwR _ ⟨x17.labels, x17.rv⟩ _ := ⟨_, _, rfl, hs17, hr17⟩
   try rw [hd17] at hrem
   try simp only [zAs] at hrem
   replace h_t := h_t.mono zq2
   replace hs_t := hs_t.mono zq2
   replace hrw_t := hrw_t.mono zq2
   replace h_u := h_u.mono zq2
   replace hs_u := hs_u.mono zq2
   replace hrw_u := hrw_u.mono zq2
   replace hc3 := hc3.mono zq2
   replace hc2 := hc2.mono hle6
   refine Zf (fun _ => mixed) hst6 hfr6 (by kernel_rfl) (by kernel_rfl) (.cons rfl (zF (off := 3) rfl underlying45 rfl rfl sizeOf33 rfl) <| .cons rfl (zK rfl hc2 isAgg33 rfl) <| .cons rfl (zG rfl) <| .cons rfl (zN (k := y) rfl rfl underlying33 sizeOf45 rfl (by omega)) <| .cons rfl (zS rfl hcv16 isAgg45 sizeOf45 rfl rfl) <| .cons rfl (zF (off := 3) rfl underlying45 rfl rfl sizeOf33 rfl) <| .cons rfl (zK rfl hc3 isAgg33 rfl) <| .cons rfl (zG rfl) <| .cons rfl (zN (k := y) rfl rfl underlying33 sizeOf45 rfl (by omega)) <| .cons rfl (zS rfl hcv17 isAgg45 sizeOf45 rfl rfl) <| .cons rfl (zp rfl (.cons rfl <| .cons rfl <| .nil) call16 (fun w m hK => by have hle_ := KC.le hK; have hA := KC.agree hK; have h_t := h_t.mono hle_; have hk_t := hk_t.mono hle_; have hs_t := hs_t.mono hle_; have hrw_t := hrw_t.mono hle_; have h_u := h_u.mono hle_; have hk_u := hk_u.mono hle_; have hs_u := hs_u.mono hle_; have hrw_u := hrw_u.mono hle_; have hc2 := hc2.mono hle_; have hc3 := hc3.mono hle_; have hcv16 := hcv16.mono hle_; have hv16 := hv16.mono hle_; have hkd16 := hkd16.mono hle_; have hs16 := hs16.mono hle_; have hrw16 := hrw16.mono hle_; have hcv17 := hcv17.mono hle_; have hv17 := hv17.mono hle_; have hkd17 := hkd17.mono hle_; have hs17 := hs17.mono hle_; have hrw17 := hrw17.mono hle_; exact ih _ (by assumption) hA (by assumption) (by assumption))) <| .cons rfl (zH rfl) <| .nil) fun a7 w7 m7 hst7 hle7 hk7 => ?_
   have hfr7 := hk7.fr (.o 6 <| .o 2 <| .o 3 <| .n 7 <| .nil)
   clear hst6 hfr6 hk7
   refine hK15 _ _ ?_
   refine zE fun _ hK18 => ?_
   refine rp0 hst7 hfr7 (.cons rfl (zG rfl) <| .cons rfl (zBJ rfl) <| .nil) fun a8 w8 m8 hst8 hle8 hk8 => ?_
   have hfr8 := hk8.fr (.o 6 <| .o 2 <| .o 3 <| .n 64 <| .nil)
   clear hst7 hfr7 hk8
   refine hK18 _ _ ?_
   refine zJ hfr8 rfl rfl (fun hb64 => ?_) (fun hb64 => ?_)
   ·try simp only [nqs] at hb64
    refine zE fun _ hK19 => ?_
    refine rp0 hst8 hfr8 (.cons rfl (zH rfl) <| .nil) fun a9 w9 m9 hst9 hle9 hk9 => ?_
    have hfr9 := hk9.fr (.o 6 <| .n 4 <| .nil)
    clear hst8 hfr8 hk9
    refine hK19 _ _ ?_
    refine zU ?_
    repeat (with_reducible first | refine zL ?_ | refine zI ?_)
    exact zV hst9 hfr9 rfl (.tmp rfl <| .nil) (by refine congrArg Value.bool ?_; rw [hh, hrem]; try simp_all)
   ·try simp only [nqs] at hb64
    refine zR ?_
    refine hK14 _ _ ?_
    refine rp0 hst8 hfr8 (.cons rfl (zG rfl) <| .cons rfl (zy rfl rfl ⟨by omega, by omega⟩) <| .cons rfl (zH rfl) <| .nil) fun a9 w9 m9 hst9 hle9 hk9 => ?_
    have hfr9 := hk9.fr (.o 2 <| .o 3 <| .n 6 <| .nil)
    clear hst8 hfr8 hk9
    have zq3 := hle8.trans hle9
    have zq4 := hle7.trans zq3
    have zq5 := hle6.trans zq4
    have hlh9 := hlh5.trans zq5
    exact ⟨y + 1, m9, by show t.args.length - (y + 1) < t.args.length - y; omega, ⟨hst9, hlh9, hfr9.sub (.c <| .c <| .c <| .nil), ⟨by show y + 1 ≤ t.args.length; omega, by simp_all⟩⟩⟩
  ·try simp only [nqs] at hb49
   have hge : y = t.args.length := by omega
   rw [List.drop_of_length_le (by omega), List.drop_of_length_le (by omega)] at hrem
   simp only [zAs] at hrem
   refine z7 ?_
   refine hK9 _ _ ?_
   refine zE fun _ hK21 => ?_
   refine rp0 hst6 hfr6 (.cons rfl (zH rfl) <| .nil) fun a7 w7 m7 hst7 hle7 hk7 => ?_
   have hfr7 := hk7.fr (.o 6 <| .n 4 <| .nil)
   clear hst6 hfr6 hk7
   refine hK21 _ _ ?_
   refine zU ?_
   repeat (with_reducible first | refine zL ?_ | refine zI ?_)
   exact zV hst7 hfr7 rfl (.tmp rfl <| .nil) (by refine congrArg Value.bool ?_; rw [hh, hrem]; try simp_all)
theorem sameR_c (t : Ty) : sameR_G t := Ty.rec_ (p := sameR_G) (fun t ih => sameR_s ih) t
abbrev deepR_G (t : Ty) : Prop := ∀ {w : World} {m : Mem} {vs_t : List Value} {left : Nat} (hA : Agree w m) (h_t : TyR m t vs_t) (hl : left ≤ 201), FnV Tryz.prog 37 #[.agg vs_t.toArray, .int .i64 (left : Int)] w m (fun _ _ v => v = .int .i64 (zEA left t : Nat))
set_option maxHeartbeats 400000 in
theorem deepR_s {t : Ty} (ih : ∀ u ∈ t.args, deepR_G u) {w : World} {m : Mem} {vs_t : List Value} {left : Nat} (hA : Agree w m) (h_t : TyR m t vs_t) (hl : left ≤ 201) : FnV Tryz.prog 37 #[.agg vs_t.toArray, .int .i64 (left : Int)] w m (fun _ _ v => v = .int .i64 (zEA left t : Nat)) := by
 obtain ⟨o_t, c_t, oL_t, cL_t, rfl, hk_t, hs_t, hi_t, hj_t, hr_t⟩ := h_t.open_
 have hbg_t := hk_t.big; have hcp_t := hk_t.cap; have hbs_t := hs_t.big; have hcs_t := hs_t.cap
 have hrw_t : RwR _ ⟨t.labels, t.rv⟩ _ := ⟨_, _, rfl, hs_t, hr_t⟩
 refine zY (vs := [_, _]) func37 rfl rfl rfl fun a0 hfr0 => ?_
 have hst0 := zX hA (zw [] _ w m)
 have hM : MLe m m := MLe.refl m
 refine zE fun _ hK1 => ?_
 refine rp0 hst0 hfr0 (.cons rfl (ZA rfl rfl) <| .cons rfl (zH rfl) <| .nil) fun a1 w1 m1 hst1 hle1 hk1 => ?_
 have hfr1 := hk1.fr (.o 1 <| .nil)
 obtain ⟨g2, e2, hc2⟩ := hk1.ex 2 rfl
 replace hfr1 := hfr1.cons e2
 replace h_t := h_t.mono hle1
 replace hk_t := hk_t.mono hle1
 replace hs_t := hs_t.mono hle1
 replace hrw_t := hrw_t.mono hle1
 clear hst0 hfr0 hk1
 refine hK1 _ _ ?_
 refine zE fun _ hK3 => ?_
 refine zE fun _ hK4 => ?_
 refine rp0 hst1 hfr1 (.cons rfl (zG rfl) <| .cons rfl (zq rfl rfl) <| .nil) fun a2 w2 m2 hst2 hle2 hk2 => ?_
 have hfr2 := hk2.fr (.o 1 <| .o 2 <| .n 9 <| .nil)
 replace h_t := h_t.mono hle2
 replace hk_t := hk_t.mono hle2
 replace hs_t := hs_t.mono hle2
 replace hrw_t := hrw_t.mono hle2
 replace hc2 := hc2.mono hle2
 clear hst1 hfr1 hk2
 refine hK4 _ _ ?_
 refine zJ hfr2 rfl rfl (fun hb9 => ?_) (fun hb9 => ?_)
 ·try simp only [nqs] at hb9
  refine zE fun _ hK5 => ?_
  refine rp0 hst2 hfr2 (.cons rfl (zH rfl) <| .nil) fun a3 w3 m3 hst3 hle3 hk3 => ?_
  have hfr3 := hk3.fr (.n 4 <| .nil)
  clear hst2 hfr2 hk3
  refine hK5 _ _ ?_
  refine zU ?_
  repeat (with_reducible first | refine zL ?_ | refine zI ?_)
  exact zV hst3 hfr3 rfl (.tmp rfl <| .nil) (by refine congrArg (Value.int _) ?_; unfold zEA; have := zDn t; rw [if_neg (by omega)]; omega)
 ·try simp only [nqs] at hb9
  refine zR ?_
  refine hK3 _ _ ?_
  refine zE fun _ hK7 => ?_
  refine rp0 hst2 hfr2 (.cons rfl (zH rfl) <| .nil) fun a3 w3 m3 hst3 hle3 hk3 => ?_
  have hfr3 := hk3.fr (.o 1 <| .o 2 <| .n 5 <| .nil)
  clear hst2 hfr2 hk3
  refine hK7 _ _ ?_
  refine zE fun _ hK8 => ?_
  refine zE fun _ hK9 => ?_
  refine rp0 hst3 hfr3 (.cons rfl (zH rfl) <| .nil) fun a4 w4 m4 hst4 hle4 hk4 => ?_
  have hfr4 := hk4.fr (.o 1 <| .o 2 <| .o 5 <| .n 6 <| .nil)
  clear hst3 hfr3 hk4
  refine hK9 _ _ ?_
  refine zT ?_
  refine z6 (T := [(1, _), (2, _)]) (fun (y : Nat × Int) => ([(5, .int .i64 y.2), (6, .int .i64 (y.1 : Int))] : List (Nat × Value))) (fun _ => _) (fun (y : Nat × Int) m => (fun (y : Nat) (a : Int) => (y ≤ t.args.length) ∧ (a = (zDP (left - 1) (t.args.take y) : Nat)) ∧ (a ≤ 201)) y.1 y.2) (fun y => t.args.length - y.1) ((0, 0)) ⟨hst4, MLe.refl _, hfr4.sub (.c <| .c <| .c <| .c <| .nil), ⟨Nat.zero_le _, rfl, by omega⟩⟩ fun y a5 w5 m5 hh5 => ?_
  have hst5 := hh5.st; have hle5 := hh5.le; have hfr5 := hh5.fr; have hrel := hh5.rel; clear hh5
  clear hst4 hfr4
  obtain ⟨y, a⟩ := y
  dsimp only at hrel hfr5 hst5
  obtain ⟨hyn, ha, ha2⟩ := hrel
  have hlh5 := hle5
  refine zE fun _ hK11 => ?_
  refine zE fun _ hK12 => ?_
  have zq1 := hle4.trans hle5
  have zq2 := hle3.trans zq1
  replace hc2 := hc2.mono zq2
  refine rp0 hst5 hfr5 (.cons rfl (zG rfl) <| .cons rfl (zF (off := 3) rfl underlying45 rfl rfl sizeOf33 rfl) <| .cons rfl (zK rfl hc2 isAgg33 rfl) <| .cons rfl (zt rfl underlying33) <| .cons rfl (ZG rfl rfl) <| .nil) fun a6 w6 m6 hst6 hle6 hk6 => ?_
  have hfr6 := hk6.fr (.o 5 <| .o 6 <| .o 1 <| .o 2 <| .n 14 <| .nil)
  clear hst5 hfr5 hk6
  refine hK12 _ _ ?_
  refine zJ hfr6 rfl rfl (fun hb14 => ?_) (fun hb14 => ?_)
  ·try simp only [nqs] at hb14
   refine zR ?_
   refine hK11 _ _ ?_
   refine zE fun _ hK13 => ?_
   refine zT ?_
   refine zE fun _ hK14 => ?_
   have el : ((left - 1 : Nat) : Int) = (left : Int) - 1 := by omega
   have zq3 := zq2.trans hle6
   replace hk_t := hk_t.mono zq3
   obtain ⟨p15, vs15, x15, ho15, hd15, hm_x15, ht15, hcv15, hl15, hv15⟩ := hk_t.nth (k := y) (by omega)
   cases ho15
   obtain ⟨o15, c15, oL15, cL15, rfl, hkd15, hs15, hi15, hj15, hr15⟩ := hv15.open_
   have hbg15 := hkd15.big; have hcp15 := hkd15.cap; have hbs15 := hs15.big; have hcs15 := hs15.cap
   have hrw15 : RwR _ ⟨x15.labels, x15.rv⟩ _ := ⟨_, _, rfl, hs15, hr15⟩
   replace h_t := h_t.mono zq3
   replace hs_t := hs_t.mono zq3
   replace hrw_t := hrw_t.mono zq3
   replace hc2 := hc2.mono hle6
   refine rp0 hst6 hfr6 (.cons rfl (zF (off := 3) rfl underlying45 rfl rfl sizeOf33 rfl) <| .cons rfl (zK rfl hc2 isAgg33 rfl) <| .cons rfl (zG rfl) <| .cons rfl (zN (k := y) rfl rfl underlying33 sizeOf45 rfl (by omega)) <| .cons rfl (zS rfl hcv15 isAgg45 sizeOf45 rfl rfl) <| .cons rfl (zG rfl) <| .cons rfl (zGQ rfl rfl ⟨by omega, by omega⟩) <| .cons rfl (zp rfl (.cons rfl <| .cons rfl <| .nil) call37 (fun w m hK => by have hle_ := KC.le hK; have hA := KC.agree hK; have h_t := h_t.mono hle_; have hk_t := hk_t.mono hle_; have hs_t := hs_t.mono hle_; have hrw_t := hrw_t.mono hle_; have hc2 := hc2.mono hle_; have hcv15 := hcv15.mono hle_; have hv15 := hv15.mono hle_; have hkd15 := hkd15.mono hle_; have hs15 := hs15.mono hle_; have hrw15 := hrw15.mono hle_; exact (show FnV Tryz.prog 37 #[_, .int .i64 ((left : Int) - 1)] _ _ _ from by rw [← el]; exact ih _ (by assumption) hA (by assumption) (by omega)))) <| .cons rfl (zH rfl) <| .nil) fun a7 w7 m7 hst7 hle7 hk7 => ?_
   have hfr7 := hk7.fr (.o 5 <| .o 6 <| .o 1 <| .o 2 <| .n 7 <| .nil)
   clear hst6 hfr6 hk7
   refine hK14 _ _ ?_
   refine rp0 hst7 hfr7 (.cons rfl (zG rfl) <| .cons rfl (zG rfl) <| .cons rfl (ob_max2 rfl rfl) <| .cons rfl (zH rfl) <| .nil) fun a8 w8 m8 hst8 hle8 hk8 => ?_
   have hfr8 := hk8.fr (.o 6 <| .o 1 <| .o 2 <| .n 5 <| .nil)
   clear hst7 hfr7 hk8
   refine hK13 _ _ ?_
   refine rp0 hst8 hfr8 (.cons rfl (zG rfl) <| .cons rfl (zy rfl rfl ⟨by omega, by omega⟩) <| .cons rfl (zH rfl) <| .nil) fun a9 w9 m9 hst9 hle9 hk9 => ?_
   have hfr9 := hk9.fr (.o 1 <| .o 2 <| .o 5 <| .n 6 <| .nil)
   clear hst8 hfr8 hk9
   have hz : (if ((zEA (left - 1) x15 : Nat) : Int) > a then ((zEA (left - 1) x15 : Nat) : Int) else a) = ((zDP (left - 1) (t.args.take (y + 1)) : Nat) : Int) := by rw [ht15, zEP, ha]; split <;> omega
   rw [hz] at hfr9
   have zq4 := hle8.trans hle9
   have zq5 := hle7.trans zq4
   have zq6 := hle6.trans zq5
   have hlh9 := hlh5.trans zq6
   exact ⟨(y + 1, _), m9, by show t.args.length - (y + 1) < t.args.length - y; omega, ⟨hst9, hlh9, hfr9.sub (.c <| .c <| .c <| .c <| .nil), ⟨by show y + 1 ≤ t.args.length; omega, rfl, by show ((zDP (left - 1) (t.args.take (y + 1)) : Nat) : Int) ≤ 201; have h8 := capD_le (k := left - 1) (by omega) x15; rw [ht15, zEP]; omega⟩⟩⟩
  ·try simp only [nqs] at hb14
   have hge : y = t.args.length := by omega
   rw [List.take_of_length_le (by omega)] at ha
   refine z7 ?_
   refine hK8 _ _ ?_
   refine zE fun _ hK16 => ?_
   refine rp0 hst6 hfr6 (.cons rfl (zG rfl) <| .cons rfl (zy rfl rfl ⟨by omega, by omega⟩) <| .cons rfl (ob_min2 rfl rfl) <| .cons rfl (zH rfl) <| .nil) fun a7 w7 m7 hst7 hle7 hk7 => ?_
   have hfr7 := hk7.fr (.o 5 <| .o 6 <| .n 4 <| .nil)
   clear hst6 hfr6 hk7
   refine hK16 _ _ ?_
   refine zU ?_
   repeat (with_reducible first | refine zL ?_ | refine zI ?_)
   exact zV hst7 hfr7 rfl (.tmp rfl <| .nil) (by refine congrArg (Value.int _) ?_; rw [capD_eq (by omega) hl]; split <;> omega)
theorem deepR_c (t : Ty) : deepR_G t := Ty.rec_ (p := deepR_G) (fun t ih => deepR_s ih) t
set_option maxHeartbeats 400000 in
theorem rightRowR_c {w : World} {m : Mem} {r : Rw} {vs_r : List Value} (hA : Agree w m) (h_r : RwR m r vs_r) : FnV Tryz.prog 23 #[.agg vs_r.toArray] w m (fun _ _ v => v = .bool (ZW r.labels r.var)) := by
 obtain ⟨o_r, c_r, rfl, hs_r, hr_r⟩ := h_r.open_
 have hbs_r := hs_r.big; have hcs_r := hs_r.cap
 refine zY (vs := [_]) func23 rfl rfl rfl fun a0 hfr0 => ?_
 have hst0 := zX hA (zw [] _ w m)
 have hM : MLe m m := MLe.refl m
 refine zE fun _ hK1 => ?_
 refine rp0 hst0 hfr0 (.cons rfl (ZA rfl rfl) <| .cons rfl (zH rfl) <| .nil) fun a1 w1 m1 hst1 hle1 hk1 => ?_
 have hfr1 := hk1.fr (.nil)
 obtain ⟨g2, e2, hc1⟩ := hk1.ex 1 rfl
 replace hfr1 := hfr1.cons e2
 replace hs_r := hs_r.mono hle1
 clear hst0 hfr0 hk1
 refine hK1 _ _ ?_
 refine zE fun _ hK3 => ?_
 refine zE fun _ hK4 => ?_
 refine rp0 hst1 hfr1 (.cons rfl (zH rfl) <| .nil) fun a2 w2 m2 hst2 hle2 hk2 => ?_
 have hfr2 := hk2.fr (.o 1 <| .n 3 <| .nil)
 replace hs_r := hs_r.mono hle2
 replace hc1 := hc1.mono hle2
 clear hst1 hfr1 hk2
 refine hK4 _ _ ?_
 refine zT ?_
 refine z6 (T := [(1, _)]) (fun (y : Nat) => ([(3, .int .i64 (y : Int))] : List (Nat × Value))) (fun _ => _) (fun (y : Nat) m => (y ≤ r.labels.length) ∧ (zDQ (r.labels.take y) = true)) (fun y => r.labels.length - y) (0) ⟨hst2, MLe.refl _, hfr2.sub (.c <| .c <| .nil), ⟨Nat.zero_le _, by simp [zDQ, ZF]⟩⟩ fun y a3 w3 m3 hh3 => ?_
 have hst3 := hh3.st; have hle3 := hh3.le; have hfr3 := hh3.fr; have hrel := hh3.rel; clear hh3
 replace hs_r := hs_r.mono hle3
 replace hc1 := hc1.mono hle3
 clear hst2 hfr2
 obtain ⟨hyn, hpo⟩ := hrel
 have hlh3 := hle3
 refine zE fun _ hK6 => ?_
 refine zE fun _ hK7 => ?_
 refine rp0 hst3 hfr3 (.cons rfl (zG rfl) <| .cons rfl (zF (off := 0) rfl underlying43 rfl rfl sizeOf41 rfl) <| .cons rfl (zK rfl hc1 isAgg41 rfl) <| .cons rfl (zt rfl underlying41) <| .cons rfl (ZG rfl rfl) <| .nil) fun a4 w4 m4 hst4 hle4 hk4 => ?_
 have hfr4 := hk4.fr (.o 3 <| .o 1 <| .n 8 <| .nil)
 replace hs_r := hs_r.mono hle4
 replace hc1 := hc1.mono hle4
 have hlh4 := hlh3.trans hle4
 clear hst3 hfr3 hk4
 refine hK7 _ _ ?_
 refine zJ hfr4 rfl rfl (fun hb8 => ?_) (fun hb8 => ?_)
 ·try simp only [nqs] at hb8
  refine zR ?_
  refine hK6 _ _ ?_
  refine zE fun _ hK8 => ?_
  refine zT ?_
  refine zE fun _ hK9 => ?_
  rcases Nat.eq_zero_or_pos y with hy0 | hy0
  ·skip
   obtain ⟨p10, vs10, x10, ho10, hd10, hm_x10, ht10, hcv10, hl10, hv10⟩ := hs_r.nth (k := y) (by omega)
   cases ho10
   subst hv10
   refine Zf (fun _ => mixed) hst4 hfr4 (by kernel_rfl) (by kernel_rfl) (.cons rfl (zF (off := 0) rfl underlying43 rfl rfl sizeOf41 rfl) <| .cons rfl (zK rfl hc1 isAgg41 rfl) <| .cons rfl (zG rfl) <| .cons rfl (zN (k := y) rfl rfl underlying41 sizeOf9 rfl (by omega)) <| .cons rfl (zr rfl hcv10 isAgg9 rfl) <| .cons rfl (zBg rfl rfl) <| .cons rfl (zG rfl) <| .cons rfl (zG rfl) <| .cons rfl (zAU rfl rfl) <| .cons rfl (zG rfl) <| .cons rfl (ZY (κ := .eq (.bool false)) (b := true) 20 rfl rfl (fun h => by simp [hy0] at h)) <| .cons rfl (ZY (κ := .eq (.bool false)) (b := true) 20 rfl rfl (fun h => by simp [hy0] at h)) <| .cons rfl (ZY (κ := .eq (.bool false)) (b := true) 20 rfl rfl (fun h => by simp [hy0] at h)) <| .cons rfl (ZY (κ := .eq (.bool false)) (b := true) 20 rfl rfl (fun h => by simp [hy0] at h)) <| .cons rfl (ZY (κ := .eq (.bool false)) (b := true) 20 rfl rfl (fun h => by simp [hy0] at h)) <| .cons rfl (ZY (κ := .eq (.bool false)) (b := true) 20 rfl rfl (fun h => by simp [hy0] at h)) <| .cons rfl (ZY (κ := .eq (.bool false)) (b := true) 20 rfl rfl (fun h => by simp [hy0] at h)) <| .cons rfl (ZY (κ := .eq (.bool false)) (b := true) 20 rfl rfl (fun h => by simp [hy0] at h)) <| .cons rfl (ZY (κ := .eq (.bool false)) (b := true) 20 rfl rfl (fun h => by simp [hy0] at h)) <| .cons rfl (ZY (κ := .eq (.bool false)) (b := true) 20 rfl rfl (fun h => by simp [hy0] at h)) <| .cons rfl (ZY (κ := .eq (.bool false)) (b := true) 20 rfl rfl (fun h => by simp [hy0] at h)) <| .cons rfl (ZY (κ := .eq (.bool false)) (b := true) 20 rfl rfl (fun h => by simp [hy0] at h)) <| .cons rfl (z8 rfl rfl rfl) <| .cons rfl (zAq rfl rfl rfl) <| .nil) fun a5 w5 m5 hst5 hle5 hk5 => ?_
   have hfr5 := hk5.fr (.o 3 <| .o 1 <| .n 34 <| .nil)
   clear hst4 hfr4 hk5
   have hpe : zDQ (r.labels.take (y + 1)) = (zDQ (r.labels.take y) && !(decide (x10 = []) || (decide (0 < y) && Op.bytesLess x10 []))) := by rw [ht10, zGR _ _ y (by rw [List.length_take]; omega)]; rw [show decide (0 < y) = false from by simp [hy0], Bool.false_and, Bool.false_and]
   refine hK9 _ _ ?_
   refine zJ hfr5 rfl rfl (fun hb34 => ?_) (fun hb34 => ?_)
   ·try simp only [nqs] at hb34
    refine zE fun _ hK11 => ?_
    refine rp0 hst5 hfr5 (.cons rfl (zH rfl) <| .nil) fun a6 w6 m6 hst6 hle6 hk6 => ?_
    have hfr6 := hk6.fr (.o 3 <| .n 2 <| .nil)
    clear hst5 hfr5 hk6
    refine hK11 _ _ ?_
    refine zU ?_
    repeat (with_reducible first | refine zL ?_ | refine zI ?_)
    exact zV hst6 hfr6 rfl (.tmp rfl <| .nil) (by refine congrArg Value.bool ?_; rw [zFh (k := y + 1) (by rw [hpe, hpo]; rcases hb34 with h | ⟨h1, h2⟩ <;> first | (simp [h]; done) | (exact absurd h1 (by omega)) | (simp [h2, show 0 < y by omega]; done))])
   ·try simp only [nqs] at hb34
    refine zR ?_
    refine hK8 _ _ ?_
    refine rp0 hst5 hfr5 (.cons rfl (zG rfl) <| .cons rfl (zy rfl rfl ⟨by omega, by omega⟩) <| .cons rfl (zH rfl) <| .nil) fun a6 w6 m6 hst6 hle6 hk6 => ?_
    have hfr6 := hk6.fr (.o 1 <| .n 3 <| .nil)
    clear hst5 hfr5 hk6
    have zq1 := hle5.trans hle6
    have hlh6 := hlh4.trans zq1
    exact ⟨y + 1, m6, by show r.labels.length - (y + 1) < r.labels.length - y; omega, ⟨hst6, hlh6, hfr6.sub (.c <| .c <| .nil), ⟨by show y + 1 ≤ r.labels.length; omega, by rw [hpe, hpo]; first | (simp [hb34.1, hb34.2, hy0]; done) | (simp [hb34, hy0]; done) | simp_all⟩⟩⟩
  ·skip
   obtain ⟨p13, vs13, x13, ho13, hd13, hm_x13, ht13, hcv13, hl13, hv13⟩ := hs_r.nth (k := y) (by omega)
   cases ho13
   subst hv13
   obtain ⟨p14, vs14, x14, ho14, hd14, hm_x14, ht14, hcv14, hl14, hv14⟩ := hs_r.nth (k := y - 1) (by omega)
   cases ho14
   subst hv14
   refine Zf (fun _ => mixed) hst4 hfr4 (by kernel_rfl) (by kernel_rfl) (.cons rfl (zF (off := 0) rfl underlying43 rfl rfl sizeOf41 rfl) <| .cons rfl (zK rfl hc1 isAgg41 rfl) <| .cons rfl (zG rfl) <| .cons rfl (zN (k := y) rfl rfl underlying41 sizeOf9 rfl (by omega)) <| .cons rfl (zr rfl hcv13 isAgg9 rfl) <| .cons rfl (zBg rfl rfl) <| .cons rfl (zG rfl) <| .cons rfl (zG rfl) <| .cons rfl (zAU rfl rfl) <| .cons rfl (zG rfl) <| .cons rfl (zF (off := 0) rfl underlying43 rfl rfl sizeOf41 rfl) <| .cons rfl (zK rfl hc1 isAgg41 rfl) <| .cons rfl (zG rfl) <| .cons rfl (zN (k := y) rfl rfl underlying41 sizeOf9 rfl (by omega)) <| .cons rfl (zr rfl hcv13 isAgg9 rfl) <| .cons rfl (zF (off := 0) rfl underlying43 rfl rfl sizeOf41 rfl) <| .cons rfl (zK rfl hc1 isAgg41 rfl) <| .cons rfl (zG rfl) <| .cons rfl (zGQ rfl rfl ⟨by omega, by omega⟩) <| .cons rfl (zN (k := y - 1) rfl rfl underlying41 sizeOf9 (by omega) (by omega)) <| .cons rfl (zr rfl hcv14 isAgg9 rfl) <| .cons rfl (ob_slss rfl rfl) <| .cons rfl (z8 rfl rfl rfl) <| .cons rfl (zAq rfl rfl rfl) <| .nil) fun a5 w5 m5 hst5 hle5 hk5 => ?_
   have hfr5 := hk5.fr (.o 3 <| .o 1 <| .n 34 <| .nil)
   clear hst4 hfr4 hk5
   have hpe : zDQ (r.labels.take (y + 1)) = (zDQ (r.labels.take y) && !(decide (x13 = []) || (decide (0 < y) && Op.bytesLess x13 x14))) := by rw [ht13, zGR _ _ y (by rw [List.length_take]; omega)]; have h9 := ht14; rw [show y - 1 + 1 = y by omega] at h9; rw [h9, List.getLast?_concat]; rfl
   refine hK9 _ _ ?_
   refine zJ hfr5 rfl rfl (fun hb34 => ?_) (fun hb34 => ?_)
   ·try simp only [nqs] at hb34
    refine zE fun _ hK15 => ?_
    refine rp0 hst5 hfr5 (.cons rfl (zH rfl) <| .nil) fun a6 w6 m6 hst6 hle6 hk6 => ?_
    have hfr6 := hk6.fr (.o 3 <| .n 2 <| .nil)
    clear hst5 hfr5 hk6
    refine hK15 _ _ ?_
    refine zU ?_
    repeat (with_reducible first | refine zL ?_ | refine zI ?_)
    exact zV hst6 hfr6 rfl (.tmp rfl <| .nil) (by refine congrArg Value.bool ?_; rw [zFh (k := y + 1) (by rw [hpe, hpo]; rcases hb34 with h | ⟨h1, h2⟩ <;> first | (simp [h]; done) | (exact absurd h1 (by omega)) | (simp [h2, show 0 < y by omega]; done))])
   ·try simp only [nqs] at hb34
    refine zR ?_
    refine hK8 _ _ ?_
    refine rp0 hst5 hfr5 (.cons rfl (zG rfl) <| .cons rfl (zy rfl rfl ⟨by omega, by omega⟩) <| .cons rfl (zH rfl) <| .nil) fun a6 w6 m6 hst6 hle6 hk6 => ?_
    have hfr6 := hk6.fr (.o 1 <| .n 3 <| .nil)
    clear hst5 hfr5 hk6
    have zq2 := hle5.trans hle6
    have hlh6 := hlh4.trans zq2
    exact ⟨y + 1, m6, by show r.labels.length - (y + 1) < r.labels.length - y; omega, ⟨hst6, hlh6, hfr6.sub (.c <| .c <| .nil), ⟨by show y + 1 ≤ r.labels.length; omega, by rw [hpe, hpo]; first | (simp [hb34.1, hb34.2, hy0]; done) | (simp [hb34, hy0]; done) | simp_all⟩⟩⟩
 ·try simp only [nqs] at hb8
  have hge : y = r.labels.length := by omega
  rw [List.take_of_length_le (by omega)] at hpo
  refine z7 ?_
  refine hK3 _ _ ?_
  refine zE fun _ hK17 => ?_
  refine rp0 hst4 hfr4 (.cons rfl (zF (off := 1) rfl underlying43 rfl rfl sizeOf3 rfl) <| .cons rfl (zK rfl hc1 isAgg3 rfl) <| .cons rfl (zEW rfl rfl) <| .cons rfl (zH rfl) <| .nil) fun a5 w5 m5 hst5 hle5 hk5 => ?_
  have hfr5 := hk5.fr (.o 3 <| .n 2 <| .nil)
  clear hst4 hfr4 hk5
  refine hK17 _ _ ?_
  refine zU ?_
  repeat (with_reducible first | refine zL ?_ | refine zI ?_)
  exact zV hst5 hfr5 rfl (.tmp rfl <| .nil) (by refine congrArg Value.bool ?_; unfold ZW; unfold zDQ at hpo; simp_all)
abbrev zFv (t : Ty) : Prop := ∀ {w : World} {m : Mem} {vs_t : List Value} (hA : Agree w m) (h_t : TyR m t vs_t), FnV Tryz.prog 51 #[.agg vs_t.toArray] w m (fun _ _ v => v = .bool (zz t))
set_option maxHeartbeats 400000 in
theorem rightR_s {t : Ty} (ih : ∀ u ∈ t.args, zFv u) {w : World} {m : Mem} {vs_t : List Value} (hA : Agree w m) (h_t : TyR m t vs_t) : FnV Tryz.prog 51 #[.agg vs_t.toArray] w m (fun _ _ v => v = .bool (zz t)) := by
 obtain ⟨o_t, c_t, oL_t, cL_t, rfl, hk_t, hs_t, hi_t, hj_t, hr_t⟩ := h_t.open_
 have hbg_t := hk_t.big; have hcp_t := hk_t.cap; have hbs_t := hs_t.big; have hcs_t := hs_t.cap
 have hrw_t : RwR _ ⟨t.labels, t.rv⟩ _ := ⟨_, _, rfl, hs_t, hr_t⟩
 refine zY (vs := [_]) func51 rfl rfl rfl fun a0 hfr0 => ?_
 have hst0 := zX hA (zw [] _ w m)
 have hM : MLe m m := MLe.refl m
 have hrt := zAN t
 refine zE fun _ hK1 => ?_
 refine rp0 hst0 hfr0 (.cons rfl (ZA rfl rfl) <| .cons rfl (zH rfl) <| .nil) fun a1 w1 m1 hst1 hle1 hk1 => ?_
 have hfr1 := hk1.fr (.nil)
 obtain ⟨g2, e2, hc1⟩ := hk1.ex 1 rfl
 replace hfr1 := hfr1.cons e2
 replace h_t := h_t.mono hle1
 replace hk_t := hk_t.mono hle1
 replace hs_t := hs_t.mono hle1
 replace hrw_t := hrw_t.mono hle1
 clear hst0 hfr0 hk1
 refine hK1 _ _ ?_
 refine zE fun _ hK3 => ?_
 refine rp0 hst1 hfr1 (.cons rfl (zF (off := 4) rfl underlying45 rfl rfl sizeOf43 rfl) <| .cons rfl (Zs rfl hc1 isAgg43 sizeOf43 rfl rfl) <| .cons rfl (zp rfl (.cons rfl <| .nil) call23 (fun w m hK => by have hle_ := KC.le hK; have hA := KC.agree hK; have hrw_t := hrw_t.mono hle_; exact rightRowR_c (r := ⟨t.labels, t.rv⟩) hA hrw_t)) <| .cons rfl (zH rfl) <| .nil) fun a2 w2 m2 hst2 hle2 hk2 => ?_
 have hfr2 := hk2.fr (.o 1 <| .n 3 <| .nil)
 replace h_t := h_t.mono hle2
 replace hk_t := hk_t.mono hle2
 replace hs_t := hs_t.mono hle2
 replace hrw_t := hrw_t.mono hle2
 replace hc1 := hc1.mono hle2
 clear hst1 hfr1 hk2
 refine hK3 _ _ ?_
 refine zE fun _ hK4 => ?_
 refine rp0 hst2 hfr2 (.cons rfl (zF (off := 4) rfl underlying45 rfl rfl sizeOf43 rfl) <| .cons rfl (zF (off := 0) rfl underlying43 rfl rfl sizeOf41 rfl) <| .cons rfl (zK rfl (hc1.drop 4) isAgg41 rfl) <| .cons rfl (zt rfl underlying41) <| .cons rfl (zq rfl rfl) <| .cons rfl (zG rfl) <| .cons rfl (zF (off := 4) rfl underlying45 rfl rfl sizeOf43 rfl) <| .cons rfl (zF (off := 1) rfl underlying43 rfl rfl sizeOf3 rfl) <| .cons rfl (zK rfl (hc1.drop 4) isAgg3 rfl) <| .cons rfl (zq rfl rfl) <| .cons rfl (z8 rfl rfl rfl) <| .cons rfl (zH rfl) <| .nil) fun a3 w3 m3 hst3 hle3 hk3 => ?_
 have hfr3 := hk3.fr (.o 1 <| .o 3 <| .n 4 <| .nil)
 replace h_t := h_t.mono hle3
 replace hk_t := hk_t.mono hle3
 replace hs_t := hs_t.mono hle3
 replace hrw_t := hrw_t.mono hle3
 replace hc1 := hc1.mono hle3
 clear hst2 hfr2 hk3
 refine hK4 _ _ ?_
 refine zE fun _ hK5 => ?_
 refine rp0 hst3 hfr3 (.cons rfl (zF (off := 3) rfl underlying45 rfl rfl sizeOf33 rfl) <| .cons rfl (zK rfl hc1 isAgg33 rfl) <| .cons rfl (zt rfl underlying33) <| .cons rfl (zH rfl) <| .nil) fun a4 w4 m4 hst4 hle4 hk4 => ?_
 have hfr4 := hk4.fr (.o 1 <| .o 3 <| .o 4 <| .n 5 <| .nil)
 replace h_t := h_t.mono hle4
 replace hk_t := hk_t.mono hle4
 replace hs_t := hs_t.mono hle4
 replace hrw_t := hrw_t.mono hle4
 replace hc1 := hc1.mono hle4
 clear hst3 hfr3 hk4
 refine hK5 _ _ ?_
 refine zE fun _ hK6 => ?_
 refine rp0 hst4 hfr4 (.cons rfl (zH rfl) <| .nil) fun a5 w5 m5 hst5 hle5 hk5 => ?_
 have hfr5 := hk5.fr (.o 1 <| .o 3 <| .o 4 <| .o 5 <| .n 6 <| .nil)
 replace h_t := h_t.mono hle5
 replace hk_t := hk_t.mono hle5
 replace hs_t := hs_t.mono hle5
 replace hrw_t := hrw_t.mono hle5
 replace hc1 := hc1.mono hle5
 clear hst4 hfr4 hk5
 refine hK6 _ _ ?_
 refine join_any (T := [(1, _), (5, _)]) (fun (y : Bool) => ([(6, .bool y)] : List (Nat × Value))) (fun y => []) (fun (y : Bool) m => (fun (ok : Bool) => (ok = hdT t)) y) ((_)) ⟨hst5, MLe.refl _, hfr5.sub (.c <| .c <| .c <| .nil), trivial⟩ (fun y a6 w6 m6 hh6 => ?_) (fun K7 hj7 => ?_)
 ·have hst6 := hh6.st; have hle6 := hh6.le; have hfr6 := hh6.fr; have hrel := hh6.rel; clear hh6
  clear hst5 hfr5
  obtain ⟨ok, rfl⟩ : ∃ z, z = y := ⟨_, rfl⟩
  try dsimp only at hrel
  try dsimp only at hfr6
  try dsimp only at hst6
  have hok0 := hrel
  refine zE fun _ hK8 => ?_
  refine zE fun _ hK9 => ?_
  refine rp0 hst6 hfr6 (.cons rfl (zH rfl) <| .nil) fun a7 w7 m7 hst7 hle7 hk7 => ?_
  have hfr7 := hk7.fr (.o 6 <| .o 1 <| .o 5 <| .n 7 <| .nil)
  clear hst6 hfr6 hk7
  refine hK9 _ _ ?_
  refine zT ?_
  refine z6 (T := [(1, _), (5, _)]) (fun (y : Nat × Bool) => ([(6, .bool y.2), (7, .int .i64 (y.1 : Int))] : List (Nat × Value))) (fun _ => _) (fun (y : Nat × Bool) m => (fun (y : Nat) (ok2 : Bool) => (y ≤ t.args.length) ∧ (zz t = (ok2 && zAS (t.args.drop y)))) y.1 y.2) (fun y => t.args.length - y.1) ((0, ok)) ⟨hst7, MLe.refl _, hfr7.sub (.c <| .c <| .c <| .c <| .nil), ⟨Nat.zero_le _, by rw [hrt, List.drop_zero, hok0]⟩⟩ fun y a8 w8 m8 hh8 => ?_
  have hst8 := hh8.st; have hle8 := hh8.le; have hfr8 := hh8.fr; have hrel := hh8.rel; clear hh8
  clear hst7 hfr7
  obtain ⟨y, ok2⟩ := y
  dsimp only at hrel hfr8 hst8
  obtain ⟨hyn, hok⟩ := hrel
  have hlh8 := hle8
  refine zE fun _ hK11 => ?_
  refine zE fun _ hK12 => ?_
  refine rp0 hst8 hfr8 (.cons rfl (zG rfl) <| .cons rfl (zG rfl) <| .cons rfl (ZG rfl rfl) <| .cons rfl (zG rfl) <| .cons rfl (zG rfl) <| .cons rfl (z8 rfl rfl rfl) <| .nil) fun a9 w9 m9 hst9 hle9 hk9 => ?_
  have hfr9 := hk9.fr (.o 6 <| .o 7 <| .o 1 <| .o 5 <| .n 119 <| .nil)
  clear hst8 hfr8 hk9
  refine hK12 _ _ ?_
  refine zJ hfr9 rfl rfl (fun hb119 => ?_) (fun hb119 => ?_)
  ·try simp only [nqs] at hb119
   refine zR ?_
   refine hK11 _ _ ?_
   refine zE fun _ hK13 => ?_
   refine zT ?_
   have zq1 := hle8.trans hle9
   have zq2 := hle7.trans zq1
   have zq3 := hle6.trans zq2
   replace hk_t := hk_t.mono zq3
   obtain ⟨p14, vs14, x14, ho14, hd14, hm_x14, ht14, hcv14, hl14, hv14⟩ := hk_t.nth (k := y) (by omega)
   cases ho14
   obtain ⟨o14, c14, oL14, cL14, rfl, hkd14, hs14, hi14, hj14, hr14⟩ := hv14.open_
   have hbg14 := hkd14.big; have hcp14 := hkd14.cap; have hbs14 := hs14.big; have hcs14 := hs14.cap
   have hrw14 : RwR _ ⟨x14.labels, x14.rv⟩ _ := ⟨_, _, rfl, hs14, hr14⟩
   replace h_t := h_t.mono zq3
   replace hs_t := hs_t.mono zq3
   replace hrw_t := hrw_t.mono zq3
   replace hc1 := hc1.mono zq3
   refine rp0 hst9 hfr9 (.cons rfl (zF (off := 3) rfl underlying45 rfl rfl sizeOf33 rfl) <| .cons rfl (zK rfl hc1 isAgg33 rfl) <| .cons rfl (zG rfl) <| .cons rfl (zN (k := y) rfl rfl underlying33 sizeOf45 rfl (by omega)) <| .cons rfl (zS rfl hcv14 isAgg45 sizeOf45 rfl rfl) <| .cons rfl (zp rfl (.cons rfl <| .nil) call51 (fun w m hK => by have hle_ := KC.le hK; have hA := KC.agree hK; have h_t := h_t.mono hle_; have hk_t := hk_t.mono hle_; have hs_t := hs_t.mono hle_; have hrw_t := hrw_t.mono hle_; have hc1 := hc1.mono hle_; have hcv14 := hcv14.mono hle_; have hv14 := hv14.mono hle_; have hkd14 := hkd14.mono hle_; have hs14 := hs14.mono hle_; have hrw14 := hrw14.mono hle_; exact ih _ (by assumption) hA (by assumption))) <| .cons rfl (zH rfl) <| .nil) fun a10 w10 m10 hst10 hle10 hk10 => ?_
   have hfr10 := hk10.fr (.o 7 <| .o 1 <| .o 5 <| .n 6 <| .nil)
   clear hst9 hfr9 hk10
   refine hK13 _ _ ?_
   refine rp0 hst10 hfr10 (.cons rfl (zG rfl) <| .cons rfl (zy rfl rfl ⟨by omega, by omega⟩) <| .cons rfl (zH rfl) <| .nil) fun a11 w11 m11 hst11 hle11 hk11 => ?_
   have hfr11 := hk11.fr (.o 1 <| .o 5 <| .o 6 <| .n 7 <| .nil)
   clear hst10 hfr10 hk11
   have zq4 := hle10.trans hle11
   have zq5 := hle9.trans zq4
   have hlh11 := hlh8.trans zq5
   exact ⟨(y + 1, _), m11, by show t.args.length - (y + 1) < t.args.length - y; omega, ⟨hst11, hlh11, hfr11.sub (.c <| .c <| .c <| .c <| .nil), ⟨by show y + 1 ≤ t.args.length; omega, by rw [hok, hb119.2, Bool.true_and, hd14, zAS]⟩⟩⟩
  ·try simp only [nqs] at hb119
   have hres : zz t = ok2 := by rw [hok]; rcases hb119 with h | h; (rw [List.drop_of_length_le (by omega), zAS, Bool.and_true]); (rw [h, Bool.false_and])
   refine z7 ?_
   refine hK8 _ _ ?_
   refine zE fun _ hK15 => ?_
   refine rp0 hst9 hfr9 (.cons rfl (zG rfl) <| .cons rfl (zH rfl) <| .nil) fun a10 w10 m10 hst10 hle10 hk10 => ?_
   have hfr10 := hk10.fr (.o 6 <| .o 7 <| .n 2 <| .nil)
   clear hst9 hfr9 hk10
   refine hK15 _ _ ?_
   refine zU ?_
   repeat (with_reducible first | refine zL ?_ | refine zI ?_)
   exact zV hst10 hfr10 rfl (.tmp rfl <| .nil) (by refine congrArg Value.bool ?_; rw [hres])
 ·have hlj7 : MLe m5 m5 := MLe.refl _
  refine zE fun _ hK17 => ?_
  refine rp0 hst5 hfr5 (.cons rfl (zF (off := 0) rfl underlying45 rfl rfl sizeOf3 rfl) <| .cons rfl (zK rfl hc1 isAgg3 rfl) <| .nil) fun a6 w6 m6 hst6 hle6 hk6 => ?_
  have hfr6 := hk6.fr (.o 1 <| .o 3 <| .o 4 <| .o 5 <| .o 6 <| .n 26 <| .nil)
  clear hst5 hfr5 hk6
  refine hK17 _ _ ?_
  refine zT ?_
  refine zE fun _ hK18 => ?_
  refine zE fun _ hK19 => ?_
  refine rp0 hst6 hfr6 (.cons rfl (zq rfl rfl) <| .cons rfl (zH rfl) <| .nil) fun a7 w7 m7 hst7 hle7 hk7 => ?_
  have hfr7 := hk7.fr (.o 1 <| .o 3 <| .o 4 <| .o 5 <| .o 6 <| .o 26 <| .n 27 <| .nil)
  clear hst6 hfr6 hk7
  refine hK19 _ _ ?_
  refine zJ hfr7 rfl rfl (fun hb27 => ?_) (fun hb27 => ?_)
  ·try simp only [nqs] at hb27
   refine zR ?_
   refine hK18 _ _ ?_
   refine zJ hfr7 rfl rfl (fun hb27x => ?_) (fun hb27x => ?_)
   ·try simp only [nqs] at hb27x
    have zq6 := hle6.trans hle7
    replace hc1 := hc1.mono zq6
    refine rp0 hst7 hfr7 (.cons rfl (zG rfl) <| .cons rfl (zq rfl rfl) <| .cons rfl (zG rfl) <| .cons rfl (zG rfl) <| .cons rfl (z8 rfl rfl rfl) <| .cons rfl (zG rfl) <| .cons rfl (zF (off := 1) rfl underlying45 rfl rfl sizeOf9 rfl) <| .cons rfl (zK rfl hc1 isAgg9 rfl) <| .cons rfl (zBg rfl rfl) <| .cons rfl (z8 rfl rfl rfl) <| .cons rfl (zG rfl) <| .cons rfl (zF (off := 2) rfl underlying45 rfl rfl sizeOf3 rfl) <| .cons rfl (zK rfl hc1 isAgg3 rfl) <| .cons rfl (zq rfl rfl) <| .cons rfl (z8 rfl rfl rfl) <| .cons rfl (zH rfl) <| .nil) fun a8 w8 m8 hst8 hle8 hk8 => ?_
    have hfr8 := hk8.fr (.o 1 <| .o 5 <| .n 6 <| .nil)
    clear hst7 hfr7 hk8
    repeat (with_reducible first | refine Zx ?_ | refine Zk ?_ | refine Zc ?_)
    have zq7 := zq6.trans hle8
    replace hlj7 := hlj7.trans zq7
    exact hj7 (_) _ _ _ ⟨hst8, hlj7, hfr8.sub (.c <| .c <| .c <| .nil), by show _ = hdT t; rw [hdT1 (by omega)]; try rfl⟩
   ·exfalso; try simp only [nqs] at hb27x
    first | exact absurd hb27x hb27 | exact absurd hb27 hb27x | simp_all
  ·try simp only [nqs] at hb27
   refine zE fun _ hK20 => ?_
   refine rp0 hst7 hfr7 (.cons rfl (zq rfl rfl) <| .cons rfl (zH rfl) <| .nil) fun a8 w8 m8 hst8 hle8 hk8 => ?_
   have hfr8 := hk8.fr (.o 1 <| .o 3 <| .o 4 <| .o 5 <| .o 6 <| .o 26 <| .n 27 <| .nil)
   clear hst7 hfr7 hk8
   refine hK20 _ _ ?_
   refine zJ hfr8 rfl rfl (fun hb27 => ?_) (fun hb27 => ?_)
   ·try simp only [nqs] at hb27
    refine zR ?_
    refine hK18 _ _ ?_
    refine zJ hfr8 rfl rfl (fun hb27x => ?_) (fun hb27x => ?_)
    ·try simp only [nqs] at hb27x
     have zq8 := hle7.trans hle8
     have zq9 := hle6.trans zq8
     replace hc1 := hc1.mono zq9
     refine rp0 hst8 hfr8 (.cons rfl (zG rfl) <| .cons rfl (zq rfl rfl) <| .cons rfl (zG rfl) <| .cons rfl (zG rfl) <| .cons rfl (z8 rfl rfl rfl) <| .cons rfl (zG rfl) <| .cons rfl (zF (off := 1) rfl underlying45 rfl rfl sizeOf9 rfl) <| .cons rfl (zK rfl hc1 isAgg9 rfl) <| .cons rfl (zBg rfl rfl) <| .cons rfl (z8 rfl rfl rfl) <| .cons rfl (zG rfl) <| .cons rfl (zF (off := 2) rfl underlying45 rfl rfl sizeOf3 rfl) <| .cons rfl (zK rfl hc1 isAgg3 rfl) <| .cons rfl (zq rfl rfl) <| .cons rfl (z8 rfl rfl rfl) <| .cons rfl (zH rfl) <| .nil) fun a9 w9 m9 hst9 hle9 hk9 => ?_
     have hfr9 := hk9.fr (.o 1 <| .o 5 <| .n 6 <| .nil)
     clear hst8 hfr8 hk9
     repeat (with_reducible first | refine Zx ?_ | refine Zk ?_ | refine Zc ?_)
     have zq10 := zq9.trans hle9
     replace hlj7 := hlj7.trans zq10
     exact hj7 (_) _ _ _ ⟨hst9, hlj7, hfr9.sub (.c <| .c <| .c <| .nil), by show _ = hdT t; rw [hdT1 (by omega)]; try rfl⟩
    ·exfalso; try simp only [nqs] at hb27x
     first | exact absurd hb27x hb27 | exact absurd hb27 hb27x | simp_all
   ·try simp only [nqs] at hb27
    refine rp0 hst8 hfr8 (.cons rfl (zq rfl rfl) <| .cons rfl (zH rfl) <| .nil) fun a9 w9 m9 hst9 hle9 hk9 => ?_
    have hfr9 := hk9.fr (.o 1 <| .o 3 <| .o 4 <| .o 5 <| .o 6 <| .o 26 <| .n 27 <| .nil)
    clear hst8 hfr8 hk9
    refine hK18 _ _ ?_
    refine zJ hfr9 rfl rfl (fun hb27 => ?_) (fun hb27 => ?_)
    ·try simp only [nqs] at hb27
     have zq11 := hle8.trans hle9
     have zq12 := hle7.trans zq11
     have zq13 := hle6.trans zq12
     replace hc1 := hc1.mono zq13
     refine rp0 hst9 hfr9 (.cons rfl (zG rfl) <| .cons rfl (zq rfl rfl) <| .cons rfl (zG rfl) <| .cons rfl (zG rfl) <| .cons rfl (z8 rfl rfl rfl) <| .cons rfl (zG rfl) <| .cons rfl (zF (off := 1) rfl underlying45 rfl rfl sizeOf9 rfl) <| .cons rfl (zK rfl hc1 isAgg9 rfl) <| .cons rfl (zBg rfl rfl) <| .cons rfl (z8 rfl rfl rfl) <| .cons rfl (zG rfl) <| .cons rfl (zF (off := 2) rfl underlying45 rfl rfl sizeOf3 rfl) <| .cons rfl (zK rfl hc1 isAgg3 rfl) <| .cons rfl (zq rfl rfl) <| .cons rfl (z8 rfl rfl rfl) <| .cons rfl (zH rfl) <| .nil) fun a10 w10 m10 hst10 hle10 hk10 => ?_
     have hfr10 := hk10.fr (.o 1 <| .o 5 <| .n 6 <| .nil)
     clear hst9 hfr9 hk10
     repeat (with_reducible first | refine Zx ?_ | refine Zk ?_ | refine Zc ?_)
     have zq14 := zq13.trans hle10
     replace hlj7 := hlj7.trans zq14
     exact hj7 (_) _ _ _ ⟨hst10, hlj7, hfr10.sub (.c <| .c <| .c <| .nil), by show _ = hdT t; rw [hdT1 (by omega)]; try rfl⟩
    ·try simp only [nqs] at hb27
     refine zE fun _ hK21 => ?_
     refine rp0 hst9 hfr9 (.cons rfl (zq rfl rfl) <| .cons rfl (zH rfl) <| .nil) fun a10 w10 m10 hst10 hle10 hk10 => ?_
     have hfr10 := hk10.fr (.o 1 <| .o 3 <| .o 4 <| .o 5 <| .o 6 <| .o 26 <| .n 46 <| .nil)
     clear hst9 hfr9 hk10
     refine hK21 _ _ ?_
     refine zJ hfr10 rfl rfl (fun hb46 => ?_) (fun hb46 => ?_)
     ·try simp only [nqs] at hb46
      have zq15 := hle9.trans hle10
      have zq16 := hle8.trans zq15
      have zq17 := hle7.trans zq16
      have zq18 := hle6.trans zq17
      replace hc1 := hc1.mono zq18
      refine rp0 hst10 hfr10 (.cons rfl (zG rfl) <| .cons rfl (zq rfl rfl) <| .cons rfl (zG rfl) <| .cons rfl (zG rfl) <| .cons rfl (z8 rfl rfl rfl) <| .cons rfl (zG rfl) <| .cons rfl (zF (off := 1) rfl underlying45 rfl rfl sizeOf9 rfl) <| .cons rfl (zK rfl hc1 isAgg9 rfl) <| .cons rfl (zEe rfl rfl) <| .cons rfl (z8 rfl rfl rfl) <| .cons rfl (zG rfl) <| .cons rfl (zF (off := 2) rfl underlying45 rfl rfl sizeOf3 rfl) <| .cons rfl (zK rfl hc1 isAgg3 rfl) <| .cons rfl (zq rfl rfl) <| .cons rfl (z8 rfl rfl rfl) <| .cons rfl (zH rfl) <| .nil) fun a11 w11 m11 hst11 hle11 hk11 => ?_
      have hfr11 := hk11.fr (.o 1 <| .o 5 <| .n 6 <| .nil)
      clear hst10 hfr10 hk11
      repeat (with_reducible first | refine Zx ?_ | refine Zk ?_ | refine Zc ?_)
      have zq19 := zq18.trans hle11
      replace hlj7 := hlj7.trans zq19
      exact hj7 (_) _ _ _ ⟨hst11, hlj7, hfr11.sub (.c <| .c <| .c <| .nil), by show _ = hdT t; rw [hdT4 (by omega)]; try rfl⟩
     ·try simp only [nqs] at hb46
      refine zE fun _ hK22 => ?_
      refine rp0 hst10 hfr10 (.cons rfl (zq rfl rfl) <| .cons rfl (zH rfl) <| .nil) fun a11 w11 m11 hst11 hle11 hk11 => ?_
      have hfr11 := hk11.fr (.o 1 <| .o 3 <| .o 4 <| .o 5 <| .o 6 <| .o 26 <| .n 63 <| .nil)
      clear hst10 hfr10 hk11
      refine hK22 _ _ ?_
      refine zJ hfr11 rfl rfl (fun hb63 => ?_) (fun hb63 => ?_)
      ·try simp only [nqs] at hb63
       have zq20 := hle10.trans hle11
       have zq21 := hle9.trans zq20
       have zq22 := hle8.trans zq21
       have zq23 := hle7.trans zq22
       have zq24 := hle6.trans zq23
       replace hc1 := hc1.mono zq24
       refine rp0 hst11 hfr11 (.cons rfl (zG rfl) <| .cons rfl (zq rfl rfl) <| .cons rfl (zG rfl) <| .cons rfl (zG rfl) <| .cons rfl (z8 rfl rfl rfl) <| .cons rfl (zG rfl) <| .cons rfl (zF (off := 1) rfl underlying45 rfl rfl sizeOf9 rfl) <| .cons rfl (zK rfl hc1 isAgg9 rfl) <| .cons rfl (zBg rfl rfl) <| .cons rfl (z8 rfl rfl rfl) <| .cons rfl (zG rfl) <| .cons rfl (zF (off := 2) rfl underlying45 rfl rfl sizeOf3 rfl) <| .cons rfl (zK rfl hc1 isAgg3 rfl) <| .cons rfl (zEW rfl rfl) <| .cons rfl (z8 rfl rfl rfl) <| .cons rfl (zH rfl) <| .nil) fun a12 w12 m12 hst12 hle12 hk12 => ?_
       have hfr12 := hk12.fr (.o 1 <| .o 5 <| .n 6 <| .nil)
       clear hst11 hfr11 hk12
       repeat (with_reducible first | refine Zx ?_ | refine Zk ?_ | refine Zc ?_)
       have zq25 := zq24.trans hle12
       replace hlj7 := hlj7.trans zq25
       exact hj7 (_) _ _ _ ⟨hst12, hlj7, hfr12.sub (.c <| .c <| .c <| .nil), by show _ = hdT t; rw [hdT7 (by omega)]; try rfl⟩
      ·try simp only [nqs] at hb63
       refine zE fun _ hK23 => ?_
       refine rp0 hst11 hfr11 (.cons rfl (zq rfl rfl) <| .cons rfl (zH rfl) <| .nil) fun a12 w12 m12 hst12 hle12 hk12 => ?_
       have hfr12 := hk12.fr (.o 1 <| .o 3 <| .o 4 <| .o 5 <| .o 6 <| .o 26 <| .n 80 <| .nil)
       clear hst11 hfr11 hk12
       refine hK23 _ _ ?_
       refine zJ hfr12 rfl rfl (fun hb80 => ?_) (fun hb80 => ?_)
       ·try simp only [nqs] at hb80
        have zq26 := hle11.trans hle12
        have zq27 := hle10.trans zq26
        have zq28 := hle9.trans zq27
        have zq29 := hle8.trans zq28
        have zq30 := hle7.trans zq29
        have zq31 := hle6.trans zq30
        replace hc1 := hc1.mono zq31
        refine rp0 hst12 hfr12 (.cons rfl (zG rfl) <| .cons rfl (zq rfl rfl) <| .cons rfl (zG rfl) <| .cons rfl (zG rfl) <| .cons rfl (z8 rfl rfl rfl) <| .cons rfl (zG rfl) <| .cons rfl (zF (off := 1) rfl underlying45 rfl rfl sizeOf9 rfl) <| .cons rfl (zK rfl hc1 isAgg9 rfl) <| .cons rfl (zBg rfl rfl) <| .cons rfl (z8 rfl rfl rfl) <| .cons rfl (zG rfl) <| .cons rfl (zF (off := 2) rfl underlying45 rfl rfl sizeOf3 rfl) <| .cons rfl (zK rfl hc1 isAgg3 rfl) <| .cons rfl (zq rfl rfl) <| .cons rfl (z8 rfl rfl rfl) <| .cons rfl (zH rfl) <| .nil) fun a13 w13 m13 hst13 hle13 hk13 => ?_
        have hfr13 := hk13.fr (.o 1 <| .o 5 <| .n 6 <| .nil)
        clear hst12 hfr12 hk13
        repeat (with_reducible first | refine Zx ?_ | refine Zk ?_ | refine Zc ?_)
        have zq32 := zq31.trans hle13
        replace hlj7 := hlj7.trans zq32
        exact hj7 (_) _ _ _ ⟨hst13, hlj7, hfr13.sub (.c <| .c <| .c <| .nil), by show _ = hdT t; rw [hdT6 (by omega)]; try rfl⟩
       ·try simp only [nqs] at hb80
        refine zE fun _ hK24 => ?_
        refine rp0 hst12 hfr12 (.cons rfl (zq rfl rfl) <| .cons rfl (zH rfl) <| .nil) fun a13 w13 m13 hst13 hle13 hk13 => ?_
        have hfr13 := hk13.fr (.o 1 <| .o 3 <| .o 5 <| .o 6 <| .n 97 <| .nil)
        clear hst12 hfr12 hk13
        refine hK24 _ _ ?_
        refine zJ hfr13 rfl rfl (fun hb97 => ?_) (fun hb97 => ?_)
        ·try simp only [nqs] at hb97
         have zq33 := hle12.trans hle13
         have zq34 := hle11.trans zq33
         have zq35 := hle10.trans zq34
         have zq36 := hle9.trans zq35
         have zq37 := hle8.trans zq36
         have zq38 := hle7.trans zq37
         have zq39 := hle6.trans zq38
         replace hc1 := hc1.mono zq39
         refine rp0 hst13 hfr13 (.cons rfl (zG rfl) <| .cons rfl (zq rfl rfl) <| .cons rfl (zG rfl) <| .cons rfl (zG rfl) <| .cons rfl (z8 rfl rfl rfl) <| .cons rfl (zG rfl) <| .cons rfl (zF (off := 1) rfl underlying45 rfl rfl sizeOf9 rfl) <| .cons rfl (zK rfl hc1 isAgg9 rfl) <| .cons rfl (zBg rfl rfl) <| .cons rfl (z8 rfl rfl rfl) <| .cons rfl (zG rfl) <| .cons rfl (zF (off := 2) rfl underlying45 rfl rfl sizeOf3 rfl) <| .cons rfl (zK rfl hc1 isAgg3 rfl) <| .cons rfl (zq rfl rfl) <| .cons rfl (z8 rfl rfl rfl) <| .cons rfl (zH rfl) <| .nil) fun a14 w14 m14 hst14 hle14 hk14 => ?_
         have hfr14 := hk14.fr (.o 1 <| .o 5 <| .n 6 <| .nil)
         clear hst13 hfr13 hk14
         repeat (with_reducible first | refine Zx ?_ | refine Zk ?_ | refine Zc ?_)
         have zq40 := zq39.trans hle14
         replace hlj7 := hlj7.trans zq40
         exact hj7 (_) _ _ _ ⟨hst14, hlj7, hfr14.sub (.c <| .c <| .c <| .nil), by show _ = hdT t; rw [hdT5 (by omega)]; try rfl⟩
        ·try simp only [nqs] at hb97
         refine zR ?_
         repeat (with_reducible first | refine Zx ?_ | refine Zk ?_ | refine Zc ?_)
         have zq41 := hle12.trans hle13
         have zq42 := hle11.trans zq41
         have zq43 := hle10.trans zq42
         have zq44 := hle9.trans zq43
         have zq45 := hle8.trans zq44
         have zq46 := hle7.trans zq45
         have zq47 := hle6.trans zq46
         replace hlj7 := hlj7.trans zq47
         exact hj7 (_) _ _ _ ⟨hst13, hlj7, hfr13.sub (.c <| .c <| .c <| .nil), by show _ = hdT t; rw [hdT0 (by omega) (by omega) (by omega) (by omega) (by omega)]; try rfl⟩
theorem rightR_c (t : Ty) : zFv t := Ty.rec_ (p := zFv) (fun t ih => rightR_s ih) t
set_option maxHeartbeats 400000 in
theorem right0R_c {w : World} {m : Mem} {t : Ty} {vs_t : List Value} (hA : Agree w m) (h_t : TyR m t vs_t) : FnV Tryz.prog 29 #[.agg vs_t.toArray] w m (fun _ _ v => v = .bool (decide (zBj t ≤ 200) && zz t)) := by
 obtain ⟨o_t, c_t, oL_t, cL_t, rfl, hk_t, hs_t, hi_t, hj_t, hr_t⟩ := h_t.open_
 have hbg_t := hk_t.big; have hcp_t := hk_t.cap; have hbs_t := hs_t.big; have hcs_t := hs_t.cap
 have hrw_t : RwR _ ⟨t.labels, t.rv⟩ _ := ⟨_, _, rfl, hs_t, hr_t⟩
 refine zY (vs := [_]) func29 rfl rfl rfl fun a0 hfr0 => ?_
 have hst0 := zX hA (zw [] _ w m)
 have hM : MLe m m := MLe.refl m
 refine zE fun _ hK1 => ?_
 refine rp0 hst0 hfr0 (.cons rfl (ZA rfl rfl) <| .cons rfl (zH rfl) <| .nil) fun a1 w1 m1 hst1 hle1 hk1 => ?_
 have hfr1 := hk1.fr (.nil)
 obtain ⟨g2, e2, hc1⟩ := hk1.ex 1 rfl
 replace hfr1 := hfr1.cons e2
 replace h_t := h_t.mono hle1
 clear hst0 hfr0 hk1
 refine hK1 _ _ ?_
 refine zE fun _ hK3 => ?_
 refine zE fun _ hK4 => ?_
 refine rp0 hst1 hfr1 (.cons rfl (zS rfl hc1 isAgg45 sizeOf45 rfl rfl) <| .cons rfl (zp rfl (.cons rfl <| .cons rfl <| .nil) call37 (fun w m hK => by have hle_ := KC.le hK; have hA := KC.agree hK; have h_t := h_t.mono hle_; exact deepR_c t (left := 201) hA h_t (by omega))) <| .cons rfl (zAU rfl rfl) <| .nil) fun a2 w2 m2 hst2 hle2 hk2 => ?_
 have hfr2 := hk2.fr (.o 1 <| .n 5 <| .nil)
 replace h_t := h_t.mono hle2
 replace hc1 := hc1.mono hle2
 clear hst1 hfr1 hk2
 refine hK4 _ _ ?_
 refine zJ hfr2 rfl rfl (fun hb5 => ?_) (fun hb5 => ?_)
 ·try simp only [nqs] at hb5
  have hq : decide (zBj t ≤ 200) = false := by rw [decide_eq_false_iff_not]; unfold zEA at hb5; split at hb5 <;> omega
  refine zE fun _ hK5 => ?_
  refine rp0 hst2 hfr2 (.cons rfl (zH rfl) <| .nil) fun a3 w3 m3 hst3 hle3 hk3 => ?_
  have hfr3 := hk3.fr (.n 2 <| .nil)
  clear hst2 hfr2 hk3
  refine hK5 _ _ ?_
  refine zU ?_
  repeat (with_reducible first | refine zL ?_ | refine zI ?_)
  exact zV hst3 hfr3 rfl (.tmp rfl <| .nil) (by refine congrArg Value.bool ?_; rw [hq]; simp)
 ·try simp only [nqs] at hb5
  have hq : decide (zBj t ≤ 200) = true := by rw [decide_eq_true_eq]; unfold zEA at hb5; split at hb5 <;> omega
  refine zR ?_
  refine hK3 _ _ ?_
  refine zE fun _ hK7 => ?_
  refine rp0 hst2 hfr2 (.cons rfl (zS rfl hc1 isAgg45 sizeOf45 rfl rfl) <| .cons rfl (zp rfl (.cons rfl <| .nil) call51 (fun w m hK => by have hle_ := KC.le hK; have hA := KC.agree hK; have h_t := h_t.mono hle_; exact rightR_c t hA h_t)) <| .cons rfl (zH rfl) <| .nil) fun a3 w3 m3 hst3 hle3 hk3 => ?_
  have hfr3 := hk3.fr (.n 2 <| .nil)
  clear hst2 hfr2 hk3
  refine hK7 _ _ ?_
  refine zU ?_
  repeat (with_reducible first | refine zL ?_ | refine zI ?_)
  exact zV hst3 hfr3 rfl (.tmp rfl <| .nil) (by refine congrArg Value.bool ?_; rw [hq]; simp)
set_option maxHeartbeats 400000 in
theorem withR_c {w : World} {m : Mem} {o_l : Option Addr} {c_l : Nat} {l : List Int} {n : Int} (hA : Agree w m) (h_l : Ints m o_l l.length c_l l) (hbig : l.length ≤ 1073741824) : FnV Tryz.prog 75 #[.slice o_l l.length c_l, .int .i64 n] w m (fun _ m v => (MP.ints (ZC l n)).p m v) := by
 have hb_l := h_l.big; have hc_l := h_l.cap
 refine zY (vs := [_, _]) func75 rfl rfl rfl fun a0 hfr0 => ?_
 have hst0 := zX hA (zw [] _ w m)
 have hM : MLe m m := MLe.refl m
 refine zE fun _ hK1 => ?_
 refine rp0 hst0 hfr0 (.cons rfl (zH rfl) <| .nil) fun a1 w1 m1 hst1 hle1 hk1 => ?_
 have hfr1 := hk1.fr (.o 0 <| .o 1 <| .nil)
 replace h_l := h_l.mono hle1
 clear hst0 hfr0 hk1
 refine hK1 _ _ ?_
 refine zE fun _ hK2 => ?_
 refine zE fun _ hK3 => ?_
 refine rp0 hst1 hfr1 (.cons rfl (zH rfl) <| .nil) fun a2 w2 m2 hst2 hle2 hk2 => ?_
 have hfr2 := hk2.fr (.o 0 <| .o 1 <| .n 5 <| .nil)
 replace h_l := h_l.mono hle2
 clear hst1 hfr1 hk2
 refine hK3 _ _ ?_
 refine zT ?_
 refine z6 (T := [(0, _), (1, _)]) (fun (y : Nat) => ([(5, .int .i64 (y : Int))] : List (Nat × Value))) (fun _ => _) (fun (y : Nat) m => (y ≤ l.length) ∧ ((n ∈ l) = (n ∈ l.drop y))) (fun y => l.length - y) (0) ⟨hst2, MLe.refl _, hfr2.sub (.c <| .c <| .c <| .nil), ⟨Nat.zero_le _, rfl⟩⟩ fun y a3 w3 m3 hh3 => ?_
 have hst3 := hh3.st; have hle3 := hh3.le; have hfr3 := hh3.fr; have hrel := hh3.rel; clear hh3
 replace h_l := h_l.mono hle3
 clear hst2 hfr2
 obtain ⟨hyn, hrem⟩ := hrel
 have hlh3 := hle3
 refine zE fun _ hK5 => ?_
 refine zE fun _ hK6 => ?_
 refine rp0 hst3 hfr3 (.cons rfl (zG rfl) <| .cons rfl (zG rfl) <| .cons rfl (zt rfl underlying32) <| .cons rfl (ZG rfl rfl) <| .nil) fun a4 w4 m4 hst4 hle4 hk4 => ?_
 have hfr4 := hk4.fr (.o 5 <| .o 0 <| .o 1 <| .n 9 <| .nil)
 replace h_l := h_l.mono hle4
 have hlh4 := hlh3.trans hle4
 clear hst3 hfr3 hk4
 refine hK6 _ _ ?_
 refine zJ hfr4 rfl rfl (fun hb9 => ?_) (fun hb9 => ?_)
 ·try simp only [nqs] at hb9
  refine zR ?_
  refine hK5 _ _ ?_
  refine zE fun _ hK7 => ?_
  refine zT ?_
  refine zE fun _ hK8 => ?_
  obtain ⟨p9, vs9, x9, ho9, hd9, hm_x9, ht9, hcv9, hl9, hv9⟩ := h_l.nth (k := y) (by omega)
  cases ho9
  subst hv9
  try rw [hd9] at hrem
  try simp only [List.mem_cons] at hrem
  refine rp0 hst4 hfr4 (.cons rfl (zG rfl) <| .cons rfl (zG rfl) <| .cons rfl (zN (k := y) rfl rfl underlying32 sizeOf3 rfl (by omega)) <| .cons rfl (zr rfl hcv9 isAgg3 rfl) <| .cons rfl (zG rfl) <| .cons rfl (zq rfl rfl) <| .nil) fun a5 w5 m5 hst5 hle5 hk5 => ?_
  have hfr5 := hk5.fr (.o 5 <| .o 0 <| .o 1 <| .n 17 <| .nil)
  clear hst4 hfr4 hk5
  refine hK8 _ _ ?_
  refine zJ hfr5 rfl rfl (fun hb17 => ?_) (fun hb17 => ?_)
  ·try simp only [nqs] at hb17
   have hin : n ∈ l := by rw [hrem]; exact .inl hb17.symm
   refine zE fun _ hK10 => ?_
   refine rp0 hst5 hfr5 (.cons rfl (zG rfl) <| .cons rfl (zH rfl) <| .nil) fun a6 w6 m6 hst6 hle6 hk6 => ?_
   have hfr6 := hk6.fr (.o 5 <| .n 4 <| .nil)
   clear hst5 hfr5 hk6
   refine hK10 _ _ ?_
   refine zU ?_
   repeat (with_reducible first | refine zL ?_ | refine zI ?_)
   have zq1 := hle5.trans hle6
   replace h_l := h_l.mono zq1
   exact zV hst6 hfr6 rfl (.tmp rfl <| .nil) (⟨(some p9, c_l), by rw [zCp hin]; rfl, by rw [zCp hin]; exact h_l⟩)
  ·try simp only [nqs] at hb17
   refine zR ?_
   refine hK7 _ _ ?_
   refine rp0 hst5 hfr5 (.cons rfl (zG rfl) <| .cons rfl (zy rfl rfl ⟨by omega, by omega⟩) <| .cons rfl (zH rfl) <| .nil) fun a6 w6 m6 hst6 hle6 hk6 => ?_
   have hfr6 := hk6.fr (.o 0 <| .o 1 <| .n 5 <| .nil)
   clear hst5 hfr5 hk6
   have zq2 := hle5.trans hle6
   have hlh6 := hlh4.trans zq2
   exact ⟨y + 1, m6, by show l.length - (y + 1) < l.length - y; omega, ⟨hst6, hlh6, hfr6.sub (.c <| .c <| .c <| .nil), ⟨by show y + 1 ≤ l.length; omega, by rw [hrem]; simp only [eq_iff_iff]; constructor; (intro h; rcases h with h | h; (exact absurd h.symm hb17); exact h); exact .inr⟩⟩⟩
 ·try simp only [nqs] at hb9
  have hge : y = l.length := by omega
  rw [List.drop_of_length_le (by omega)] at hrem
  have hout : ¬ n ∈ l := by rw [hrem]; simp
  refine z7 ?_
  refine hK2 _ _ ?_
  refine zE fun _ hK12 => ?_
  obtain ⟨cs_13, hrw_13, hrd_13, hcl_13⟩ := h_l.reads
  replace hst4 := hst4.more (r := .free) trivial List.nodup_nil (by simp [Res.blocks])
  refine ra0 (tch := [(2, 0, (fun v => .row (nz v) _ _ _ _)), (5, 0, (fun v => .row (nz v) _ _ _ _))]) hst4 hfr4 (.cons rfl (zAG underlying32 sizeOf3) <| .cons rfl (zG rfl) <| .consT rfl rfl (fun _ => rfl) rfl (ze 19 rfl rfl rfl fun y19 => Zt (size := 1) (bytes := 8) rfl rfl (fun _ => .inr ⟨rfl, rfl, rfl, rfl⟩) underlying32 type3 rfl rfl rfl rfl (fun w m hK => hrw_13.mono (KC.le hK)) hcl_13 (by decide) hrd_13.one (by simp only [maxLen]; omega) (by omega)) <| .cons rfl (zG rfl) <| .cons rfl (ZQ (.cons rfl <| .nil) underlying32 sizeOf3 zeroValue3 rfl rfl rfl rfl) <| .consT rfl rfl (fun _ => rfl) rfl (ze 21 rfl rfl rfl fun y21 => ze 23 rfl rfl rfl fun y23 => Zt (size := 1) (bytes := 8) rfl rfl (fun _ => .inl rfl) underlying32 type3 rfl rfl rfl rfl (fun w m hK => .inr ⟨_, rfl, hK.2⟩) rfl (by decide) rfl (by simp only [maxLen]; omega) (by omega)) <| .consA 24 rfl rfl <| .nil) fun a5 w5 m5 hst5 hle5 hk5 => ?_
  have hfr5 := hk5.fr (.o 5 <| .nil)
  obtain ⟨⟨oz13, cz13⟩, e15, hrz13, hcz13⟩ := hk5.ex 21 rfl
  replace e15 : zu a5 21 = .slice oz13 (l).length cz13 := by rw [e15]; refine congrArg (fun q => Value.slice _ q _) ?_; first | omega | (simp only [List.length_append, List.length_cons, List.length_nil, List.nil_append, List.length_take, List.length_drop]; try omega)
  obtain ⟨⟨oz14, cz14⟩, e16, hrz14, hcz14⟩ := hk5.ex 24 rfl
  replace e16 : zu a5 24 = .slice oz14 ((l ++ [n])).length cz14 := by rw [e16]; refine congrArg (fun q => Value.slice _ q _) ?_; first | omega | (simp only [List.length_append, List.length_cons, List.length_nil, List.nil_append, List.length_take, List.length_drop]; try omega)
  replace hfr5 := hfr5.cons (hk5.same 4 rfl e16)
  replace hst5 := hst5.fin (L' := [_]) (.cons e15 <| .cons e16 <| .nil)
  clear hst4 hfr4 hk5
  replace hrd_13 := hrd_13.mono hle5
  have hsz14 : Ints m5 oz14 ((l ++ [n])).length cz14 (l ++ [n]) := Reads.sl ((Reads.nil.app hrd_13).app (Reads.single (vs := [_]) rfl rfl)) hrz14 (by decide) rfl (by have h := hcz14; first | omega | (simp only [List.length_append, List.length_cons, List.length_nil, List.nil_append, List.length_take, List.length_drop] at h ⊢; omega)) (by first | omega | (simp only [List.length_append, List.length_cons, List.length_nil, List.nil_append, List.length_take, List.length_drop]; omega))
  refine hK12 _ _ ?_
  refine zU ?_
  repeat (with_reducible first | refine zL ?_ | refine zI ?_)
  exact zV hst5 hfr5 rfl (.tmp rfl <| .nil) (⟨(oz14, cz14), by rw [zCu hout]; rfl, by rw [zCu hout]; exact hsz14⟩)
def MP.two (a b : List Int) : MP := MP.mem (fun y : (Option Addr × Nat) × (Option Addr × Nat) => .tuple #[.slice y.1.1 a.length y.1.2, .slice y.2.1 b.length y.2.2]) (fun y m => Ints m y.1.1 a.length y.1.2 a ∧ Ints m y.2.1 b.length y.2.2 b) fun hm h => ⟨h.1.mono hm, h.2.mono hm⟩
abbrev varsR_G (t : Ty) : Prop := ∀ {w : World} {m : Mem} {vs_t : List Value} {o_a : Option Addr} {c_a : Nat} {a : List Int} {o_b : Option Addr} {c_b : Nat} {b : List Int} (hA : Agree w m) (h_t : TyR m t vs_t) (h_a : Ints m o_a a.length c_a a) (h_b : Ints m o_b b.length c_b b) (hbig : a.length + b.length + 2 * ZH t ≤ 1073741824), FnV Tryz.prog 52 #[.agg vs_t.toArray, .slice o_a a.length c_a, .slice o_b b.length c_b] w m (fun _ m v => (MP.two (zi t (a, b)).1 (zi t (a, b)).2).p m v)
set_option maxHeartbeats 400000 in
theorem varsR_s {t : Ty} (ih : ∀ u ∈ t.args, varsR_G u) {w : World} {m : Mem} {vs_t : List Value} {o_a : Option Addr} {c_a : Nat} {a : List Int} {o_b : Option Addr} {c_b : Nat} {b : List Int} (hA : Agree w m) (h_t : TyR m t vs_t) (h_a : Ints m o_a a.length c_a a) (h_b : Ints m o_b b.length c_b b) (hbig : a.length + b.length + 2 * ZH t ≤ 1073741824) : FnV Tryz.prog 52 #[.agg vs_t.toArray, .slice o_a a.length c_a, .slice o_b b.length c_b] w m (fun _ m v => (MP.two (zi t (a, b)).1 (zi t (a, b)).2).p m v) := by
 obtain ⟨o_t, c_t, oL_t, cL_t, rfl, hk_t, hs_t, hi_t, hj_t, hr_t⟩ := h_t.open_
 have hbg_t := hk_t.big; have hcp_t := hk_t.cap; have hbs_t := hs_t.big; have hcs_t := hs_t.cap
 have hrw_t : RwR _ ⟨t.labels, t.rv⟩ _ := ⟨_, _, rfl, hs_t, hr_t⟩
 have hb_a := h_a.big; have hc_a := h_a.cap
 have hb_b := h_b.big; have hc_b := h_b.cap
 refine zY (vs := [_, _, _]) func52 rfl rfl rfl fun a0 hfr0 => ?_
 have hst0 := zX hA (zw [] _ w m)
 have hM : MLe m m := MLe.refl m
 have hce := Zy t
 have hw := zBM t (a, b)
 refine zE fun _ hK1 => ?_
 refine rp0 hst0 hfr0 (.cons rfl (ZA rfl rfl) <| .cons rfl (zH rfl) <| .cons rfl (zH rfl) <| .nil) fun a1 w1 m1 hst1 hle1 hk1 => ?_
 have hfr1 := hk1.fr (.o 1 <| .o 2 <| .nil)
 obtain ⟨g2, e2, hc3⟩ := hk1.ex 3 rfl
 replace hfr1 := hfr1.cons e2
 replace hk_t := hk_t.mono hle1
 replace h_a := h_a.mono hle1
 replace h_b := h_b.mono hle1
 clear hst0 hfr0 hk1
 refine hK1 _ _ ?_
 refine zE fun _ hK3 => ?_
 refine zE fun _ hK4 => ?_
 refine rp0 hst1 hfr1 (.cons rfl (zF (off := 0) rfl underlying45 rfl rfl sizeOf3 rfl) <| .cons rfl (zK rfl hc3 isAgg3 rfl) <| .cons rfl (zq rfl rfl) <| .nil) fun a2 w2 m2 hst2 hle2 hk2 => ?_
 have hfr2 := hk2.fr (.o 1 <| .o 2 <| .o 3 <| .n 11 <| .nil)
 replace hk_t := hk_t.mono hle2
 replace h_a := h_a.mono hle2
 replace h_b := h_b.mono hle2
 replace hc3 := hc3.mono hle2
 clear hst1 hfr1 hk2
 refine hK4 _ _ ?_
 refine zJ hfr2 rfl rfl (fun hb11 => ?_) (fun hb11 => ?_)
 ·try simp only [nqs] at hb11
  refine ra0 (tch := []) hst2 hfr2 (.cons rfl (zG rfl) <| .cons rfl (zF (off := 2) rfl underlying45 rfl rfl sizeOf3 rfl) <| .cons rfl (zK rfl hc3 isAgg3 rfl) <| .cons rfl (zZ (φ := MP.ints (ZC a t.var)) rfl (.cons rfl <| .cons rfl <| .nil) call75 (fun w m hK => by have hle_ := KC.le hK; have hA := KC.agree hK; have h_a := h_a.mono hle_; exact FnG.mono (withR_c (l := a) (n := t.var) hA h_a (by omega)) fun _ _ _ _ h => h)) <| .consA 15 rfl rfl <| .nil) fun a3 w3 m3 hst3 hle3 hk3 => ?_
  have hfr3 := hk3.fr (.o 2 <| .o 3 <| .nil)
  obtain ⟨⟨oW, cW⟩, e5, hW⟩ := hk3.ex 15 rfl
  replace hfr3 := hfr3.cons (hk3.same 1 rfl e5)
  clear hst2 hfr2 hk3
  dsimp only [MP.ints, MP.mem] at hW
  rw [if_pos hb11] at hw
  have hwl := zAC a t.var
  refine hK3 _ _ ?_
  refine zE fun _ hK6 => ?_
  refine zE fun _ hK7 => ?_
  refine rp0 hst3 hfr3 (.cons rfl (zH rfl) <| .nil) fun a4 w4 m4 hst4 hle4 hk4 => ?_
  have hfr4 := hk4.fr (.o 2 <| .o 3 <| .o 1 <| .n 8 <| .nil)
  clear hst3 hfr3 hk4
  refine hK7 _ _ ?_
  refine zT ?_
  have zq1 := hle3.trans hle4
  replace h_b := h_b.mono zq1
  replace hW := hW.mono hle4
  refine z6 (T := [(3, _)]) (fun (y : Nat × Option Addr × Nat × List Int × Option Addr × Nat × List Int) => ([(1, .slice y.2.1 y.2.2.2.1.length y.2.2.1), (2, .slice y.2.2.2.2.1 y.2.2.2.2.2.2.length y.2.2.2.2.2.1), (8, .int .i64 (y.1 : Int))] : List (Nat × Value))) (fun _ => _) (fun (y : Nat × Option Addr × Nat × List Int × Option Addr × Nat × List Int) m => (fun (y : Nat) (gao : Option Addr) (gap : Nat) (ga : List Int) (gbo : Option Addr) (gbp : Nat) (gb : List Int) => (y ≤ t.args.length) ∧ (Ints m gao ga.length gap ga) ∧ (Ints m gbo gb.length gbp gb) ∧ (zi t (a, b) = Zo t.kind t.rv y (t.args.drop y) (ga, gb)) ∧ (ga.length + gb.length + 2 * ZS (t.args.drop y) + (if y = 0 then 1 else 0) ≤ 1073741824)) y.1 y.2.1 y.2.2.1 y.2.2.2.1 y.2.2.2.2.1 y.2.2.2.2.2.1 y.2.2.2.2.2.2) (fun y => t.args.length - y.1) ((0, oW, cW, (ZC a t.var), o_b, c_b, b)) ⟨hst4, MLe.refl _, hfr4.sub (.c <| .c <| .c <| .c <| .nil), ⟨Nat.zero_le _, hW, h_b, by rw [hw, List.drop_zero], by rw [List.drop_zero, if_pos rfl]; dsimp only; omega⟩⟩ fun y a5 w5 m5 hh5 => ?_
  have hst5 := hh5.st; have hle5 := hh5.le; have hfr5 := hh5.fr; have hrel := hh5.rel; clear hh5
  clear hst4 hfr4
  obtain ⟨y, gao, gap, ga, gbo, gbp, gb⟩ := y
  dsimp only at hrel hfr5 hst5
  obtain ⟨hyn, hsl_ga, hsl_gb, hwk, hlen⟩ := hrel
  have hlh5 := hle5
  refine zE fun _ hK9 => ?_
  refine zE fun _ hK10 => ?_
  have zq2 := zq1.trans hle5
  replace hc3 := hc3.mono zq2
  refine rp0 hst5 hfr5 (.cons rfl (zG rfl) <| .cons rfl (zF (off := 3) rfl underlying45 rfl rfl sizeOf33 rfl) <| .cons rfl (zK rfl hc3 isAgg33 rfl) <| .cons rfl (zt rfl underlying33) <| .cons rfl (ZG rfl rfl) <| .nil) fun a6 w6 m6 hst6 hle6 hk6 => ?_
  have hfr6 := hk6.fr (.o 1 <| .o 2 <| .o 8 <| .o 3 <| .n 20 <| .nil)
  clear hst5 hfr5 hk6
  refine hK10 _ _ ?_
  refine zJ hfr6 rfl rfl (fun hb20 => ?_) (fun hb20 => ?_)
  ·try simp only [nqs] at hb20
   refine zR ?_
   refine hK9 _ _ ?_
   refine zE fun _ hK11 => ?_
   refine zT ?_
   refine zE fun _ hK12 => ?_
   have zq3 := zq2.trans hle6
   replace hk_t := hk_t.mono zq3
   obtain ⟨p13, vs13, x13, ho13, hd13, hm_x13, ht13, hcv13, hl13, hv13⟩ := hk_t.nth (k := y) (by omega)
   cases ho13
   obtain ⟨o13, c13, oL13, cL13, rfl, hkd13, hs13, hi13, hj13, hr13⟩ := hv13.open_
   have hbg13 := hkd13.big; have hcp13 := hkd13.cap; have hbs13 := hs13.big; have hcs13 := hs13.cap
   have hrw13 : RwR _ ⟨x13.labels, x13.rv⟩ _ := ⟨_, _, rfl, hs13, hr13⟩
   rw [hd13, Zq] at hwk
   rw [hd13, ZS] at hlen
   have hrm := Zu x13 (ga, gb)
   simp only [zBc] at hrm
   replace hc3 := hc3.mono hle6
   replace hsl_ga := hsl_ga.mono hle6
   replace hsl_gb := hsl_gb.mono hle6
   refine ra0 (tch := []) hst6 hfr6 (.cons rfl (zF (off := 3) rfl underlying45 rfl rfl sizeOf33 rfl) <| .cons rfl (zK rfl hc3 isAgg33 rfl) <| .cons rfl (zG rfl) <| .cons rfl (zN (k := y) rfl rfl underlying33 sizeOf45 rfl (by omega)) <| .cons rfl (zS rfl hcv13 isAgg45 sizeOf45 rfl rfl) <| .cons rfl (zG rfl) <| .cons rfl (zG rfl) <| .cons rfl (zZ (φ := MP.two (zi x13 (ga, gb)).1 (zi x13 (ga, gb)).2) rfl (.cons rfl <| .cons rfl <| .cons rfl <| .nil) call52 (fun w m hK => by have hle_ := KC.le hK; have hA := KC.agree hK; have hsl_ga := hsl_ga.mono hle_; have hsl_gb := hsl_gb.mono hle_; have hv13 := hv13.mono hle_; exact FnG.mono (ih _ hm_x13 hA hv13 hsl_ga hsl_gb (by omega)) fun _ _ _ _ h => h)) <| .cons rfl (ZK 31 rfl rfl rfl fun y31 => zG rfl) <| .cons rfl (ZK 23 rfl rfl rfl fun y23 => zk rfl rfl) <| .cons rfl (ZK 23 rfl rfl rfl fun y23 => zk rfl rfl) <| .consA 32 rfl rfl <| .consA 33 rfl rfl <| .nil) fun a7 w7 m7 hst7 hle7 hk7 => ?_
   have hfr7 := hk7.fr (.o 8 <| .o 3 <| .nil)
   obtain ⟨⟨⟨o1, c1⟩, q1⟩, e14, hI1, _⟩ := hk7.ex 32 rfl
   obtain ⟨⟨q2, o2, c2⟩, e15, _, hI2⟩ := hk7.ex 33 rfl
   replace hfr7 := hfr7.cons (hk7.same 1 rfl e14)
   replace hfr7 := hfr7.cons (hk7.same 2 rfl e15)
   clear hst6 hfr6 hk7
   refine hK12 _ _ ?_
   refine zE fun _ hK16 => ?_
   replace hc3 := hc3.mono hle7
   refine rp0 hst7 hfr7 (.cons rfl (zG rfl) <| .cons rfl (zq rfl rfl) <| .cons rfl (zG rfl) <| .cons rfl (zF (off := 0) rfl underlying45 rfl rfl sizeOf3 rfl) <| .cons rfl (zK rfl hc3 isAgg3 rfl) <| .cons rfl (zq rfl rfl) <| .cons rfl (z8 rfl rfl rfl) <| .cons rfl (zG rfl) <| .cons rfl (zF (off := 4) rfl underlying45 rfl rfl sizeOf43 rfl) <| .cons rfl (zF (off := 1) rfl underlying43 rfl rfl sizeOf3 rfl) <| .cons rfl (zK rfl (hc3.drop 4) isAgg3 rfl) <| .cons rfl (zAU rfl rfl) <| .cons rfl (z8 rfl rfl rfl) <| .nil) fun a8 w8 m8 hst8 hle8 hk8 => ?_
   have hfr8 := hk8.fr (.o 8 <| .o 3 <| .o 1 <| .o 2 <| .n 46 <| .nil)
   clear hst7 hfr7 hk8
   refine hK16 _ _ ?_
   refine zJ hfr8 rfl rfl (fun hb46 => ?_) (fun hb46 => ?_)
   ·try simp only [nqs] at hb46
    replace hc3 := hc3.mono hle8
    replace hI2 := hI2.mono hle8
    refine ra0 (tch := []) hst8 hfr8 (.cons rfl (zG rfl) <| .cons rfl (zF (off := 4) rfl underlying45 rfl rfl sizeOf43 rfl) <| .cons rfl (zF (off := 1) rfl underlying43 rfl rfl sizeOf3 rfl) <| .cons rfl (zK rfl (hc3.drop 4) isAgg3 rfl) <| .cons rfl (zZ (φ := MP.ints (ZC (zi x13 (ga, gb)).2 t.rv)) rfl (.cons rfl <| .cons rfl <| .nil) call75 (fun w m hK => by have hle_ := KC.le hK; have hA := KC.agree hK; have hI2 := hI2.mono hle_; exact FnG.mono (withR_c (l := (zi x13 (ga, gb)).2) (n := t.rv) hA hI2 (by omega)) fun _ _ _ _ h => h)) <| .consA 51 rfl rfl <| .nil) fun a9 w9 m9 hst9 hle9 hk9 => ?_
    have hfr9 := hk9.fr (.o 8 <| .o 3 <| .o 1 <| .nil)
    obtain ⟨⟨o3, c3⟩, e17, hI3⟩ := hk9.ex 51 rfl
    replace hfr9 := hfr9.cons (hk9.same 2 rfl e17)
    clear hst8 hfr8 hk9
    dsimp only [MP.ints, MP.mem] at hI3
    refine hK11 _ _ ?_
    refine rp0 hst9 hfr9 (.cons rfl (zG rfl) <| .cons rfl (zy rfl rfl ⟨by omega, by omega⟩) <| .cons rfl (zH rfl) <| .nil) fun a10 w10 m10 hst10 hle10 hk10 => ?_
    have hfr10 := hk10.fr (.o 3 <| .o 1 <| .o 2 <| .n 8 <| .nil)
    clear hst9 hfr9 hk10
    have zq4 := hle9.trans hle10
    have zq5 := hle8.trans zq4
    replace hI1 := hI1.mono zq5
    replace hI3 := hI3.mono hle10
    have zq6 := hle7.trans zq5
    have zq7 := hle6.trans zq6
    have hlh10 := hlh5.trans zq7
    exact ⟨(y + 1, o1, c1, (zi x13 (ga, gb)).1, o3, c3, (ZC (zi x13 (ga, gb)).2 t.rv)), m10, by show t.args.length - (y + 1) < t.args.length - y; omega, ⟨hst10, hlh10, hfr10.sub (.c <| .c <| .c <| .c <| .nil), ⟨by show y + 1 ≤ t.args.length; omega, hI1, hI3, by rw [hwk, if_pos (show y = 0 ∧ t.kind = 5 ∧ 0 < t.rv by omega)], by have h8 := zAC (zi x13 (ga, gb)).2 t.rv; rw [if_pos (show y = 0 by omega)] at hlen; rw [if_neg (Nat.succ_ne_zero y)]; show (zi x13 (ga, gb)).1.length + (ZC (zi x13 (ga, gb)).2 t.rv).length + 2 * ZS (t.args.drop (y + 1)) + 0 ≤ _; omega⟩⟩⟩
   ·try simp only [nqs] at hb46
    refine zR ?_
    refine hK11 _ _ ?_
    refine rp0 hst8 hfr8 (.cons rfl (zG rfl) <| .cons rfl (zy rfl rfl ⟨by omega, by omega⟩) <| .cons rfl (zH rfl) <| .nil) fun a9 w9 m9 hst9 hle9 hk9 => ?_
    have hfr9 := hk9.fr (.o 3 <| .o 1 <| .o 2 <| .n 8 <| .nil)
    clear hst8 hfr8 hk9
    have zq8 := hle8.trans hle9
    replace hI1 := hI1.mono zq8
    replace hI2 := hI2.mono zq8
    have zq9 := hle7.trans zq8
    have zq10 := hle6.trans zq9
    have hlh9 := hlh5.trans zq10
    exact ⟨(y + 1, o1, c1, (zi x13 (ga, gb)).1, o2, c2, (zi x13 (ga, gb)).2), m9, by show t.args.length - (y + 1) < t.args.length - y; omega, ⟨hst9, hlh9, hfr9.sub (.c <| .c <| .c <| .c <| .nil), ⟨by show y + 1 ≤ t.args.length; omega, hI1, hI2, by rw [hwk, if_neg (by omega)], by rw [if_neg (Nat.succ_ne_zero y)]; show (zi x13 (ga, gb)).1.length + (zi x13 (ga, gb)).2.length + 2 * ZS (t.args.drop (y + 1)) + 0 ≤ _; omega⟩⟩⟩
  ·try simp only [nqs] at hb20
   have hge : y = t.args.length := by omega
   rw [List.drop_of_length_le (by omega), Zo] at hwk
   refine z7 ?_
   refine hK6 _ _ ?_
   refine zE fun _ hK18 => ?_
   refine rp0 hst6 hfr6 (.cons rfl (zG rfl) <| .cons rfl (zG rfl) <| .cons rfl (zH rfl) <| .cons rfl (zH rfl) <| .nil) fun a7 w7 m7 hst7 hle7 hk7 => ?_
   have hfr7 := hk7.fr (.o 1 <| .o 2 <| .o 8 <| .n 6 <| .n 7 <| .nil)
   clear hst6 hfr6 hk7
   refine hK18 _ _ ?_
   refine zU ?_
   repeat (with_reducible first | refine zL ?_ | refine zI ?_)
   have zq11 := hle6.trans hle7
   replace hsl_ga := hsl_ga.mono zq11
   replace hsl_gb := hsl_gb.mono zq11
   exact zV hst7 hfr7 rfl (.tmp rfl <| .tmp rfl <| .nil) (⟨((gao, gap), (gbo, gbp)), by rw [hwk]; rfl, by rw [hwk]; exact ⟨hsl_ga, hsl_gb⟩⟩)
 ·try simp only [nqs] at hb11
  rw [if_neg hb11] at hw
  refine zR ?_
  refine hK3 _ _ ?_
  refine zE fun _ hK20 => ?_
  refine zE fun _ hK21 => ?_
  refine rp0 hst2 hfr2 (.cons rfl (zH rfl) <| .nil) fun a3 w3 m3 hst3 hle3 hk3 => ?_
  have hfr3 := hk3.fr (.o 1 <| .o 2 <| .o 3 <| .n 8 <| .nil)
  clear hst2 hfr2 hk3
  refine hK21 _ _ ?_
  refine zT ?_
  replace h_a := h_a.mono hle3
  replace h_b := h_b.mono hle3
  refine z6 (T := [(3, _)]) (fun (y : Nat × Option Addr × Nat × List Int × Option Addr × Nat × List Int) => ([(1, .slice y.2.1 y.2.2.2.1.length y.2.2.1), (2, .slice y.2.2.2.2.1 y.2.2.2.2.2.2.length y.2.2.2.2.2.1), (8, .int .i64 (y.1 : Int))] : List (Nat × Value))) (fun _ => _) (fun (y : Nat × Option Addr × Nat × List Int × Option Addr × Nat × List Int) m => (fun (y : Nat) (gao : Option Addr) (gap : Nat) (ga : List Int) (gbo : Option Addr) (gbp : Nat) (gb : List Int) => (y ≤ t.args.length) ∧ (Ints m gao ga.length gap ga) ∧ (Ints m gbo gb.length gbp gb) ∧ (zi t (a, b) = Zo t.kind t.rv y (t.args.drop y) (ga, gb)) ∧ (ga.length + gb.length + 2 * ZS (t.args.drop y) + (if y = 0 then 1 else 0) ≤ 1073741824)) y.1 y.2.1 y.2.2.1 y.2.2.2.1 y.2.2.2.2.1 y.2.2.2.2.2.1 y.2.2.2.2.2.2) (fun y => t.args.length - y.1) ((0, o_a, c_a, a, o_b, c_b, b)) ⟨hst3, MLe.refl _, hfr3.sub (.c <| .c <| .c <| .c <| .nil), ⟨Nat.zero_le _, h_a, h_b, by rw [hw, List.drop_zero], by rw [List.drop_zero, if_pos rfl]; dsimp only; omega⟩⟩ fun y a4 w4 m4 hh4 => ?_
  have hst4 := hh4.st; have hle4 := hh4.le; have hfr4 := hh4.fr; have hrel := hh4.rel; clear hh4
  clear hst3 hfr3
  obtain ⟨y, gao, gap, ga, gbo, gbp, gb⟩ := y
  dsimp only at hrel hfr4 hst4
  obtain ⟨hyn, hsl_ga, hsl_gb, hwk, hlen⟩ := hrel
  have hlh4 := hle4
  refine zE fun _ hK23 => ?_
  refine zE fun _ hK24 => ?_
  have zq12 := hle3.trans hle4
  replace hc3 := hc3.mono zq12
  refine rp0 hst4 hfr4 (.cons rfl (zG rfl) <| .cons rfl (zF (off := 3) rfl underlying45 rfl rfl sizeOf33 rfl) <| .cons rfl (zK rfl hc3 isAgg33 rfl) <| .cons rfl (zt rfl underlying33) <| .cons rfl (ZG rfl rfl) <| .nil) fun a5 w5 m5 hst5 hle5 hk5 => ?_
  have hfr5 := hk5.fr (.o 1 <| .o 2 <| .o 8 <| .o 3 <| .n 20 <| .nil)
  clear hst4 hfr4 hk5
  refine hK24 _ _ ?_
  refine zJ hfr5 rfl rfl (fun hb20 => ?_) (fun hb20 => ?_)
  ·try simp only [nqs] at hb20
   refine zR ?_
   refine hK23 _ _ ?_
   refine zE fun _ hK25 => ?_
   refine zT ?_
   refine zE fun _ hK26 => ?_
   have zq13 := zq12.trans hle5
   replace hk_t := hk_t.mono zq13
   obtain ⟨p27, vs27, x27, ho27, hd27, hm_x27, ht27, hcv27, hl27, hv27⟩ := hk_t.nth (k := y) (by omega)
   cases ho27
   obtain ⟨o27, c27, oL27, cL27, rfl, hkd27, hs27, hi27, hj27, hr27⟩ := hv27.open_
   have hbg27 := hkd27.big; have hcp27 := hkd27.cap; have hbs27 := hs27.big; have hcs27 := hs27.cap
   have hrw27 : RwR _ ⟨x27.labels, x27.rv⟩ _ := ⟨_, _, rfl, hs27, hr27⟩
   rw [hd27, Zq] at hwk
   rw [hd27, ZS] at hlen
   have hrm := Zu x27 (ga, gb)
   simp only [zBc] at hrm
   replace hc3 := hc3.mono hle5
   replace hsl_ga := hsl_ga.mono hle5
   replace hsl_gb := hsl_gb.mono hle5
   refine ra0 (tch := []) hst5 hfr5 (.cons rfl (zF (off := 3) rfl underlying45 rfl rfl sizeOf33 rfl) <| .cons rfl (zK rfl hc3 isAgg33 rfl) <| .cons rfl (zG rfl) <| .cons rfl (zN (k := y) rfl rfl underlying33 sizeOf45 rfl (by omega)) <| .cons rfl (zS rfl hcv27 isAgg45 sizeOf45 rfl rfl) <| .cons rfl (zG rfl) <| .cons rfl (zG rfl) <| .cons rfl (zZ (φ := MP.two (zi x27 (ga, gb)).1 (zi x27 (ga, gb)).2) rfl (.cons rfl <| .cons rfl <| .cons rfl <| .nil) call52 (fun w m hK => by have hle_ := KC.le hK; have hA := KC.agree hK; have hsl_ga := hsl_ga.mono hle_; have hsl_gb := hsl_gb.mono hle_; have hv27 := hv27.mono hle_; exact FnG.mono (ih _ hm_x27 hA hv27 hsl_ga hsl_gb (by omega)) fun _ _ _ _ h => h)) <| .cons rfl (ZK 31 rfl rfl rfl fun y31 => zG rfl) <| .cons rfl (ZK 23 rfl rfl rfl fun y23 => zk rfl rfl) <| .cons rfl (ZK 23 rfl rfl rfl fun y23 => zk rfl rfl) <| .consA 32 rfl rfl <| .consA 33 rfl rfl <| .nil) fun a6 w6 m6 hst6 hle6 hk6 => ?_
   have hfr6 := hk6.fr (.o 8 <| .o 3 <| .nil)
   obtain ⟨⟨⟨o1, c1⟩, q1⟩, e28, hI1, _⟩ := hk6.ex 32 rfl
   obtain ⟨⟨q2, o2, c2⟩, e29, _, hI2⟩ := hk6.ex 33 rfl
   replace hfr6 := hfr6.cons (hk6.same 1 rfl e28)
   replace hfr6 := hfr6.cons (hk6.same 2 rfl e29)
   clear hst5 hfr5 hk6
   refine hK26 _ _ ?_
   refine zE fun _ hK30 => ?_
   replace hc3 := hc3.mono hle6
   refine rp0 hst6 hfr6 (.cons rfl (zG rfl) <| .cons rfl (zq rfl rfl) <| .cons rfl (zG rfl) <| .cons rfl (zF (off := 0) rfl underlying45 rfl rfl sizeOf3 rfl) <| .cons rfl (zK rfl hc3 isAgg3 rfl) <| .cons rfl (zq rfl rfl) <| .cons rfl (z8 rfl rfl rfl) <| .cons rfl (zG rfl) <| .cons rfl (zF (off := 4) rfl underlying45 rfl rfl sizeOf43 rfl) <| .cons rfl (zF (off := 1) rfl underlying43 rfl rfl sizeOf3 rfl) <| .cons rfl (zK rfl (hc3.drop 4) isAgg3 rfl) <| .cons rfl (zAU rfl rfl) <| .cons rfl (z8 rfl rfl rfl) <| .nil) fun a7 w7 m7 hst7 hle7 hk7 => ?_
   have hfr7 := hk7.fr (.o 8 <| .o 3 <| .o 1 <| .o 2 <| .n 46 <| .nil)
   clear hst6 hfr6 hk7
   refine hK30 _ _ ?_
   refine zJ hfr7 rfl rfl (fun hb46 => ?_) (fun hb46 => ?_)
   ·try simp only [nqs] at hb46
    replace hc3 := hc3.mono hle7
    replace hI2 := hI2.mono hle7
    refine ra0 (tch := []) hst7 hfr7 (.cons rfl (zG rfl) <| .cons rfl (zF (off := 4) rfl underlying45 rfl rfl sizeOf43 rfl) <| .cons rfl (zF (off := 1) rfl underlying43 rfl rfl sizeOf3 rfl) <| .cons rfl (zK rfl (hc3.drop 4) isAgg3 rfl) <| .cons rfl (zZ (φ := MP.ints (ZC (zi x27 (ga, gb)).2 t.rv)) rfl (.cons rfl <| .cons rfl <| .nil) call75 (fun w m hK => by have hle_ := KC.le hK; have hA := KC.agree hK; have hI2 := hI2.mono hle_; exact FnG.mono (withR_c (l := (zi x27 (ga, gb)).2) (n := t.rv) hA hI2 (by omega)) fun _ _ _ _ h => h)) <| .consA 51 rfl rfl <| .nil) fun a8 w8 m8 hst8 hle8 hk8 => ?_
    have hfr8 := hk8.fr (.o 8 <| .o 3 <| .o 1 <| .nil)
    obtain ⟨⟨o3, c3⟩, e31, hI3⟩ := hk8.ex 51 rfl
    replace hfr8 := hfr8.cons (hk8.same 2 rfl e31)
    clear hst7 hfr7 hk8
    dsimp only [MP.ints, MP.mem] at hI3
    refine hK25 _ _ ?_
    refine rp0 hst8 hfr8 (.cons rfl (zG rfl) <| .cons rfl (zy rfl rfl ⟨by omega, by omega⟩) <| .cons rfl (zH rfl) <| .nil) fun a9 w9 m9 hst9 hle9 hk9 => ?_
    have hfr9 := hk9.fr (.o 3 <| .o 1 <| .o 2 <| .n 8 <| .nil)
    clear hst8 hfr8 hk9
    have zq14 := hle8.trans hle9
    have zq15 := hle7.trans zq14
    replace hI1 := hI1.mono zq15
    replace hI3 := hI3.mono hle9
    have zq16 := hle6.trans zq15
    have zq17 := hle5.trans zq16
    have hlh9 := hlh4.trans zq17
    exact ⟨(y + 1, o1, c1, (zi x27 (ga, gb)).1, o3, c3, (ZC (zi x27 (ga, gb)).2 t.rv)), m9, by show t.args.length - (y + 1) < t.args.length - y; omega, ⟨hst9, hlh9, hfr9.sub (.c <| .c <| .c <| .c <| .nil), ⟨by show y + 1 ≤ t.args.length; omega, hI1, hI3, by rw [hwk, if_pos (show y = 0 ∧ t.kind = 5 ∧ 0 < t.rv by omega)], by have h8 := zAC (zi x27 (ga, gb)).2 t.rv; rw [if_pos (show y = 0 by omega)] at hlen; rw [if_neg (Nat.succ_ne_zero y)]; show (zi x27 (ga, gb)).1.length + (ZC (zi x27 (ga, gb)).2 t.rv).length + 2 * ZS (t.args.drop (y + 1)) + 0 ≤ _; omega⟩⟩⟩
   ·try simp only [nqs] at hb46
    refine zR ?_
    refine hK25 _ _ ?_
    refine rp0 hst7 hfr7 (.cons rfl (zG rfl) <| .cons rfl (zy rfl rfl ⟨by omega, by omega⟩) <| .cons rfl (zH rfl) <| .nil) fun a8 w8 m8 hst8 hle8 hk8 => ?_
    have hfr8 := hk8.fr (.o 3 <| .o 1 <| .o 2 <| .n 8 <| .nil)
    clear hst7 hfr7 hk8
    have zq18 := hle7.trans hle8
    replace hI1 := hI1.mono zq18
    replace hI2 := hI2.mono zq18
    have zq19 := hle6.trans zq18
    have zq20 := hle5.trans zq19
    have hlh8 := hlh4.trans zq20
    exact ⟨(y + 1, o1, c1, (zi x27 (ga, gb)).1, o2, c2, (zi x27 (ga, gb)).2), m8, by show t.args.length - (y + 1) < t.args.length - y; omega, ⟨hst8, hlh8, hfr8.sub (.c <| .c <| .c <| .c <| .nil), ⟨by show y + 1 ≤ t.args.length; omega, hI1, hI2, by rw [hwk, if_neg (by omega)], by rw [if_neg (Nat.succ_ne_zero y)]; show (zi x27 (ga, gb)).1.length + (zi x27 (ga, gb)).2.length + 2 * ZS (t.args.drop (y + 1)) + 0 ≤ _; omega⟩⟩⟩
  ·try simp only [nqs] at hb20
   have hge : y = t.args.length := by omega
   rw [List.drop_of_length_le (by omega), Zo] at hwk
   refine z7 ?_
   refine hK20 _ _ ?_
   refine zE fun _ hK32 => ?_
   refine rp0 hst5 hfr5 (.cons rfl (zG rfl) <| .cons rfl (zG rfl) <| .cons rfl (zH rfl) <| .cons rfl (zH rfl) <| .nil) fun a6 w6 m6 hst6 hle6 hk6 => ?_
   have hfr6 := hk6.fr (.o 1 <| .o 2 <| .o 8 <| .n 6 <| .n 7 <| .nil)
   clear hst5 hfr5 hk6
   refine hK32 _ _ ?_
   refine zU ?_
   repeat (with_reducible first | refine zL ?_ | refine zI ?_)
   have zq21 := hle5.trans hle6
   replace hsl_ga := hsl_ga.mono zq21
   replace hsl_gb := hsl_gb.mono zq21
   exact zV hst6 hfr6 rfl (.tmp rfl <| .tmp rfl <| .nil) (⟨((gao, gap), (gbo, gbp)), by rw [hwk]; rfl, by rw [hwk]; exact ⟨hsl_ga, hsl_gb⟩⟩)
theorem varsR_c (t : Ty) : varsR_G t := Ty.rec_ (p := varsR_G) (fun t ih => varsR_s ih) t
set_option maxHeartbeats 400000 in
theorem vars0R_c {w : World} {m : Mem} {t : Ty} {vs_t : List Value} (hA : Agree w m) (h_t : TyR m t vs_t) (hbig : 2 * ZH t ≤ 1073741824) : FnV Tryz.prog 33 #[.agg vs_t.toArray] w m (fun _ m v => (MP.two (zi t ([], [])).1 (zi t ([], [])).2).p m v) := by
 obtain ⟨o_t, c_t, oL_t, cL_t, rfl, hk_t, hs_t, hi_t, hj_t, hr_t⟩ := h_t.open_
 have hbg_t := hk_t.big; have hcp_t := hk_t.cap; have hbs_t := hs_t.big; have hcs_t := hs_t.cap
 have hrw_t : RwR _ ⟨t.labels, t.rv⟩ _ := ⟨_, _, rfl, hs_t, hr_t⟩
 refine zY (vs := [_]) func33 rfl rfl rfl fun a0 hfr0 => ?_
 have hst0 := zX hA (zw [] _ w m)
 have hM : MLe m m := MLe.refl m
 refine zE fun _ hK1 => ?_
 refine rp0 hst0 hfr0 (.cons rfl (ZA rfl rfl) <| .cons rfl (zH rfl) <| .cons rfl (zH rfl) <| .nil) fun a1 w1 m1 hst1 hle1 hk1 => ?_
 have hfr1 := hk1.fr (.nil)
 obtain ⟨g2, e2, hc1⟩ := hk1.ex 1 rfl
 replace hfr1 := hfr1.cons e2
 replace h_t := h_t.mono hle1
 clear hst0 hfr0 hk1
 refine hK1 _ _ ?_
 refine zE fun _ hK3 => ?_
 refine ra0 (tch := []) hst1 hfr1 (.cons rfl (zS rfl hc1 isAgg45 sizeOf45 rfl rfl) <| .cons rfl (zZ (φ := MP.two (zi t ([], [])).1 (zi t ([], [])).2) rfl (.cons rfl <| .cons rfl <| .cons rfl <| .nil) call52 (fun w m hK => by have hle_ := KC.le hK; have hA := KC.agree hK; have h_t := h_t.mono hle_; exact FnG.mono (varsR_c t (a := []) (b := []) hA h_t Sl.empty Sl.empty (by simpa using hbig)) fun _ _ _ _ h => h)) <| .cons rfl (ZK 5 rfl rfl rfl fun y5 => zk rfl rfl) <| .cons rfl (ZK 5 rfl rfl rfl fun y5 => zk rfl rfl) <| .consA 6 rfl rfl <| .consA 7 rfl rfl <| .nil) fun a2 w2 m2 hst2 hle2 hk2 => ?_
 have hfr2 := hk2.fr (.nil)
 obtain ⟨⟨⟨o1, c1⟩, q1⟩, e4, hI1, _⟩ := hk2.ex 6 rfl
 obtain ⟨⟨q2, o2, c2⟩, e5, _, hI2⟩ := hk2.ex 7 rfl
 replace hfr2 := hfr2.cons (hk2.same 2 rfl e4)
 replace hfr2 := hfr2.cons (hk2.same 3 rfl e5)
 clear hst1 hfr1 hk2
 refine hK3 _ _ ?_
 refine zU ?_
 repeat (with_reducible first | refine zL ?_ | refine zI ?_)
 exact zV hst2 hfr2 rfl (.tmp rfl <| .tmp rfl <| .nil) (⟨((o1, c1), (o2, c2)), rfl, hI1, hI2⟩)
abbrev count_G (t : Ty) : Prop := ∀ {w : World} {m : Mem} {vs_t : List Value} (hA : Agree w m) (h_t : TyR m t vs_t) (hb : ZH t ≤ 1073741824), FnV Tryz.prog 25 #[.agg vs_t.toArray] w m (fun _ _ v => v = .int .i64 (ZH t : Int))
set_option maxHeartbeats 400000 in
theorem count_s {t : Ty} (ih : ∀ u ∈ t.args, count_G u) {w : World} {m : Mem} {vs_t : List Value} (hA : Agree w m) (h_t : TyR m t vs_t) (hb : ZH t ≤ 1073741824) : FnV Tryz.prog 25 #[.agg vs_t.toArray] w m (fun _ _ v => v = .int .i64 (ZH t : Int)) := by
 obtain ⟨o_t, c_t, oL_t, cL_t, rfl, hk_t, hs_t, hi_t, hj_t, hr_t⟩ := h_t.open_
 have hbg_t := hk_t.big; have hcp_t := hk_t.cap; have hbs_t := hs_t.big; have hcs_t := hs_t.cap
 have hrw_t : RwR _ ⟨t.labels, t.rv⟩ _ := ⟨_, _, rfl, hs_t, hr_t⟩
 refine zY (vs := [_]) func25 rfl rfl rfl fun a0 hfr0 => ?_
 have hst0 := zX hA (zw [] _ w m)
 have hM : MLe m m := MLe.refl m
 have hce := Zy t
 have hbk := fun u (hu : u ∈ t.args) => zBX hu
 refine zE fun _ hK1 => ?_
 refine rp0 hst0 hfr0 (.cons rfl (ZA rfl rfl) <| .cons rfl (zH rfl) <| .nil) fun a1 w1 m1 hst1 hle1 hk1 => ?_
 have hfr1 := hk1.fr (.nil)
 obtain ⟨g2, e2, hc1⟩ := hk1.ex 1 rfl
 replace hfr1 := hfr1.cons e2
 replace h_t := h_t.mono hle1
 replace hk_t := hk_t.mono hle1
 replace hs_t := hs_t.mono hle1
 replace hrw_t := hrw_t.mono hle1
 clear hst0 hfr0 hk1
 refine hK1 _ _ ?_
 refine zE fun _ hK3 => ?_
 refine rp0 hst1 hfr1 (.cons rfl (zH rfl) <| .nil) fun a2 w2 m2 hst2 hle2 hk2 => ?_
 have hfr2 := hk2.fr (.o 1 <| .n 3 <| .nil)
 replace h_t := h_t.mono hle2
 replace hk_t := hk_t.mono hle2
 replace hs_t := hs_t.mono hle2
 replace hrw_t := hrw_t.mono hle2
 replace hc1 := hc1.mono hle2
 clear hst1 hfr1 hk2
 refine hK3 _ _ ?_
 refine zE fun _ hK4 => ?_
 refine zE fun _ hK5 => ?_
 refine rp0 hst2 hfr2 (.cons rfl (zH rfl) <| .nil) fun a3 w3 m3 hst3 hle3 hk3 => ?_
 have hfr3 := hk3.fr (.o 1 <| .o 3 <| .n 4 <| .nil)
 replace h_t := h_t.mono hle3
 replace hk_t := hk_t.mono hle3
 replace hs_t := hs_t.mono hle3
 replace hrw_t := hrw_t.mono hle3
 replace hc1 := hc1.mono hle3
 clear hst2 hfr2 hk3
 refine hK5 _ _ ?_
 refine zT ?_
 refine z6 (T := [(1, _)]) (fun (y : Nat × Int) => ([(3, .int .i64 y.2), (4, .int .i64 (y.1 : Int))] : List (Nat × Value))) (fun _ => _) (fun (y : Nat × Int) m => (fun (y : Nat) (a : Int) => (y ≤ t.args.length) ∧ (a + ZS (t.args.drop y) = (ZH t : Int)) ∧ (0 ≤ a)) y.1 y.2) (fun y => t.args.length - y.1) ((0, 1)) ⟨hst3, MLe.refl _, hfr3.sub (.c <| .c <| .c <| .nil), ⟨Nat.zero_le _, by rw [List.drop_zero]; omega, by omega⟩⟩ fun y a4 w4 m4 hh4 => ?_
 have hst4 := hh4.st; have hle4 := hh4.le; have hfr4 := hh4.fr; have hrel := hh4.rel; clear hh4
 replace h_t := h_t.mono hle4
 replace hk_t := hk_t.mono hle4
 replace hs_t := hs_t.mono hle4
 replace hrw_t := hrw_t.mono hle4
 replace hc1 := hc1.mono hle4
 clear hst3 hfr3
 obtain ⟨y, a⟩ := y
 dsimp only at hrel hfr4 hst4
 obtain ⟨hyn, ha, ha0⟩ := hrel
 have hlh4 := hle4
 refine zE fun _ hK7 => ?_
 refine zE fun _ hK8 => ?_
 refine rp0 hst4 hfr4 (.cons rfl (zG rfl) <| .cons rfl (zF (off := 3) rfl underlying45 rfl rfl sizeOf33 rfl) <| .cons rfl (zK rfl hc1 isAgg33 rfl) <| .cons rfl (zt rfl underlying33) <| .cons rfl (ZG rfl rfl) <| .nil) fun a5 w5 m5 hst5 hle5 hk5 => ?_
 have hfr5 := hk5.fr (.o 3 <| .o 4 <| .o 1 <| .n 9 <| .nil)
 replace h_t := h_t.mono hle5
 replace hk_t := hk_t.mono hle5
 replace hs_t := hs_t.mono hle5
 replace hrw_t := hrw_t.mono hle5
 replace hc1 := hc1.mono hle5
 have hlh5 := hlh4.trans hle5
 clear hst4 hfr4 hk5
 refine hK8 _ _ ?_
 refine zJ hfr5 rfl rfl (fun hb9 => ?_) (fun hb9 => ?_)
 ·try simp only [nqs] at hb9
  refine zR ?_
  refine hK7 _ _ ?_
  refine zE fun _ hK9 => ?_
  refine zT ?_
  obtain ⟨p10, vs10, x10, ho10, hd10, hm_x10, ht10, hcv10, hl10, hv10⟩ := hk_t.nth (k := y) (by omega)
  cases ho10
  obtain ⟨o10, c10, oL10, cL10, rfl, hkd10, hs10, hi10, hj10, hr10⟩ := hv10.open_
  have hbg10 := hkd10.big; have hcp10 := hkd10.cap; have hbs10 := hs10.big; have hcs10 := hs10.cap
  have hrw10 : RwR _ ⟨x10.labels, x10.rv⟩ _ := ⟨_, _, rfl, hs10, hr10⟩
  have hbx10 := hbk _ hm_x10
  refine rp0 hst5 hfr5 (.cons rfl (zG rfl) <| .cons rfl (zF (off := 3) rfl underlying45 rfl rfl sizeOf33 rfl) <| .cons rfl (zK rfl hc1 isAgg33 rfl) <| .cons rfl (zG rfl) <| .cons rfl (zN (k := y) rfl rfl underlying33 sizeOf45 rfl (by omega)) <| .cons rfl (zS rfl hcv10 isAgg45 sizeOf45 rfl rfl) <| .cons rfl (zp rfl (.cons rfl <| .nil) call25 (fun w m hK => by have hle_ := KC.le hK; have hA := KC.agree hK; have h_t := h_t.mono hle_; have hk_t := hk_t.mono hle_; have hs_t := hs_t.mono hle_; have hrw_t := hrw_t.mono hle_; have hc1 := hc1.mono hle_; have hcv10 := hcv10.mono hle_; have hv10 := hv10.mono hle_; have hkd10 := hkd10.mono hle_; have hs10 := hs10.mono hle_; have hrw10 := hrw10.mono hle_; exact ih _ (by assumption) hA (by assumption) (by have := hbk _ (by assumption); omega))) <| .cons rfl (zy rfl rfl ⟨by omega, by omega⟩) <| .cons rfl (zH rfl) <| .nil) fun a6 w6 m6 hst6 hle6 hk6 => ?_
  have hfr6 := hk6.fr (.o 4 <| .o 1 <| .n 3 <| .nil)
  clear hst5 hfr5 hk6
  refine hK9 _ _ ?_
  refine rp0 hst6 hfr6 (.cons rfl (zG rfl) <| .cons rfl (zy rfl rfl ⟨by omega, by omega⟩) <| .cons rfl (zH rfl) <| .nil) fun a7 w7 m7 hst7 hle7 hk7 => ?_
  have hfr7 := hk7.fr (.o 1 <| .o 3 <| .n 4 <| .nil)
  clear hst6 hfr6 hk7
  have zq1 := hle6.trans hle7
  have hlh7 := hlh5.trans zq1
  exact ⟨(y + 1, (a + (ZH x10 : Int))), m7, by show t.args.length - (y + 1) < t.args.length - y; omega, ⟨hst7, hlh7, hfr7.sub (.c <| .c <| .c <| .nil), ⟨by show y + 1 ≤ t.args.length; omega, by rw [hd10, ZS] at ha; show a + (ZH x10 : Int) + ((ZS (t.args.drop (y + 1)) : Nat) : Int) = ((ZH t : Nat) : Int); omega, by show 0 ≤ a + (ZH x10 : Int); omega⟩⟩⟩
 ·try simp only [nqs] at hb9
  have hge : y = t.args.length := by omega
  rw [List.drop_of_length_le (by omega), ZS] at ha
  refine z7 ?_
  refine hK4 _ _ ?_
  refine zE fun _ hK11 => ?_
  refine rp0 hst5 hfr5 (.cons rfl (zG rfl) <| .cons rfl (zH rfl) <| .nil) fun a6 w6 m6 hst6 hle6 hk6 => ?_
  have hfr6 := hk6.fr (.o 3 <| .o 4 <| .n 2 <| .nil)
  clear hst5 hfr5 hk6
  refine hK11 _ _ ?_
  refine zU ?_
  repeat (with_reducible first | refine zL ?_ | refine zI ?_)
  exact zV hst6 hfr6 rfl (.tmp rfl <| .nil) (by refine congrArg (Value.int _) ?_; omega)
theorem count_c (t : Ty) : count_G t := Ty.rec_ (p := count_G) (fun t ih => count_s ih) t
end Go.Proofs.YtlidonjpgigocaaGreat
namespace Go.Proofs
open Go.Shelf
def Tryz.lays189_ren : Go.Shelf.Ren := ⟨fun | 189 => 115 | 125 => 88 | 257 => 125 | 128 => 110 | 129 => 111 | 294 => 127 | 295 => 128 | 296 => 129 | 297 => 130 | 298 => 131 | 299 => 132 | 216 => 133 | 300 => 134 | 301 => 135 | 328 => 136 | 329 => 119 | 330 => 120 | 331 => 137 | 332 => 138 | 215 => 139 | 343 => 140 | n => n, fun | 28 => 32 | 3 => 3 | 46 => 116 | 0 => 0 | 51 => 142 | 53 => 144 | 4 => 4 | 183 => 134 | 182 => 133 | 131 => 139 | 5 => 5 | 9 => 9 | 218 => 149 | 222 => 153 | 228 => 157 | 229 => 158 | n => n, fun | n => n⟩
theorem Tryz.lays189 : Go.Proofs.Lays.n189 Tryz.prog Tryz.lays189_ren := {
 mixed := by kernel_rfl
 f125 := func88.trans (congrArg some (by kernel_rfl))
 f128 := func110.trans (congrArg some (by kernel_rfl))
 f129 := func111.trans (congrArg some (by kernel_rfl))
 f189 := func115.trans (congrArg some (by kernel_rfl))
 f215 := func139.trans (congrArg some (by kernel_rfl))
 f216 := func133.trans (congrArg some (by kernel_rfl))
 f257 := func125.trans (congrArg some (by kernel_rfl))
 f294 := func127.trans (congrArg some (by kernel_rfl))
 f295 := func128.trans (congrArg some (by kernel_rfl))
 f296 := func129.trans (congrArg some (by kernel_rfl))
 f297 := func130.trans (congrArg some (by kernel_rfl))
 f298 := func131.trans (congrArg some (by kernel_rfl))
 f299 := func132.trans (congrArg some (by kernel_rfl))
 f300 := func134.trans (congrArg some (by kernel_rfl))
 f301 := func135.trans (congrArg some (by kernel_rfl))
 f328 := func136.trans (congrArg some (by kernel_rfl))
 f329 := func119.trans (congrArg some (by kernel_rfl))
 f330 := func120.trans (congrArg some (by kernel_rfl))
 f331 := func137.trans (congrArg some (by kernel_rfl))
 f332 := func138.trans (congrArg some (by kernel_rfl))
 f343 := func140.trans (congrArg some (by kernel_rfl))
 t0 := underlying0
 a0 := isAgg0
 z0 := sizeOf0
 v0 := zeroValue0
 t3 := underlying3
 a3 := isAgg3
 z3 := sizeOf3
 v3 := zeroValue3
 t4 := underlying4
 a4 := isAgg4
 z4 := sizeOf4
 v4 := zeroValue4
 t5 := underlying5
 a5 := isAgg5
 z5 := sizeOf5
 v5 := zeroValue5
 t9 := underlying9
 a9 := isAgg9
 z9 := sizeOf9
 v9 := zeroValue9
 t28 := underlying32
 a28 := isAgg32
 z28 := sizeOf32
 v28 := zeroValue32
 t46 := underlying116
 a46 := isAgg116
 z46 := sizeOf116
 v46 := zeroValue116
 t51 := underlying142
 a51 := isAgg142
 z51 := sizeOf142
 v51 := zeroValue142
 t53 := underlying144
 a53 := isAgg144
 z53 := sizeOf144
 v53 := zeroValue144
 t131 := underlying139
 a131 := isAgg139
 z131 := sizeOf139
 v131 := zeroValue139
 t182 := underlying133
 a182 := isAgg133
 z182 := sizeOf133
 v182 := zeroValue133
 t183 := underlying134
 a183 := isAgg134
 z183 := sizeOf134
 v183 := zeroValue134
 t218 := underlying149
 a218 := isAgg149
 z218 := sizeOf149
 v218 := zeroValue149
 t222 := underlying153
 a222 := isAgg153
 z222 := sizeOf153
 v222 := zeroValue153
 t228 := underlying157
 a228 := isAgg157
 z228 := sizeOf157
 v228 := zeroValue157
 t229 := underlying158
 a229 := isAgg158
 z229 := sizeOf158
 v229 := zeroValue158 }
open Go.Sort Go.RowKit in
theorem Tryz.slices_Sort_int (blk off cap : Nat) (zs : List Int) (w : World) (hH : Holds (Value.int .i64) w blk off zs.toArray) (hblk : blk < w.heap.size) (hsz : zs.length < 4611686018427387904) :
  Calls Tryz.prog 115 #[.slice (some ⟨blk, off, none⟩) zs.length cap] w fun e w' =>
   e = .returned (.tuple #[]) ∧ ∃ n os, w' = grow (putRow (Value.int .i64) (Sort.ahead w n) blk off (zs.mergeSort fun x y => decide (x ≤ y)).toArray) os := Any.slices_Sort_int Tryz.lays189 blk off cap zs w hH hblk hsz
def Tryz.lays190_ren : Go.Shelf.Ren := ⟨fun | 190 => 69 | 125 => 88 | 258 => 87 | 128 => 110 | 129 => 111 | 302 => 101 | 303 => 102 | 304 => 103 | 305 => 104 | 306 => 105 | 307 => 106 | 308 => 107 | 309 => 108 | 310 => 109 | 333 => 118 | 329 => 119 | 330 => 120 | 334 => 121 | 335 => 122 | 336 => 123 | 344 => 126 | n => n, fun | 31 => 41 | 9 => 9 | 3 => 3 | 46 => 116 | 0 => 0 | 51 => 142 | 53 => 144 | 4 => 4 | 183 => 134 | 182 => 133 | 131 => 139 | 5 => 5 | 218 => 149 | 222 => 153 | 228 => 157 | 229 => 158 | n => n, fun | n => n⟩
theorem Tryz.lays190 : Go.Proofs.Lays.n190 Tryz.prog Tryz.lays190_ren := {
 mixed := by kernel_rfl
 f125 := func88.trans (congrArg some (by kernel_rfl))
 f128 := func110.trans (congrArg some (by kernel_rfl))
 f129 := func111.trans (congrArg some (by kernel_rfl))
 f190 := func69.trans (congrArg some (by kernel_rfl))
 f258 := func87.trans (congrArg some (by kernel_rfl))
 f302 := func101.trans (congrArg some (by kernel_rfl))
 f303 := func102.trans (congrArg some (by kernel_rfl))
 f304 := func103.trans (congrArg some (by kernel_rfl))
 f305 := func104.trans (congrArg some (by kernel_rfl))
 f306 := func105.trans (congrArg some (by kernel_rfl))
 f307 := func106.trans (congrArg some (by kernel_rfl))
 f308 := func107.trans (congrArg some (by kernel_rfl))
 f309 := func108.trans (congrArg some (by kernel_rfl))
 f310 := func109.trans (congrArg some (by kernel_rfl))
 f329 := func119.trans (congrArg some (by kernel_rfl))
 f330 := func120.trans (congrArg some (by kernel_rfl))
 f333 := func118.trans (congrArg some (by kernel_rfl))
 f334 := func121.trans (congrArg some (by kernel_rfl))
 f335 := func122.trans (congrArg some (by kernel_rfl))
 f336 := func123.trans (congrArg some (by kernel_rfl))
 f344 := func126.trans (congrArg some (by kernel_rfl))
 t0 := underlying0
 a0 := isAgg0
 z0 := sizeOf0
 v0 := zeroValue0
 t3 := underlying3
 a3 := isAgg3
 z3 := sizeOf3
 v3 := zeroValue3
 t4 := underlying4
 a4 := isAgg4
 z4 := sizeOf4
 v4 := zeroValue4
 t5 := underlying5
 a5 := isAgg5
 z5 := sizeOf5
 v5 := zeroValue5
 t9 := underlying9
 a9 := isAgg9
 z9 := sizeOf9
 v9 := zeroValue9
 t31 := underlying41
 a31 := isAgg41
 z31 := sizeOf41
 v31 := zeroValue41
 t46 := underlying116
 a46 := isAgg116
 z46 := sizeOf116
 v46 := zeroValue116
 t51 := underlying142
 a51 := isAgg142
 z51 := sizeOf142
 v51 := zeroValue142
 t53 := underlying144
 a53 := isAgg144
 z53 := sizeOf144
 v53 := zeroValue144
 t131 := underlying139
 a131 := isAgg139
 z131 := sizeOf139
 v131 := zeroValue139
 t182 := underlying133
 a182 := isAgg133
 z182 := sizeOf133
 v182 := zeroValue133
 t183 := underlying134
 a183 := isAgg134
 z183 := sizeOf134
 v183 := zeroValue134
 t218 := underlying149
 a218 := isAgg149
 z218 := sizeOf149
 v218 := zeroValue149
 t222 := underlying153
 a222 := isAgg153
 z222 := sizeOf153
 v222 := zeroValue153
 t228 := underlying157
 a228 := isAgg157
 z228 := sizeOf157
 v228 := zeroValue157
 t229 := underlying158
 a229 := isAgg158
 z229 := sizeOf158
 v229 := zeroValue158 }
open Go.Sort Go.RowKit in
theorem Tryz.slices_Sort_string (blk off cap : Nat) (ss : List (List UInt8)) (w : World) (hH : Holds encStr w blk off ss.toArray) (hblk : blk < w.heap.size) (hsz : ss.length < 4611686018427387904) :
  Calls Tryz.prog 69 #[.slice (some ⟨blk, off, none⟩) ss.length cap] w fun e w' =>
   e = .returned (.tuple #[]) ∧ ∃ n os, w' = grow (putRow encStr (Sort.ahead w n) blk off (ss.mergeSort fun x y => decide (x ≤ y)).toArray) os := Any.slices_Sort_string Tryz.lays190 blk off cap ss w hH hblk hsz
open Go.Lib in
open Go.Lib in
open Go.Lib in
open Go.Lib in
open Go.Lib in
open Go.Lib in
def Tryz.laysNm216_ren : Go.Shelf.Ren := ⟨fun | 16 => 47 | n => n, fun | 24 => 41 | 9 => 9 | 4 => 4 | n => n, fun | n => n⟩
theorem Tryz.laysNm216 : Go.Proofs.Lays2.n16 Tryz.prog Tryz.laysNm216_ren := {
 mixed := by kernel_rfl
 f16 := func47.trans (congrArg some (by kernel_rfl))
 t4 := underlying4
 a4 := isAgg4
 z4 := sizeOf4
 v4 := zeroValue4
 t9 := underlying9
 a9 := isAgg9
 z9 := sizeOf9
 v9 := zeroValue9
 t24 := underlying41
 a24 := isAgg41
 z24 := sizeOf41
 v24 := zeroValue41
 i9 := by kernel_rfl }
open Go.RowKit Go.Lib in
theorem Tryz.slices_Clone_string (b off n c : Nat) (zs : List ByteArray) (w : World) (hz : n ≤ zs.length) (hbig : n * 16 ≤ 140737488355328) (hc : ∀ j, j < zs.length → w.cell? ⟨b, off + j, none⟩ = some (.string (zs.getD j ByteArray.empty))) :
  Calls Tryz.prog 47 #[.slice (some ⟨b, off, none⟩) n c] w fun e w' => ∃ v', e = .returned v' ∧ w'.ownsRow w.heap.size 9 1 v' n ((zs.take n).map (Value.string)) ∧ v' ≠ .slice none 0 0 ∧ Below w.heap.size w w' := Any.slices_Clone_string Tryz.laysNm216 b off n c zs w hz hbig hc
open Go.RowKit Go.Lib in
theorem Tryz.slices_Clone_string_nil (n c : Nat) (w : World) :
  Calls Tryz.prog 47 #[.slice none n c] w fun e w' => e = .returned (.slice none 0 0) ∧ w' = w := Any.slices_Clone_string_nil Tryz.laysNm216 n c w
open Go.RowKit Go.Lib in
theorem Tryz.slices_Clone_string_zero (a : Addr) (c : Nat) (w : World) :
  Calls Tryz.prog 47 #[.slice (some a) 0 c] w fun e w' => ∃ v', e = .returned v' ∧ w'.ownsRow w.heap.size 9 1 v' 0 [] ∧ v' ≠ .slice none 0 0 ∧ Below w.heap.size w w' := Any.slices_Clone_string_zero Tryz.laysNm216 a c w
open Go.RowKit Go.Lib in
open Go.RowKit Go.Lib in
def Tryz.laysNm224_ren : Go.Shelf.Ren := ⟨fun | 24 => 93 | n => n, fun | 24 => 41 | 9 => 9 | 3 => 3 | 4 => 4 | 0 => 0 | n => n, fun | n => n⟩
theorem Tryz.laysNm224 : Go.Proofs.Lays2.n24 Tryz.prog Tryz.laysNm224_ren := {
 mixed := by kernel_rfl
 f24 := func93.trans (congrArg some (by kernel_rfl))
 t0 := underlying0
 a0 := isAgg0
 z0 := sizeOf0
 v0 := zeroValue0
 t3 := underlying3
 a3 := isAgg3
 z3 := sizeOf3
 v3 := zeroValue3
 t4 := underlying4
 a4 := isAgg4
 z4 := sizeOf4
 v4 := zeroValue4
 t9 := underlying9
 a9 := isAgg9
 z9 := sizeOf9
 v9 := zeroValue9
 t24 := underlying41
 a24 := isAgg41
 z24 := sizeOf41
 v24 := zeroValue41
 i9 := by kernel_rfl }
open Go.RowKit Go.Lib Go.Sort in
open Go.RowKit Go.Lib Go.Sort in
theorem Tryz.slices_Delete_string (blk off cap i j : Nat) (zs : List (List UInt8)) (w : World) (hH : Holds encStr w blk off zs.toArray) (hcap : zs.length ≤ cap) (hm : cap ≤ 9223372036854775807) (hij : i ≤ j) (hj : j ≤ zs.length) :
  Calls Tryz.prog 93 #[.slice (some ⟨blk, off, none⟩) zs.length cap, .int .i64 i, .int .i64 j] w fun e w' => e = .returned (.slice (some ⟨blk, off, none⟩) (zs.length - (j - i)) cap) ∧ ∃ q, w' = putRow encStr (Sort.ahead w q) blk off (zs.take i ++ zs.drop j ++ List.replicate (j - i) []).toArray := Any.slices_Delete_string Tryz.laysNm224 blk off cap i j zs w hH hcap hm hij hj
open Go.RowKit Go.Lib Go.Sort in
open Go.RowKit Go.Sort in
theorem Tryz.slices_Sort_string_none (p : Option Addr) (cap : Nat) (w : World) :
  Calls Tryz.prog 69 #[.slice p 0 cap] w fun e w' => e = .returned (.tuple #[]) ∧ w' = w := Any.slices_Sort_string_none Tryz.lays190 p cap w
open Go.RowKit Go.Sort in
theorem Tryz.slices_Sort_int_none (p : Option Addr) (cap : Nat) (w : World) :
  Calls Tryz.prog 115 #[.slice p 0 cap] w fun e w' => e = .returned (.tuple #[]) ∧ w' = w := Any.slices_Sort_int_none Tryz.lays189 p cap w
open Go.RowKit Go.Lib in
def Tryz.growS_ren : Go.Shelf.Ren := ⟨fun | 4 => 68 | n => n, fun | 22 => 41 | 25 => 9 | 3 => 3 | 4 => 4 | 9 => 9 | 20 => 20 | 0 => 0 | n => n, fun | n => n⟩
theorem Tryz.growS : Go.Proofs.Lays8.n4 Tryz.prog Tryz.growS_ren := {
 mixed := by kernel_rfl
 f4 := ⟨Tryz.f68.name, by decide, func68.trans (congrArg some (by kernel_rfl))⟩
 t0 := underlying0
 a0 := isAgg0
 z0 := sizeOf0
 v0 := zeroValue0
 t3 := underlying3
 a3 := isAgg3
 z3 := sizeOf3
 v3 := zeroValue3
 t4 := underlying4
 a4 := isAgg4
 z4 := sizeOf4
 v4 := zeroValue4
 t9 := underlying9
 a9 := isAgg9
 z9 := sizeOf9
 v9 := zeroValue9
 t20 := underlying20
 a20 := isAgg20
 z20 := sizeOf20
 v20 := zeroValue20
 t22 := underlying41
 a22 := isAgg41
 z22 := sizeOf41
 v22 := zeroValue41 }
def Tryz.mcloneT_ren : Go.Shelf.Ren := ⟨fun | 5 => 72 | 7 => 89 | n => n, fun | 23 => 25 | 25 => 3 | 3 => 45 | 4 => 4 | 20 => 20 | n => n, fun | n => n⟩
theorem Tryz.mcloneT : Go.Proofs.SlLaysW.n5 Tryz.prog Tryz.mcloneT_ren := {
 mixed := by kernel_rfl
 f5 := ⟨Tryz.f72.name, by decide, func72.trans (congrArg some (by kernel_rfl))⟩
 f7 := func89.trans (congrArg some (by kernel_rfl))
 t4 := underlying4
 a4 := isAgg4
 z4 := sizeOf4
 v4 := zeroValue4
 t20 := underlying20
 a20 := isAgg20
 z20 := sizeOf20
 v20 := zeroValue20
 t23 := underlying25
 a23 := isAgg25
 z23 := sizeOf25
 v23 := zeroValue25 }
def Tryz.mcloneR_ren : Go.Shelf.Ren := ⟨fun | 5 => 71 | 7 => 89 | n => n, fun | 23 => 27 | 25 => 3 | 3 => 43 | 4 => 4 | 20 => 20 | n => n, fun | n => n⟩
theorem Tryz.mcloneR : Go.Proofs.SlLaysW.n5 Tryz.prog Tryz.mcloneR_ren := {
 mixed := by kernel_rfl
 f5 := ⟨Tryz.f71.name, by decide, func71.trans (congrArg some (by kernel_rfl))⟩
 f7 := func89.trans (congrArg some (by kernel_rfl))
 t4 := underlying4
 a4 := isAgg4
 z4 := sizeOf4
 v4 := zeroValue4
 t20 := underlying20
 a20 := isAgg20
 z20 := sizeOf20
 v20 := zeroValue20
 t23 := underlying27
 a23 := isAgg27
 z23 := sizeOf27
 v23 := zeroValue27 }
def Tryz.keysT_ren : Go.Shelf.Ren := ⟨fun | 7 => 98 | 10 => 116 | n => n, fun | 23 => 25 | 26 => 3 | 3 => 45 | 28 => 128 | 0 => 0 | 27 => 127 | 33 => 110 | 4 => 4 | n => n, fun | n => n⟩
theorem Tryz.keysT : Go.Proofs.SlLaysZI.n7 Tryz.prog Tryz.keysT_ren := {
 mixed := by kernel_rfl
 f7 := ⟨Tryz.f98.name, by decide, func98.trans (congrArg some (by kernel_rfl))⟩
 f10 := ⟨Tryz.f116.name, by decide, func116.trans (congrArg some (by kernel_rfl))⟩
 t0 := underlying0
 a0 := isAgg0
 z0 := sizeOf0
 v0 := zeroValue0
 t4 := underlying4
 a4 := isAgg4
 z4 := sizeOf4
 v4 := zeroValue4
 t23 := underlying25
 a23 := isAgg25
 z23 := sizeOf25
 v23 := zeroValue25
 t26 := underlying3
 a26 := isAgg3
 z26 := sizeOf3
 v26 := zeroValue3
 t27 := underlying127
 a27 := isAgg127
 z27 := sizeOf127
 v27 := zeroValue127
 t28 := underlying128
 a28 := isAgg128
 z28 := sizeOf128
 v28 := zeroValue128
 t33 := underlying110
 a33 := isAgg110
 z33 := sizeOf110
 v33 := zeroValue110 }
def Tryz.keysR_ren : Go.Shelf.Ren := ⟨fun | 7 => 99 | 10 => 117 | n => n, fun | 23 => 27 | 26 => 3 | 3 => 43 | 28 => 128 | 0 => 0 | 27 => 127 | 33 => 110 | 4 => 4 | n => n, fun | n => n⟩
theorem Tryz.keysR : Go.Proofs.SlLaysZI.n7 Tryz.prog Tryz.keysR_ren := {
 mixed := by kernel_rfl
 f7 := ⟨Tryz.f99.name, by decide, func99.trans (congrArg some (by kernel_rfl))⟩
 f10 := ⟨Tryz.f117.name, by decide, func117.trans (congrArg some (by kernel_rfl))⟩
 t0 := underlying0
 a0 := isAgg0
 z0 := sizeOf0
 v0 := zeroValue0
 t4 := underlying4
 a4 := isAgg4
 z4 := sizeOf4
 v4 := zeroValue4
 t23 := underlying27
 a23 := isAgg27
 z23 := sizeOf27
 v23 := zeroValue27
 t26 := underlying3
 a26 := isAgg3
 z26 := sizeOf3
 v26 := zeroValue3
 t27 := underlying127
 a27 := isAgg127
 z27 := sizeOf127
 v27 := zeroValue127
 t28 := underlying128
 a28 := isAgg128
 z28 := sizeOf128
 v28 := zeroValue128
 t33 := underlying110
 a33 := isAgg110
 z33 := sizeOf110
 v33 := zeroValue110 }
def Tryz.sortedI_ren : Go.Shelf.Ren := ⟨fun | 6 => 97 | 8 => 114 | 9 => 115 | 11 => 124 | 13 => 88 | 12 => 125 | 23 => 110 | 24 => 111 | 14 => 127 | 15 => 128 | 16 => 129 | 17 => 130 | 18 => 131 | 19 => 132 | 20 => 133 | 21 => 134 | 22 => 135 | 25 => 136 | 26 => 119 | 27 => 120 | 28 => 137 | 29 => 138 | 30 => 139 | 31 => 140 | n => n, fun | 26 => 3 | 28 => 128 | 24 => 32 | 0 => 0 | 3 => 3 | 37 => 116 | 48 => 142 | 50 => 144 | 4 => 4 | 40 => 134 | 39 => 133 | 45 => 139 | 5 => 5 | 9 => 9 | 51 => 149 | 55 => 153 | 57 => 157 | 58 => 158 | 33 => 110 | n => n, fun | n => n⟩
theorem Tryz.sortedI : Go.Proofs.SlLaysZI.n6 Tryz.prog Tryz.sortedI_ren := {
 mixed := by kernel_rfl
 f6 := ⟨Tryz.f97.name, by decide, func97.trans (congrArg some (by kernel_rfl))⟩
 f8 := ⟨Tryz.f114.name, by decide, func114.trans (congrArg some (by kernel_rfl))⟩
 f11 := ⟨Tryz.f124.name, by decide, func124.trans (congrArg some (by kernel_rfl))⟩
 t0 := underlying0
 a0 := isAgg0
 z0 := sizeOf0
 v0 := zeroValue0
 t24 := underlying32
 a24 := isAgg32
 z24 := sizeOf32
 v24 := zeroValue32
 t26 := underlying3
 a26 := isAgg3
 z26 := sizeOf3
 v26 := zeroValue3
 t28 := underlying128
 a28 := isAgg128
 z28 := sizeOf128
 v28 := zeroValue128
 i26 := by kernel_rfl }
end Go.Proofs
namespace Go.Proofs.YtlidonjpgigocaaGreat
set_option linter.all false
open Go.RowKit
instance : RepR (fun m vs t => TyR m t vs) := ⟨fun hm h => h.mono hm, fun h => by obtain ⟨o, c, o2, c2, rfl, _⟩ := h.open_; rfl⟩
instance : RepR (fun m vs t => RwR m t vs) := ⟨fun hm h => h.mono hm, fun h => by obtain ⟨o, c, rfl, _⟩ := h.open_; rfl⟩
end Go.Proofs.YtlidonjpgigocaaGreat
namespace Go.Proofs.YtlidonjpgigocaaGreat
open Go.Proofs.Tryz
set_option linter.all false
set_option maxRecDepth 4000
open Go.RowKit
abbrev tyV (t : Ty) (y : (Option Addr × Nat) × (Option Addr × Nat)) : List Value := [.int .i64 t.kind, S t.name, .int .i64 t.var, .slice y.1.1 t.args.length y.1.2, .slice y.2.1 t.labels.length y.2.2, .int .i64 t.rv]
def MP.ty (t : Ty) : MP := MP.mem (fun y => .agg (tyV t y).toArray) (fun y m => TyR m t (tyV t y)) fun hm h => h.mono hm
abbrev rwV (r : Rw) (y : Option Addr × Nat) : List Value := [.slice y.1 r.labels.length y.2, .int .i64 r.var]
def MP.rw (r : Rw) : MP := MP.mem (fun y : Option Addr × Nat => .agg (rwV r y).toArray) (fun y m => RwR m r (rwV r y)) fun hm h => h.mono hm
def MP.tyb (t : Ty) (b : Bool) : MP := MP.mem (fun y => .tuple #[.agg (tyV t y).toArray, .bool b]) (fun y m => TyR m t (tyV t y)) fun hm h => h.mono hm
def MP.rwb (r : Rw) (b : Bool) : MP := MP.mem (fun y : Option Addr × Nat => .tuple #[.agg (rwV r y).toArray, .bool b]) (fun y m => RwR m r (rwV r y)) fun hm h => h.mono hm
theorem args_bulk : ∀ l : List Ty, l.length ≤ zBG l
 | [] => Nat.zero_le _
 | t :: ts => by have := args_bulk ts; rw [zBG, List.length_cons]; have := zGC t; omega
mutual
/-- How wide a type is: the most that stands in one list. -/
def wdT : Ty → Nat
 | ⟨_, _, _, ts, ls, _⟩ => max ls.length (max ts.length (zCG ts))
def zCG : List Ty → Nat
 | [] => 0
 | t :: ts => max (wdT t) (zCG ts)
end
theorem zAt (t : Ty) : wdT t = max t.labels.length (max t.args.length (zCG t.args)) := by obtain ⟨k, n, v, ts, ls, r⟩ := t; rw [wdT]; rfl
theorem wdTs_mem : ∀ {l : List Ty} {u : Ty}, u ∈ l → wdT u ≤ zCG l
 | t :: ts, u, h => by
  rw [zCG]
  rcases List.mem_cons.1 h with rfl | h
  ·omega
  ·have := wdTs_mem h; omega
theorem zAT {t u : Ty} (h : u ∈ t.args) : wdT u ≤ wdT t := by rw [zAt t]; have := wdTs_mem h; omega
theorem wd_bulk (t : Ty) : wdT t ≤ zBe t := by
 induction t using Ty.rec_ with
 | h t ih =>
  have hk := zDW t ih (fun l => zCG l ≤ zBG l) (by simp [zCG, zBG]) (fun x l hx hl => by simp only [zCG, zBG]; omega)
  rw [zAt, zGC]; have := args_bulk t.args; have := lensS_len t.labels; omega
theorem TyR.one {m : Mem} {t : Ty} {vs : List Value} (h : TyR m t vs) : vs.all (·.oneCell') = true := by obtain ⟨o, c, o2, c2, rfl, _⟩ := h.open_; rfl
theorem RwR.one {m : Mem} {t : Rw} {vs : List Value} (h : RwR m t vs) : vs.all (·.oneCell') = true := by obtain ⟨o, c, rfl, _⟩ := h.open_; rfl
def zAu : Ty := ⟨0, [], 0, [], [], 0⟩
def zDM : Rw := ⟨[], 0⟩
theorem zGS {m : Mem} : TyR m zAu [.int .i64 0, S [], .int .i64 0, .slice none 0 0, .slice none 0 0, .int .i64 0] := TyR.build (ks := []) (ls := []) Sl.empty Sl.empty ⟨by omega, by omega⟩ ⟨by omega, by omega⟩ ⟨by omega, by omega⟩
theorem zGq {m : Mem} : RwR m zDM [.slice none 0 0, .int .i64 0] := ⟨_, _, rfl, Sl.empty, show Zg 0 from ⟨by omega, by omega⟩⟩
theorem zCL {w w' : World} {m : Mem} {e : TypeId} {size n : Nat} {v : Value} {xs : List Value} (ha : Agree w m) (h : w'.ownsRow w.heap.size e size v n xs) (hb : Below w.heap.size w w') : Touch .free (.mrow v n size e xs) w m w' m := by
 obtain ⟨hl, h⟩ := h
 rcases h with ⟨rfl, rfl⟩ | ⟨g, cap, cur, rfl, hg, hh, h1, h2, h3, h4⟩
 ·exact ⟨(ExtG.of_below ha hb).mono (by simp), ⟨hl, none, 0, rfl, Nat.le_refl _, Nat.zero_le _, .inl rfl⟩, List.nodup_nil, fun g hg => by cases hg⟩
 ·exact zGp ha hl h1 h2 h3 h4 hb hg hh
theorem put_heap {w w' : World} {g k : Nat} {f : Array Value → Array Value} {os : Array Obj} {cur : Array Value} {e : TypeId} (hh : w.heap[g]? = some (.cells cur e (0, 0))) (hw : w' = Go.Sort.grow (Go.Sort.mapBlock (Go.Sort.ahead w k) g f) os) :
  w'.heap[g]? = some (.cells (f cur) e (0, 0)) ∧ w'.os = w.os ∧ w'.tape = w.tape ∧ w'.output = w.output ∧ w.heap.size ≤ w'.heap.size ∧ ∀ b, b < w.heap.size → b ≠ g → w'.heap[b]? = w.heap[b]? := by
 have hg : g < w.heap.size := Z2 hh
 subst hw
 refine ⟨?_, rfl, rfl, rfl, by simp [Go.Sort.grow, Go.Sort.mapBlock, Go.Sort.ahead], fun b hb hne => ?_⟩
 ·simp only [Go.Sort.grow, Go.Sort.mapBlock, Go.Sort.ahead]
  rw [Array.getElem?_append_left (by simpa using hg), Array.getElem?_modify, if_pos rfl, hh]; rfl
 ·simp only [Go.Sort.grow, Go.Sort.mapBlock, Go.Sort.ahead]
  rw [Array.getElem?_append_left (by simpa using hb), Array.getElem?_modify, if_neg (Ne.symm hne)]
theorem zEH {α : Type} [Inhabited α] (enc : α → Value) (d : List α) (c : Array Value) (h : d.length ≤ c.size) : (Go.Sort.putCells enc 0 d.toArray c).toList.take d.length = d.map enc := by
 apply List.ext_getElem?
 intro i
 rw [List.getElem?_take, List.getElem?_map]
 split
 ·rename_i hi
  have h1 : i < c.size := by omega
  simp only [Go.Sort.putCells, Array.getElem?_toList, Array.getElem?_mapIdx, List.size_toArray, Nat.zero_le, Nat.zero_add, true_and, if_pos hi, Nat.sub_zero, Array.getElem?_eq_getElem h1, Option.map_some]
  rw [getElem!_pos d.toArray i (by simpa using hi), List.getElem?_eq_getElem hi]; simp
 ·rename_i hi
  rw [List.getElem?_eq_none (by omega)]; rfl
theorem zEF {α : Type} [Inhabited α] (enc : α → Value) (o : Nat) (d : Array α) (c : Array Value) : (Go.Sort.putCells enc o d c).size = c.size := by simp [Go.Sort.putCells]
theorem holds_row {w : World} {g : Nat} {cur : Array Value} {e : TypeId} {l : List Str} (hh : w.heap[g]? = some (.cells cur e (0, 0))) (ht : cur.toList.take (l.length * 1) = l.map S) (hl : l.length ≤ cur.size) : Go.Sort.Holds S w g 0 l.toArray := by
 intro j hj
 have hj' : j < l.length := by simpa using hj
 have h1 : cur[j]? = some (S l[j]) := by
  have h2 := congrArg (fun q => q[j]?) ht
  simp only [List.getElem?_take, Nat.mul_one, if_pos hj', List.getElem?_map, List.getElem?_eq_getElem hj', Option.map_some, Array.getElem?_toList] at h2
  exact h2
 refine ⟨?_, ?_⟩
 ·unfold World.cell?; simp only [hh, Nat.zero_add, h1]
  rw [getElem!_pos l.toArray j hj]; simp
 ·unfold World.frozen?; simp [hh]
def ZT (l : List Str) : List Str := l.mergeSort fun x y => decide (x ≤ y)
theorem sortS_t {w : World} {m : Mem} {o : Option Addr} {cap : Nat} {l : List Str} (hA : Agree w m) (hr : (Res.mrow (.slice o l.length cap) l.length 1 9 (l.map S)).holds w m) (hsz : l.length < 4611686018427387904) :
  Calls Tryz.prog 69 #[.slice o l.length cap] w fun e w' => ∃ v m', e = .returned v ∧ Touch (.mrow (.slice o l.length cap) l.length 1 9 (l.map S)) (.mrow (.slice o l.length cap) l.length 1 9 ((ZT l).map S)) w m w' m' ∧ (Kn.ex MP.any).holds m' v := by
 by_cases h0 : l.length = 0
 ·obtain rfl : l = [] := List.eq_nil_of_length_eq_zero h0
  refine Calls.mono (Tryz.slices_Sort_string_none o cap w) fun e w' ⟨e1, e2⟩ => ⟨_, m, e1, ?_, _, rfl, trivial⟩
  subst e2
  exact ⟨ExtG.refl _ hA, by simpa [ZT] using hr, zDL _ _ _ _ _, fun g hg => .inl hg⟩
 ·obtain ⟨hlen, o', cap', e1, hnc, hcm, h⟩ := hr
  injection e1 with e1 e2 e3; subst e1; subst e3
  rcases h with h | ⟨g, cur, rfl, hh, h3, h4, h5⟩
  ·omega
  ·refine Calls.mono (Tryz.slices_Sort_string g 0 cap l w (holds_row hh h4 (by omega)) (Z2 hh) hsz) fun e w' ⟨e1, k, os, e2⟩ => ⟨_, m, e1, ?_, _, rfl, trivial⟩
   obtain ⟨p1, p2, p3, p4, p5, p6⟩ := put_heap hh e2
   have hsl : (ZT l).length = l.length := by simp [ZT]
   refine zCZ hA (by omega) hcm hh h5 hnc (by simp [hsl]) p1 (by rw [zEF]; exact h3) ?_ p2 p3 p4 p5 p6
   have := zEH S (ZT l) cur (by omega)
   rw [hsl] at this
   rw [Nat.mul_one]; exact this
theorem zGF {w : World} {m : Mem} {o : Option Addr} {c : Nat} {l : List Str} (hA : Agree w m) (h : Strs m o l.length c l) (hbig : l.length ≤ 1073741824) :
  Calls Tryz.prog 47 #[.slice o l.length c] w fun e w' => ∃ v m', e = .returned v ∧ Touch .free (.mrow v l.length 1 9 (l.map S)) w m w' m' ∧ (Kn.ex (MP.made' l.length)).holds m' v := by
 cases o with
 | none =>
  cases l with
  | cons x l => obtain ⟨p, vs, e, _⟩ := h.at_ 0 x rfl; cases e
  | nil =>
   refine Calls.mono (Tryz.slices_Clone_string_nil 0 c w) fun e w' ⟨e1, e2⟩ => ⟨_, m, e1, ?_, (none, 0), rfl, Nat.le_refl _⟩
   subst e2
   exact ⟨ExtG.refl _ hA, ⟨rfl, none, 0, rfl, Nat.le_refl _, Nat.zero_le _, .inl rfl⟩, List.nodup_nil, fun g hg => by cases hg⟩
 | some p =>
  cases l with
  | nil =>
   refine Calls.mono (Tryz.slices_Clone_string_zero p c w) fun e w' ⟨v, e1, e2, _, e3⟩ => ⟨v, m, e1, zCL hA e2 e3, ?_⟩
   obtain ⟨o', cap', e4, e5, _⟩ := Res.mrow_val (zCL hA e2 e3).now
   exact ⟨(o', cap'), e4, e5⟩
  | cons x l =>
   have hr := h.row1 (f := S)
   rcases hr with hr | ⟨q, e0, hc⟩
   ·simp at hr
   ·injection e0 with e0; subst e0
    obtain ⟨b, off, spot⟩ := p
    obtain rfl : spot = none := hc.1
    refine Calls.mono (Tryz.slices_Clone_string b off (x :: l).length c ((x :: l).map fun s => (⟨s.toArray⟩ : ByteArray)) w (by simp) (by omega) (fun j hj => ?_)) fun e w' ⟨v, e1, e2, _, e3⟩ => ?_
    ·have hj' : j < (x :: l).length := by simpa using hj
     have h1 := hA.cell _ _ _ (hc.2 j (S (x :: l)[j]) (by rw [List.getElem?_map, List.getElem?_eq_getElem hj']; rfl))
     rw [h1, List.getD_eq_getElem?_getD, List.getElem?_map, List.getElem?_eq_getElem hj']; rfl
    ·rw [List.take_of_length_le (by simp), List.map_map] at e2
     have ht := zCL hA e2 e3
     obtain ⟨o', cap', e4, e5, _⟩ := Res.mrow_val ht.now
     exact ⟨v, m, e1, ht, (o', cap'), e4, e5⟩
theorem zEz {w : World} {m : Mem} {o : Option Addr} {c : Nat} {l : List Str} (hA : Agree w m) (h : Strs m o l.length c l) (hbig : l.length ≤ 1073741824) :
  Calls Tryz.prog 47 #[.slice o l.length c] w fun e w' => ∃ v m', e = .returned v ∧ Touch .free (.row (nz v) l.length 1 9 (l.map S)) w m w' m' ∧ (Kn.ex (MP.sl l.length (l.map S))).holds m' v :=
 Calls.mono (zGF hA h hbig) fun e w' ⟨v, m1, e1, ht, _⟩ => by
  obtain ⟨m2, ht2, o', c', e2, h1, _, h2⟩ := zBz ht.ext.agree ht.now
  exact ⟨v, m2, e1, ht.trans ht2, (o', c'), e2, h2, h1⟩
theorem less_le (a b : Str) : (!Op.bytesLess b a) = decide (a ≤ b) := by
 rw [bytesLess_eq, ← decide_not, decide_eq_decide]; exact List.not_lt
theorem zBQ : ∀ l : List Str, ZF l = true ↔ l.Pairwise (· ≤ ·)
 | [] => by simp [ZF]
 | [a] => by simp [ZF]
 | a :: b :: r => by
  have ih := zBQ (b :: r)
  rw [ZF, Bool.and_eq_true, less_le, decide_eq_true_eq, ih, List.pairwise_cons (l := b :: r)]
  constructor
  ·rintro ⟨h1, h2⟩
   refine ⟨fun x hx => ?_, h2⟩
   rcases List.mem_cons.1 hx with rfl | hx
   ·exact h1
   ·exact List.le_trans h1 ((List.pairwise_cons.1 h2).1 x hx)
  ·rintro ⟨h1, h2⟩
   exact ⟨h1 b (.head _), h2⟩
theorem Zm (l : List Str) : (ZT l).Perm l := List.mergeSort_perm l _
theorem sortS_pw (l : List Str) : (ZT l).Pairwise (· ≤ ·) := by
 have h := List.pairwise_mergeSort (le := fun x y : Str => decide (x ≤ y)) (fun a b c h1 h2 => by simp only [decide_eq_true_eq] at *; exact List.le_trans h1 h2) (fun a b => by
  rcases List.le_total a b with h | h <;> simp [h]) l
 exact h.imp fun h => by simpa using h
theorem zBi (l : List Str) : ZF (ZT l) = true := (zBQ _).2 (sortS_pw l)
theorem zDa {l k : List Str} (h : l.Perm k) (h1 : ZF l = true) (h2 : ZF k = true) : l = k :=
 List.Perm.eq_of_pairwise (le := (· ≤ ·)) (fun _ _ _ _ a b => List.le_antisymm a b) ((zBQ l).1 h1) ((zBQ k).1 h2) h
theorem zBv {l k : List Str} (h : l.Perm k) : ZT l = ZT k :=
 zDa (((Zm l).trans h).trans (Zm k).symm) (zBi l) (zBi k)
theorem sortS_id {l : List Str} (h : ZF l = true) : ZT l = l := zDa (Zm l) (zBi l) h
theorem zCN (l : List Str) : (ZT l).length = l.length := (Zm l).length_eq
theorem sortS_mem {l : List Str} {s : Str} : s ∈ ZT l ↔ s ∈ l := (Zm l).mem_iff
theorem idx_erase (s : Str) : ∀ (l : List Str) (i : Nat), s ∈ l → ∃ k : Nat, zBO i l s = ((i + k : Nat) : Int) ∧ k < l.length ∧ l.take k ++ l.drop (k + 1) = l.erase s
 | [], _, h => by cases h
 | x :: l, i, h => by
  by_cases e : s = x
  ·subst e; exact ⟨0, by simp [zBO], by simp, by simp⟩
  ·obtain ⟨k, h1, h2, h3⟩ := idx_erase s l (i + 1) (by rcases List.mem_cons.1 h with h | h; exact absurd h e; exact h)
   refine ⟨k + 1, by rw [zBO, if_neg e, h1]; congr 1; omega, by simpa using h2, ?_⟩
   rw [List.erase_cons_tail (by simpa using Ne.symm e), ← h3]; simp
set_option maxHeartbeats 400000 in
theorem sorted_c {w : World} {m : Mem} {r : Rw} {vs_r : List Value} (hA : Agree w m) (h_r : RwR m r vs_r) (hbig : r.labels.length ≤ 1073741824) : FnV Tryz.prog 44 #[.agg vs_r.toArray] w m (fun _ m v => (MP.rw ⟨ZT r.labels, r.var⟩).p m v) := by
 obtain ⟨o_r, c_r, rfl, hs_r, hr_r⟩ := h_r.open_
 have hbs_r := hs_r.big; have hcs_r := hs_r.cap
 refine zY (vs := [_]) func44 rfl rfl rfl fun a0 hfr0 => ?_
 have hst0 := zX hA (zw [] _ w m)
 have hM : MLe m m := MLe.refl m
 have hsl := zCN r.labels
 refine zE fun _ hK1 => ?_
 replace hst0 := hst0.more (r := .free) trivial List.nodup_nil (by simp [Res.blocks])
 refine ra0 (tch := [(1, 0, (fun v => .blk v _))]) hst0 hfr0 (.cons rfl (ZA rfl rfl) <| .consT rfl rfl (fun _ => rfl) rfl (zj zeroValue43 rfl) <| .nil) fun a1 w1 m1 hst1 hle1 hk1 => ?_
 have hfr1 := hk1.fr (.nil)
 obtain ⟨g2, e2, hc1⟩ := hk1.ex 1 rfl
 replace hfr1 := hfr1.cons e2
 obtain ⟨g3, e3, _⟩ := hk1.ex 2 rfl
 replace hfr1 := hfr1.cons e3
 replace hst1 := hst1.fin (L' := [_]) (.cons e3 <| .nil)
 replace h_r := h_r.mono hle1
 replace hs_r := hs_r.mono hle1
 replace hM := hM.trans hle1
 clear hst0 hfr0 hk1
 refine hK1 _ _ ?_
 refine zE fun _ hK4 => ?_
 replace hst1 := hst1.more (r := .free) trivial List.nodup_nil (by simp [Res.blocks])
 refine ra0 (tch := [(3, 1, (fun v => .mrow v _ _ _ _))]) hst1 hfr1 (.cons rfl (zF (off := 0) rfl underlying43 rfl rfl sizeOf41 rfl) <| .cons rfl (zK rfl hc1 isAgg41 rfl) <| .cons rfl (zt rfl underlying41) <| .consT rfl rfl (fun _ => rfl) rfl (ob_makeSliceM (size := 1) (bytes := 16) rfl rfl underlying41 type9 rfl rfl rfl rfl rfl (by simp only [maxLen]; omega) (by omega)) <| .consA 7 rfl rfl <| .nil) fun a2 w2 m2 hst2 hle2 hk2 => ?_
 have hfr2 := hk2.fr (.o 1 <| .o 2 <| .nil)
 obtain ⟨om7, e5, _⟩ := hk2.ex 7 rfl
 replace hfr2 := hfr2.cons (hk2.same 3 rfl e5)
 replace hst2 := hst2.fin (L' := [_, _]) (.cons e5 <| .nil)
 replace h_r := h_r.mono hle2
 replace hs_r := hs_r.mono hle2
 replace hc1 := hc1.mono hle2
 replace hM := hM.trans hle2
 clear hst1 hfr1 hk2
 refine hK4 _ _ ?_
 refine zE fun _ hK6 => ?_
 refine ra0 (tch := [(3, 1, (fun _ => .mrow _ _ _ _ _))]) hst2 hfr2 (.cons rfl (zG rfl) <| .cons rfl (zF (off := 0) rfl underlying43 rfl rfl sizeOf41 rfl) <| .cons rfl (zK rfl hc1 isAgg41 rfl) <| .consT rfl rfl (fun _ => rfl) rfl (ob_copyM rfl rfl underlying41 type9 rfl (fun w m hK => Sl.row1 (f := S) (Strs.mono hs_r (KC.le hK))) (by simp) (strs_one _)) <| .nil) fun a3 w3 m3 hst3 hle3 hk3 => ?_
 have hfr3 := hk3.fr (.o 1 <| .o 2 <| .o 3 <| .nil)
 replace hst3 := hst3.fin (L' := [_, _]) (.cons rfl <| .nil)
 replace h_r := h_r.mono hle3
 replace hs_r := hs_r.mono hle3
 replace hc1 := hc1.mono hle3
 replace hM := hM.trans hle3
 clear hst2 hfr2 hk3
 refine hK6 _ _ ?_
 refine zE fun _ hK7 => ?_
 refine ra0 (tch := [(1, 1, (fun _ => .mrow (.slice om7 r.labels.length r.labels.length) r.labels.length 1 9 ((ZT r.labels).map S)))]) hst3 hfr3 (.cons rfl (zG rfl) <| .consT rfl rfl (fun _ => rfl) rfl (ZV rfl (.cons rfl <| .nil) call69 (κ := .ex (MP.any)) (fun σ w m hK hr hkn => by have hle_ := KC.le hK; have hA := KC.agree hK; have hM := hM.trans hle_; have h_r := h_r.mono hle_; have hs_r := hs_r.mono hle_; have hc1 := hc1.mono hle_; exact sortS_t hA hr (by omega))) <| .nil) fun a4 w4 m4 hst4 hle4 hk4 => ?_
 have hfr4 := hk4.fr (.o 1 <| .o 2 <| .o 3 <| .nil)
 obtain ⟨_, e8, _⟩ := hk4.ex 13 rfl
 replace hst4 := hst4.fin (L' := [_, _]) (.cons e8 <| .nil)
 replace hc1 := hc1.mono hle4
 clear hst3 hfr3 hk4
 obtain ⟨m5, hle5, hst5, oF_q, cF_q, eF_q, hcF_q, hmF_q, hrow_q⟩ := hst4.freeze (k := 1) rfl
 simp only [List.set_cons_succ, List.set_cons_zero] at hst5
 have hfr5 := hfr4; obtain ⟨a5, rfl⟩ : ∃ a, a = a4 := ⟨_, rfl⟩; obtain ⟨w5, rfl⟩ : ∃ w, w = w4 := ⟨_, rfl⟩
 replace hc1 := hc1.mono hle5
 clear hst4 hfr4
 obtain ⟨rfl, rfl⟩ : om7 = oF_q ∧ r.labels.length = cF_q := by injection eF_q with q1 q2 q3; exact ⟨q1, q3⟩
 have hsq : Strs m5 om7 (ZT r.labels).length r.labels.length (ZT r.labels) := Strs.of_row hrow_q rfl (by omega) (by omega)
 refine hK7 _ _ ?_
 refine zE fun _ hK9 => ?_
 refine ra0 (tch := [(4, 0, (fun _ => .blk _ _))]) hst5 hfr5 (.cons rfl (zG rfl) <| .cons rfl (zF (off := 1) rfl underlying43 rfl rfl sizeOf3 rfl) <| .cons rfl (zK rfl hc1 isAgg3 rfl) <| .cons rfl (ZM (.cons rfl <| .cons rfl <| .nil) underlying43 zeroValue43 (.cons sizeOf41 <| .cons sizeOf3 <| .nil) rfl) <| .consT rfl rfl (fun _ => rfl) rfl (zm rfl rfl rfl sizeOf43 rfl rfl rfl) <| .nil) fun a6 w6 m6 hst6 hle6 hk6 => ?_
 have hfr6 := hk6.fr (.o 2 <| .nil)
 replace hst6 := hst6.fin (L' := [_, _]) (.cons rfl <| .nil)
 replace hsq := hsq.mono hle6
 clear hst5 hfr5 hk6
 refine hK9 _ _ ?_
 refine zU ?_
 repeat (with_reducible first | refine zL ?_ | refine zI ?_)
 exact zV hst6 hfr6 rfl (.cell rfl (ZO (ZJ (hst6.loc.at_ (k := 0) rfl)) isAgg43 sizeOf43) <| .nil) (⟨(om7, r.labels.length), by show _ = Value.agg #[.slice om7 (ZT r.labels).length _, _]; rw [hsl]; rfl, ⟨_, _, rfl, hsq, hr_r⟩⟩)
def SlsR (m : Mem) (l : List Str) (vs : List Value) : Prop := ∃ o c, vs = [.slice o l.length c] ∧ Strs m o l.length c l
theorem SlsR.mono {m m' : Mem} {l : List Str} {vs : List Value} (h : SlsR m l vs) (hm : MLe m m') : SlsR m' l vs := by obtain ⟨o, c, e, h1⟩ := h; exact ⟨o, c, e, h1.mono hm⟩
abbrev Slss (m : Mem) (o : Option Addr) (n c : Nat) (l : List (List Str)) : Prop := Sl (fun m vs l => SlsR m l vs) 1 m o n c l
theorem Slss.mono {m m' : Mem} {o : Option Addr} {n c : Nat} {l : List (List Str)} (h : Slss m o n c l) (hm : MLe m m') : Slss m' o n c l := Sl.mono h (fun _ _ e => e.mono hm) hm
def lenS (ls : List (List Str)) : Nat := (ls.map List.length).sum
theorem lenS_cons (l : List Str) (ls : List (List Str)) : lenS (l :: ls) = l.length + lenS ls := by simp [lenS]
theorem zFW : ∀ ls : List (List Str), ls.flatten.length = lenS ls
 | [] => rfl
 | l :: ls => by rw [List.flatten_cons, List.length_append, zFW ls, lenS_cons]
def MP.sl0 : MP := MP.mem (fun y : Option Addr × Nat => .slice y.1 0 y.2) (fun _ _ => True) fun _ h => h
abbrev RS : Mem → List Value → Str → Prop := fun _ vs x => vs = [S x]
theorem growS_t {w : World} {m : Mem} {n : Nat} (hA : Agree w m) (hn : n ≤ 1000000000) :
  Calls Tryz.prog 68 #[.slice none 0 0, .int .i64 (n : Int)] w fun e w' => ∃ v m', e = .returned v ∧ Touch .free (.rowx (nz v) 0 1 9 (MP.reads RS 1 [])) w m w' m' ∧ (Kn.ex MP.sl0).holds m' v := by
 by_cases h0 : n = 0
 ·subst h0
  refine Calls.mono (Any8.slices_Grow_room Tryz.growS none 0 0 0 w (by omega) (by omega) (by omega) (by omega)) fun e w' ⟨e1, e2⟩ => ⟨_, m, e1, ?_, (none, 0), rfl, trivial⟩
  subst e2
  exact ⟨ExtG.refl _ hA, zCq, List.nodup_nil, fun g hg => by cases hg⟩
 ·obtain ⟨i, hi⟩ : ∃ i, Tryz.prog.info? 9 = some i := ⟨_, type9⟩
  refine Calls.mono (Any8.slices_Grow_grow Tryz.growS i (S []) hi (by injection hi.symm.trans type9 with e; rw [e]; rfl) (by injection hi.symm.trans type9 with e; rw [e]; decide) none 0 0 n [] w (by omega) (by omega) (by injection hi.symm.trans type9 with e; rw [e]; show (0 + n) * 16 ≤ _; omega) (by omega) (by simp) (fun _ => rfl) (fun a h => by cases h)) fun e w' ⟨e1, e2⟩ => ⟨_, m.add w.heap.size [].toArray, e1, ?_, (_, _), rfl, trivial⟩
  have hge := grownCap_ge w (0 + n) 0 9
  subst e2
  have h2 := row_new (w := w.drew) (m := m) (e := 9) (size := 1) (n := 0) (cap := grownCap w (0 + n) 0 9) (xs := []) (cur := ([].toArray ++ Builtin.zeroCells (S []).cells (0 + n - 0) ++ Builtin.zeroCells (S []).cells (grownCap w (0 + n) 0 9 - (0 + n)))) (by simp) (by omega) (grownCap_le_maxLen w (0 + n) 0 9 (by simp only [maxLen]; omega)) (by
   simp only [Array.size_append, size_zeroCells, show (S []).cells.size = 1 from rfl, List.size_toArray, List.length_nil, Nat.mul_one]; omega) (by simp) ⟨hA.cell, hA.map⟩
  have h3 := zEj (by omega) (zEM h2)
  exact ⟨h3.ext, ⟨[], h3.now, MP.reads_p.2 Reads.nil⟩, h3.nodup, h3.where_⟩
theorem flat2 (a b : List Str) : [a, b].flatten = a ++ b := by simp
set_option maxHeartbeats 800000 in
theorem cat_c {w : World} {m : Mem} {o_ls : Option Addr} {c_ls : Nat} {ls : List (List Str)} (hA : Agree w m) (h_ls : Slss m o_ls ls.length c_ls ls) (hsum : lenS ls ≤ 1000000000) : FnV Tryz.prog 43 #[.slice o_ls ls.length c_ls] w m (fun _ m v => (MP.strs ls.flatten).p m v) := by
 have hb_ls := h_ls.big; have hc_ls := h_ls.cap
 refine zY (vs := [_]) func43 rfl rfl rfl fun a0 hfr0 => ?_
 have hst0 := zX hA (zw [] _ w m)
 have hM : MLe m m := MLe.refl m
 refine zE fun _ hK1 => ?_
 refine rp0 hst0 hfr0 (.cons rfl (zH rfl) <| .nil) fun a1 w1 m1 hst1 hle1 hk1 => ?_
 have hfr1 := hk1.fr (.o 0 <| .nil)
 replace h_ls := h_ls.mono hle1
 replace hM := hM.trans hle1
 clear hst0 hfr0 hk1
 refine hK1 _ _ ?_
 refine zE fun _ hK2 => ?_
 refine rp0 hst1 hfr1 (.cons rfl (zH rfl) <| .nil) fun a2 w2 m2 hst2 hle2 hk2 => ?_
 have hfr2 := hk2.fr (.o 0 <| .n 3 <| .nil)
 replace h_ls := h_ls.mono hle2
 replace hM := hM.trans hle2
 clear hst1 hfr1 hk2
 refine hK2 _ _ ?_
 refine zE fun _ hK3 => ?_
 refine zE fun _ hK4 => ?_
 refine rp0 hst2 hfr2 (.cons rfl (zG rfl) <| .cons rfl (zt rfl underlying98) <| .cons rfl (zG rfl) <| .nil) fun a3 w3 m3 hst3 hle3 hk3 => ?_
 have hfr3 := hk3.fr (.o 0 <| .o 3 <| .n 9 <| .n 10 <| .n 11 <| .nil)
 replace h_ls := h_ls.mono hle3
 replace hM := hM.trans hle3
 clear hst2 hfr2 hk3
 refine hK4 _ _ ?_
 refine zT ?_
 refine z6 (T := [(0, _), (9, _), (10, _)]) (fun (y : Nat × Nat) => ([(3, .int .i64 (y.2 : Int)), (11, .int .i64 (y.1 : Int))] : List (Nat × Value))) (fun _ => _) (fun (y : Nat × Nat) m => (fun (y : Nat) (acc : Nat) => (y ≤ ls.length) ∧ (acc + lenS (ls.drop y) = lenS ls)) y.1 y.2) (fun y => ls.length - y.1) ((0, 0)) ⟨hst3, MLe.refl _, hfr3.sub (.c <| .c <| .c <| .c <| .c <| .nil), ⟨Nat.zero_le _, by rw [List.drop_zero, Nat.zero_add]⟩⟩ fun y a4 w4 m4 hh4 => ?_
 have hst4 := hh4.st; have hle4 := hh4.le; have hfr4 := hh4.fr; have hrel := hh4.rel; clear hh4
 replace h_ls := h_ls.mono hle4
 clear hst3 hfr3
 replace hM := hM.trans hle4
 obtain ⟨y, acc⟩ := y
 dsimp only at hrel hfr4 hst4
 obtain ⟨hyn, hacc⟩ := hrel
 have hlh4 := hle4
 refine zE fun _ hK6 => ?_
 refine rp0 hst4 hfr4 (.cons rfl (ZG rfl rfl) <| .nil) fun a5 w5 m5 hst5 hle5 hk5 => ?_
 have hfr5 := hk5.fr (.o 3 <| .o 11 <| .o 0 <| .o 9 <| .o 10 <| .n 12 <| .nil)
 replace h_ls := h_ls.mono hle5
 have hlh5 := hlh4.trans hle5
 replace hM := hM.trans hle5
 clear hst4 hfr4 hk5
 refine hK6 _ _ ?_
 refine zE fun _ hK7 => ?_
 refine zJ hfr5 rfl rfl (fun hb12 => ?_) (fun hb12 => ?_)
 ·try simp only [nqs] at hb12
  refine zR ?_
  refine hK7 _ _ ?_
  refine zE fun _ hK8 => ?_
  refine zT ?_
  refine zE fun _ hK9 => ?_
  obtain ⟨p10, vs10, x10, ho10, hd10, hm_x10, ht10, hcv10, hl10, hv10⟩ := h_ls.nth (k := y) (by omega)
  cases ho10
  obtain ⟨oS10, cS10, rfl, hss10⟩ := id hv10
  have hbs10 := hss10.big; have hcs10_ := hss10.cap
  refine rp0 hst5 hfr5 (.cons rfl (zN (k := y) rfl rfl underlying98 sizeOf41 rfl (by omega)) <| .cons rfl (zr rfl hcv10 isAgg41 rfl) <| .cons rfl (zH rfl) <| .nil) fun a6 w6 m6 hst6 hle6 hk6 => ?_
  have hfr6 := hk6.fr (.o 3 <| .o 11 <| .o 0 <| .o 9 <| .o 10 <| .n 5 <| .nil)
  clear hst5 hfr5 hk6
  rw [hd10, lenS_cons] at hacc
  refine hK9 _ _ ?_
  refine zE fun _ hK11 => ?_
  refine rp0 hst6 hfr6 (.cons rfl (zG rfl) <| .cons rfl (zG rfl) <| .cons rfl (zt rfl underlying41) <| .cons rfl (zy rfl rfl ⟨by omega, by omega⟩) <| .cons rfl (zH rfl) <| .nil) fun a7 w7 m7 hst7 hle7 hk7 => ?_
  have hfr7 := hk7.fr (.o 11 <| .o 0 <| .o 9 <| .o 10 <| .n 3 <| .nil)
  clear hst6 hfr6 hk7
  rw [show ((acc : Int) + (x10.length : Int)) = ((acc + x10.length : Nat) : Int) by omega] at hfr7
  refine hK11 _ _ ?_
  refine zE fun _ hK12 => ?_
  refine rp0 hst7 hfr7 (.cons rfl (zG rfl) <| .cons rfl (ZG rfl rfl) <| .nil) fun a8 w8 m8 hst8 hle8 hk8 => ?_
  have hfr8 := hk8.fr (.o 11 <| .o 0 <| .o 9 <| .o 10 <| .o 3 <| .n 20 <| .nil)
  clear hst7 hfr7 hk8
  refine hK12 _ _ ?_
  refine zJ hfr8 rfl rfl (fun hb20 => ?_) (fun hb20 => ?_)
  ·try simp only [nqs] at hb20
   skip
   omega
  ·try simp only [nqs] at hb20
   refine zR ?_
   refine hK8 _ _ ?_
   refine rp0 hst8 hfr8 (.cons rfl (zy rfl rfl ⟨by omega, by omega⟩) <| .cons rfl (zG rfl) <| .nil) fun a9 w9 m9 hst9 hle9 hk9 => ?_
   have hfr9 := hk9.fr (.o 0 <| .o 9 <| .o 10 <| .o 3 <| .n 11 <| .nil)
   clear hst8 hfr8 hk9
   have zq1 := hle8.trans hle9
   have zq2 := hle7.trans zq1
   have zq3 := hle6.trans zq2
   have hlh9 := hlh5.trans zq3
   exact ⟨(y + 1, (acc + x10.length)), m9, by show ls.length - (y + 1) < ls.length - y; omega, ⟨hst9, hlh9, hfr9.sub (.c <| .c <| .c <| .c <| .c <| .nil), ⟨by show y + 1 ≤ ls.length; omega, by show (acc + x10.length) + lenS (ls.drop (y + 1)) = lenS ls; omega⟩⟩⟩
 ·try simp only [nqs] at hb12
  have hge : y = ls.length := by omega
  rw [List.drop_of_length_le (by omega)] at hacc
  have hacc9 : acc ≤ 1000000000 := by omega
  refine z7 ?_
  refine hK3 _ _ ?_
  refine zE fun _ hK13 => ?_
  replace hst5 := hst5.more (r := .free) trivial List.nodup_nil (by simp [Res.blocks])
  refine ra0 (tch := [(1, 0, (fun v => .rowx (nz v) 0 1 9 (MP.reads RS 1 [])))]) hst5 hfr5 (.cons rfl (zG rfl) <| .consT rfl rfl (fun _ => rfl) rfl (ZV rfl (.cons rfl <| .cons rfl <| .nil) call68 (κ := .ex (MP.sl0)) (fun σ w m hK hr hkn => by have hle_ := KC.le hK; have hA := KC.agree hK; have hM := hM.trans hle_; have h_ls := h_ls.mono hle_; exact growS_t hA hacc9)) <| .consA 24 rfl rfl <| .nil) fun a6 w6 m6 hst6 hle6 hk6 => ?_
  have hfr6 := hk6.fr (.o 3 <| .o 11 <| .o 0 <| .nil)
  obtain ⟨⟨og, cg⟩, e14, _⟩ := hk6.ex 24 rfl
  replace hfr6 := hfr6.cons (hk6.same 6 rfl e14)
  replace hst6 := hst6.fin (L' := [_]) (.cons e14 <| .nil)
  clear hst5 hfr5 hk6
  have hsl_O : Strs m6 og ([] : List Str).length cg [] := Sl.empty
  refine hK13 _ _ ?_
  refine zE fun _ hK15 => ?_
  refine zE fun _ hK16 => ?_
  refine rp0 hst6 hfr6 (.cons rfl (zG rfl) <| .cons rfl (zt rfl underlying98) <| .cons rfl (zG rfl) <| .nil) fun a7 w7 m7 hst7 hle7 hk7 => ?_
  have hfr7 := hk7.fr (.o 3 <| .o 11 <| .o 6 <| .n 25 <| .n 26 <| .n 27 <| .nil)
  clear hst6 hfr6 hk7
  refine hK16 _ _ ?_
  refine zT ?_
  have zq4 := hle6.trans hle7
  have hlh7 := hlh5.trans zq4
  have hlq17 := hlh7
  replace hsl_O := hsl_O.mono hle7
  refine z6 (T := [(3, _), (11, _), (25, _), (26, _)]) (fun (y : Nat × Option Addr × Nat × List Str) => ([(6, .slice y.2.1 y.2.2.2.length y.2.2.1), (27, .int .i64 (y.1 : Int))] : List (Nat × Value))) (fun y => [.rowx (nz (.slice y.2.1 y.2.2.2.length y.2.2.1)) y.2.2.2.length 1 9 (MP.reads RS 1 y.2.2.2)]) (fun (y : Nat × Option Addr × Nat × List Str) m => (fun (y : Nat) (gao : Option Addr) (gap : Nat) (ga : List Str) => (y ≤ ls.length) ∧ (Strs m gao ga.length gap ga) ∧ (ls.flatten = ga ++ (ls.drop y).flatten)) y.1 y.2.1 y.2.2.1 y.2.2.2) (fun y => ls.length - y.1) ((0, og, cg, ([] : List Str))) ⟨hst7, MLe.refl _, hfr7.sub (.c <| .c <| .c <| .c <| .c <| .c <| .nil), ⟨Nat.zero_le _, hsl_O, by rw [List.drop_zero, List.nil_append]⟩⟩ fun y a8 w8 m8 hh8 => ?_
  have hst8 := hh8.st; have hle8 := hh8.le; have hfr8 := hh8.fr; have hrel := hh8.rel; clear hh8
  clear hst7 hfr7
  obtain ⟨y, gao, gap, ga⟩ := y
  dsimp only at hrel hfr8 hst8
  obtain ⟨hyn, hsl_ga, hlen_ga⟩ := hrel
  have hlh8 := hle8
  refine zE fun _ hK18 => ?_
  refine rp0 hst8 hfr8 (.cons rfl (ZG rfl rfl) <| .nil) fun a9 w9 m9 hst9 hle9 hk9 => ?_
  have hfr9 := hk9.fr (.o 6 <| .o 27 <| .o 3 <| .o 11 <| .o 25 <| .o 26 <| .n 28 <| .nil)
  clear hst8 hfr8 hk9
  refine hK18 _ _ ?_
  refine zE fun _ hK19 => ?_
  refine zJ hfr9 rfl rfl (fun hb28 => ?_) (fun hb28 => ?_)
  ·try simp only [nqs] at hb28
   refine zR ?_
   refine hK19 _ _ ?_
   refine zE fun _ hK20 => ?_
   refine zT ?_
   refine zE fun _ hK21 => ?_
   have zq5 := hle8.trans hle9
   have zq6 := zq4.trans zq5
   replace h_ls := h_ls.mono zq6
   obtain ⟨p22, vs22, x22, ho22, hd22, hm_x22, ht22, hcv22, hl22, hv22⟩ := h_ls.nth (k := y) (by omega)
   cases ho22
   obtain ⟨oS22, cS22, rfl, hss22⟩ := id hv22
   have hbs22 := hss22.big; have hcs22_ := hss22.cap
   refine rp0 hst9 hfr9 (.cons rfl (zN (k := y) rfl rfl underlying98 sizeOf41 rfl (by omega)) <| .cons rfl (zr rfl hcv22 isAgg41 rfl) <| .cons rfl (zH rfl) <| .nil) fun a10 w10 m10 hst10 hle10 hk10 => ?_
   have hfr10 := hk10.fr (.o 6 <| .o 27 <| .o 3 <| .o 11 <| .o 25 <| .o 26 <| .n 8 <| .nil)
   clear hst9 hfr9 hk10
   rw [hd22, List.flatten_cons] at hlen_ga
   have hla9 := congrArg List.length hlen_ga
   rw [zFW, List.length_append, List.length_append] at hla9
   refine hK21 _ _ ?_
   replace hss22 := hss22.mono hle10
   refine ra0 (tch := [(2, 0, (fun v => .rowx (nz v) _ _ _ _))]) hst10 hfr10 (.cons rfl (zG rfl) <| .cons rfl (zG rfl) <| .consT rfl rfl (fun _ => rfl) rfl (zAV (size := 1) (bytes := 16) (l := ga) (l' := x22) rfl rfl (fun _ => by first | exact .inl rfl | exact .inr (.inl rfl)) underlying41 type9 rfl rfl rfl rfl (fun w m hK => hss22.mono (KC.le hK)) rfl (by decide) (by simp only [maxLen]; omega) (by omega)) <| .consA 33 rfl rfl <| .nil) fun a11 w11 m11 hst11 hle11 hk11 => ?_
   have hfr11 := hk11.fr (.o 27 <| .o 3 <| .o 11 <| .o 25 <| .o 26 <| .nil)
   obtain ⟨⟨O_23o, O_23p⟩, e24, hsl_O_23⟩ := hk11.ex 33 rfl
   replace hfr11 := hfr11.cons (hk11.same 6 rfl e24)
   replace hst11 := hst11.fin (L' := [_]) (.cons e24 <| .nil)
   clear hst10 hfr10 hk11
   replace hsl_O_23 : Strs m11 O_23o (ga ++ x22).length O_23p (ga ++ x22) := hsl_O_23
   refine hK20 _ _ ?_
   refine rp0 hst11 hfr11 (.cons rfl (zy rfl rfl ⟨by omega, by omega⟩) <| .cons rfl (zG rfl) <| .nil) fun a12 w12 m12 hst12 hle12 hk12 => ?_
   have hfr12 := hk12.fr (.o 3 <| .o 11 <| .o 25 <| .o 26 <| .o 6 <| .n 27 <| .nil)
   clear hst11 hfr11 hk12
   replace hsl_O_23 := hsl_O_23.mono hle12
   have zq7 := hle11.trans hle12
   have zq8 := hle10.trans zq7
   have zq9 := hle9.trans zq8
   have hlh12 := hlh8.trans zq9
   exact ⟨(y + 1, O_23o, O_23p, (ga ++ x22)), m12, by show ls.length - (y + 1) < ls.length - y; omega, ⟨hst12, hlh12, hfr12.sub (.c <| .c <| .c <| .c <| .c <| .c <| .nil), ⟨by show y + 1 ≤ ls.length; omega, hsl_O_23, by rw [hlen_ga]; show _ = (ga ++ x22) ++ (ls.drop (y + 1)).flatten; simp [List.append_assoc]⟩⟩⟩
  ·try simp only [nqs] at hb28
   have hge : y = ls.length := by omega
   rw [List.drop_of_length_le (by omega), List.flatten_nil, List.append_nil] at hlen_ga
   refine z7 ?_
   refine hK15 _ _ ?_
   refine zE fun _ hK25 => ?_
   refine rp0 hst9 hfr9 (.cons rfl (zG rfl) <| .cons rfl (zH rfl) <| .nil) fun a10 w10 m10 hst10 hle10 hk10 => ?_
   have hfr10 := hk10.fr (.o 6 <| .o 27 <| .o 3 <| .o 11 <| .n 2 <| .nil)
   clear hst9 hfr9 hk10
   refine hK25 _ _ ?_
   refine zU ?_
   repeat (with_reducible first | refine zL ?_ | refine zI ?_)
   have zq10 := hle9.trans hle10
   replace hsl_ga := hsl_ga.mono zq10
   exact zV hst10 hfr10 rfl (.tmp rfl <| .nil) (⟨(_, _), by rw [hlen_ga]; rfl, by rw [hlen_ga]; exact hsl_ga⟩)
theorem cat2_c {w : World} {m : Mem} {p : Addr} {a b : List Str} {oa ob : Option Addr} {ca cb : Nat} (hA : Agree w m) (hc : CellsAt m p [.slice oa a.length ca, .slice ob b.length cb]) (ha : Strs m oa a.length ca a) (hb : Strs m ob b.length cb b) (hl : a.length + b.length ≤ 1000000000) :
  FnV Tryz.prog 43 #[.slice (some p) 2 2] w m fun _ m v => (MP.strs (a ++ b)).p m v := by
 have := cat_c (ls := [a, b]) hA (Sl.two (vs := [_]) (us := [_]) hc rfl rfl ⟨_, _, rfl, ha⟩ ⟨_, _, rfl, hb⟩) (by rw [← zFW, flat2, List.length_append]; omega)
 rw [flat2] at this; exact this
end Go.Proofs.YtlidonjpgigocaaGreat
namespace Go.Proofs.YtlidonjpgigocaaGreat
open Go.Proofs.Tryz
set_option linter.all false
set_option maxRecDepth 4000
open Go.RowKit
abbrev KI : Int → Value := fun n => .int .i64 n
abbrev RTy : Mem → List Value → Ty → Prop := fun m vs t => TyR m t vs
abbrev RRw : Mem → List Value → Rw → Prop := fun m vs r => RwR m r vs
structure Sub where
 ts : List (Int × Ty)
 rs : List (Int × Rw)
def SubR (m : Mem) (s : Sub) (vs : List Value) : Prop := ∃ o1 o2, vs = [.map o1, .map o2] ∧ MapO KI RTy m o1 s.ts ∧ MapO KI RRw m o2 s.rs
theorem SubR.mono {m m' : Mem} {s : Sub} {vs : List Value} (h : SubR m s vs) (hm : MLe m m') : SubR m' s vs := by obtain ⟨o1, o2, e, h1, h2⟩ := h; exact ⟨o1, o2, e, h1.mono hm, h2.mono hm⟩
abbrev zAJ (y : Option Nat × Option Nat) : List Value := [.map y.1, .map y.2]
def MP.sub (s : Sub) : MP := MP.mem (fun y => .agg (zAJ y).toArray) (fun y m => SubR m s (zAJ y)) fun hm h => h.mono hm
def MP.mapo {α : Type} (R : Mem → List Value → α → Prop) [RepR R] (l : List (Int × α)) : MP := MP.mem (fun g : Nat => .map (some g)) (fun g m => MapO KI R m (some g) l) fun hm h => h.mono hm
theorem zDF {ws vs : List Value} (h : vs.length = ws.length) : splice 0 ws vs = ws := by
 unfold splice; rw [List.take_zero, List.nil_append, Nat.zero_add, ← h, List.drop_length, List.append_nil]
theorem St.tail2 {W : World} {mE : Mem} {a b c : Res} {w : World} {m : Mem} (h : St [] W mE [a, b, c] w m) : St [] W mE [c] w m :=
 ⟨h.ext, fun r hr => h.loc.all r (List.mem_cons_of_mem _ (List.mem_cons_of_mem _ hr)), by have := h.loc.apart; simp only [List.flatMap_cons] at this ⊢; exact (List.nodup_append.1 (List.nodup_append.1 this).2.1).2.1, fun g hg => h.loc.own g (by simp only [List.flatMap_cons, List.mem_append] at hg ⊢; exact .inr (.inr hg))⟩
theorem set_same {α : Type} {l : List α} {y : Nat} {x : α} (h : l[y]? = some x) : l.set y x = l := by
 apply List.ext_getElem?
 intro i
 rw [List.getElem?_set]
 split
 ·rename_i e; subst e; rw [h]; split
  ·rfl
  ·rename_i h2; rw [List.getElem?_eq_none (by omega)] at h; cases h
 ·rfl
theorem mcloneT_t {w : World} {m : Mem} {g : Nat} {es : List (Int × Value)} (hA : Agree w m) (h : MapAt KI m g es) :
  Calls Tryz.prog 72 #[.map (some g)] w fun e w' => ∃ v m', e = .returned v ∧ Touch .free (.map v (zBR KI es)) w m w' m' ∧ (Kn.ex MP.mapv).holds m' v := by
 obtain ⟨ents, cl, h1, h2, h3⟩ := h
 exact Calls.mono (AnyW.maps_Clone Tryz.mcloneT g ents cl w (hA.map _ _ h1)) fun e w' ⟨e1, e2⟩ => ⟨_, m, e1, by rw [e2]; exact zEl hA h2 h3, _, rfl, trivial⟩
theorem mcloneT_nil {w : World} {m : Mem} (hA : Agree w m) : FnV Tryz.prog 72 #[.map none] w m fun _ _ v => v = .map none :=
 Calls.mono (AnyW.maps_Clone_nil Tryz.mcloneT w) fun e w' ⟨e1, e2⟩ => ⟨_, m, e1, by rw [e2]; exact ExtG.refl _ hA, rfl⟩
theorem mcloneR_t {w : World} {m : Mem} {g : Nat} {es : List (Int × Value)} (hA : Agree w m) (h : MapAt KI m g es) :
  Calls Tryz.prog 71 #[.map (some g)] w fun e w' => ∃ v m', e = .returned v ∧ Touch .free (.map v (zBR KI es)) w m w' m' ∧ (Kn.ex MP.mapv).holds m' v := by
 obtain ⟨ents, cl, h1, h2, h3⟩ := h
 exact Calls.mono (AnyW.maps_Clone Tryz.mcloneR g ents cl w (hA.map _ _ h1)) fun e w' ⟨e1, e2⟩ => ⟨_, m, e1, by rw [e2]; exact zEl hA h2 h3, _, rfl, trivial⟩
theorem mcloneR_nil {w : World} {m : Mem} (hA : Agree w m) : FnV Tryz.prog 71 #[.map none] w m fun _ _ v => v = .map none :=
 Calls.mono (AnyW.maps_Clone_nil Tryz.mcloneR w) fun e w' ⟨e1, e2⟩ => ⟨_, m, e1, by rw [e2]; exact ExtG.refl _ hA, rfl⟩
set_option maxHeartbeats 400000 in
theorem cloneTy_g {w : World} {m : Mem} {o_l : Option Addr} {c_l : Nat} {l : List Ty} (hA : Agree w m) (h_l : Tys m o_l l.length c_l l) (hn9 : l.length ≤ 100000000000) : FnG Tryz.prog 66 #[.slice o_l l.length c_l] [] w m (fun w' m' v => Loc [] w.heap.size [.mrowx v l.length 6 45 (MP.reads (fun m vs t => TyR m t vs) 6 l)] w' m' ∧ (MP.made' l.length).p m' v) := by
 have hb_l := h_l.big; have hc_l := h_l.cap
 refine zY (vs := [_]) func66 rfl rfl rfl fun a0 hfr0 => ?_
 have hst0 := zX hA (zw [] _ w m)
 have hM : MLe m m := MLe.refl m
 refine zE fun _ hK1 => ?_
 refine rp0 hst0 hfr0 (.cons rfl (zH rfl) <| .nil) fun a1 w1 m1 hst1 hle1 hk1 => ?_
 have hfr1 := hk1.fr (.o 0 <| .nil)
 replace h_l := h_l.mono hle1
 clear hst0 hfr0 hk1
 refine hK1 _ _ ?_
 refine zE fun _ hK2 => ?_
 refine zE fun _ hK3 => ?_
 refine rp0 hst1 hfr1 (.cons rfl (zG rfl) <| .cons rfl (ob_slnil rfl underlying33) <| .nil) fun a2 w2 m2 hst2 hle2 hk2 => ?_
 have hfr2 := hk2.fr (.o 0 <| .n 4 <| .nil)
 replace h_l := h_l.mono hle2
 clear hst1 hfr1 hk2
 refine hK3 _ _ ?_
 refine zJ hfr2 rfl rfl (fun hb4 => ?_) (fun hb4 => ?_)
 ·try simp only [nqs] at hb4
  have ho9 : o_l = none := by cases o_l with | none => rfl | some p => simp at hb4
  subst ho9
  have hl9 := h_l.none_nil
  subst hl9
  refine zE fun _ hK4 => ?_
  refine rp0 hst2 hfr2 (.cons rfl (zH rfl) <| .nil) fun a3 w3 m3 hst3 hle3 hk3 => ?_
  have hfr3 := hk3.fr (.n 2 <| .nil)
  clear hst2 hfr2 hk3
  have hst9 := hst3.more (r := .mrowx (.slice none 0 0) 0 6 45 (MP.reads (fun m vs t => TyR m t vs) 6 [])) mrowx_nil List.nodup_nil (by simp [Res.blocks, zBH])
  refine hK4 _ _ ?_
  refine zU ?_
  repeat (with_reducible first | refine zL ?_ | refine zI ?_)
  exact zV hst3 hfr3 rfl (.tmp rfl <| .nil) (⟨hst9.loc, (none, 0), rfl, Nat.le_refl _⟩)
 ·try simp only [nqs] at hb4
  refine zR ?_
  refine hK2 _ _ ?_
  refine zE fun _ hK6 => ?_
  replace hst2 := hst2.more (r := .free) trivial List.nodup_nil (by simp [Res.blocks])
  refine ra0 (tch := [(2, 0, (fun v => .mrowx v _ _ _ _))]) hst2 hfr2 (.cons rfl (zAG underlying33 sizeOf45) <| .cons rfl (zG rfl) <| .consT rfl rfl (fun _ => rfl) rfl (ze 5 rfl rfl rfl fun y5 => ob_appendM0 (size := 6) (bytes := 88) rfl rfl underlying33 type45 rfl rfl rfl rfl (fun w m hK => h_l.mono (KC.le hK)) (by decide) (by simp only [maxLen]; omega) (by omega)) <| .consA 7 rfl rfl <| .nil) fun a3 w3 m3 hst3 hle3 hk3 => ?_
  have hfr3 := hk3.fr (.nil)
  obtain ⟨⟨om7, cm7⟩, e7, hcm7⟩ := hk3.ex 7 rfl
  replace hfr3 := hfr3.cons (hk3.same 2 rfl e7)
  replace hst3 := hst3.fin (L' := [_]) (.cons e7 <| .nil)
  clear hst2 hfr2 hk3
  refine hK6 _ _ ?_
  refine zU ?_
  repeat (with_reducible first | refine zL ?_ | refine zI ?_)
  exact zV hst3 hfr3 rfl (.tmp rfl <| .nil) (⟨hst3.loc, (om7, cm7), rfl, hcm7⟩)
theorem cloneTy_t {w : World} {m : Mem} {o : Option Addr} {c : Nat} {l : List Ty} (hA : Agree w m) (h : Tys m o l.length c l) (hn : l.length ≤ 100000000000) :
  Calls Tryz.prog 66 #[.slice o l.length c] w fun e w' => ∃ v m', e = .returned v ∧ Touch .free (.mrowx v l.length 6 45 (MP.reads (fun m vs t => TyR m t vs) 6 l)) w m w' m' ∧ (Kn.ex (MP.made' l.length)).holds m' v :=
 Calls.mono (cloneTy_g hA h hn) fun e w' ⟨v, m', e1, hE, hL, hv⟩ => ⟨v, m', e1, zGB hE hL, hv⟩
abbrev zGi (t : Ty) : Prop := ∀ {w : World} {m : Mem} {vs_t : List Value} (hA : Agree w m) (h_t : TyR m t vs_t) (hb : wdT t ≤ 1073741824), FnV Tryz.prog 41 #[.agg vs_t.toArray] w m (fun _ m v => (MP.ty t).p m v)
set_option maxHeartbeats 1600000 in
theorem copied_s {t : Ty} (ih : ∀ u ∈ t.args, zGi u) {w : World} {m : Mem} {vs_t : List Value} (hA : Agree w m) (h_t : TyR m t vs_t) (hb : wdT t ≤ 1073741824) : FnV Tryz.prog 41 #[.agg vs_t.toArray] w m (fun _ m v => (MP.ty t).p m v) := by
 obtain ⟨o_t, c_t, oL_t, cL_t, rfl, hk_t, hs_t, hi_t, hj_t, hr_t⟩ := h_t.open_
 have hbg_t := hk_t.big; have hcp_t := hk_t.cap; have hbs_t := hs_t.big; have hcs_t := hs_t.cap
 have hrw_t : RwR _ ⟨t.labels, t.rv⟩ _ := ⟨_, _, rfl, hs_t, hr_t⟩
 refine zY (vs := [_]) func41 rfl rfl rfl fun a0 hfr0 => ?_
 have hst0 := zX hA (zw [] _ w m)
 have hM : MLe m m := MLe.refl m
 have hbk := fun u (hu : u ∈ t.args) => zAT hu
 have hbe := zAt t
 refine zE fun _ hK1 => ?_
 replace hst0 := hst0.more (r := .free) trivial List.nodup_nil (by simp [Res.blocks])
 replace hst0 := hst0.more (r := .free) trivial List.nodup_nil (by simp [Res.blocks])
 refine ra0 (tch := [(0, 0, (fun v => .blk v _)), (1, 1, (fun v => .blk v _))]) hst0 hfr0 (.consT rfl rfl (fun _ => rfl) rfl (zAR rfl rfl) <| .consT rfl rfl (fun _ => rfl) rfl (zj zeroValue45 rfl) <| .nil) fun a1 w1 m1 hst1 hle1 hk1 => ?_
 have hfr1 := hk1.fr (.nil)
 obtain ⟨gB, e2, _⟩ := hk1.ex 1 rfl
 replace hfr1 := hfr1.cons e2
 obtain ⟨gT, e3, _⟩ := hk1.ex 2 rfl
 replace hfr1 := hfr1.cons e3
 replace hst1 := hst1.fin (L' := [_, _]) (.cons e2 <| .cons e3 <| .nil)
 replace h_t := h_t.mono hle1
 replace hk_t := hk_t.mono hle1
 replace hs_t := hs_t.mono hle1
 replace hrw_t := hrw_t.mono hle1
 replace hM := hM.trans hle1
 clear hst0 hfr0 hk1
 refine hK1 _ _ ?_
 refine zE fun _ hK4 => ?_
 replace hst1 := hst1.more (r := .free) trivial List.nodup_nil (by simp [Res.blocks])
 refine ra0 (tch := [(2, 2, (fun v => .mrowx v t.args.length 6 45 (MP.reads (fun m vs t => TyR m t vs) 6 t.args))), (4, 0, (fun u => .blk _ (.cells (_ ++ [u] ++ _).toArray _)))]) hst1 hfr1 (.cons rfl (zF (off := 3) rfl underlying45 rfl rfl sizeOf33 rfl) <| .cons rfl (zW (j := 0) rfl rfl isAgg33 rfl) <| .consT rfl rfl (fun _ => rfl) rfl (ZV rfl (.cons rfl <| .nil) call66 (κ := .ex (MP.made' t.args.length)) (fun σ w m hK hr hkn => by have hle_ := KC.le hK; have hA := KC.agree hK; have hM := hM.trans hle_; have h_t := h_t.mono hle_; have hk_t := hk_t.mono hle_; have hs_t := hs_t.mono hle_; have hrw_t := hrw_t.mono hle_; exact cloneTy_t hA hk_t (by omega))) <| .cons rfl (zF (off := 3) rfl underlying45 rfl rfl sizeOf33 rfl) <| .consT rfl rfl (fun _ => rfl) rfl (ze 6 rfl rfl rfl fun y6 => Ze rfl rfl rfl rfl rfl sizeOf33 rfl rfl rfl) <| .nil) fun a2 w2 m2 hst2 hle2 hk2 => ?_
 have hfr2 := hk2.fr (.o 1 <| .o 2 <| .nil)
 obtain ⟨⟨oK, cK⟩, e5, hcK⟩ := hk2.ex 6 rfl
 replace hst2 := hst2.fin (L' := [_, _, _]) (.cons e5 <| .cons e5 <| .nil)
 try simp only [List.take_succ_cons, List.take_zero, List.drop_succ_cons, List.drop_zero, List.cons_append, List.nil_append, List.append_nil, List.length_cons, List.length_nil, Nat.zero_add, Nat.reduceAdd] at hst2
 replace h_t := h_t.mono hle2
 replace hk_t := hk_t.mono hle2
 replace hs_t := hs_t.mono hle2
 replace hrw_t := hrw_t.mono hle2
 replace hM := hM.trans hle2
 clear hst1 hfr1 hk2
 refine hK4 _ _ ?_
 refine zE fun _ hK6 => ?_
 refine zE fun _ hK7 => ?_
 refine rp0 hst2 hfr2 (.cons rfl (zF (off := 3) rfl underlying45 rfl rfl sizeOf33 rfl) <| .cons rfl (zW (j := 0) rfl rfl isAgg33 rfl) <| .cons rfl (zt rfl underlying33) <| .cons rfl (zG rfl) <| .nil) fun a3 w3 m3 hst3 hle3 hk3 => ?_
 have hfr3 := hk3.fr (.o 1 <| .o 2 <| .n 10 <| .n 11 <| .nil)
 replace h_t := h_t.mono hle3
 replace hk_t := hk_t.mono hle3
 replace hs_t := hs_t.mono hle3
 replace hrw_t := hrw_t.mono hle3
 replace hM := hM.trans hle3
 clear hst2 hfr2 hk3
 refine hK7 _ _ ?_
 refine zT ?_
 refine z6 (T := [(1, _), (2, _), (10, _)]) (fun (y : Nat) => ([(11, .int .i64 (y : Int))] : List (Nat × Value))) (fun y => [_, _, .mrowx (.slice oK t.args.length cK) t.args.length 6 45 (MP.reads (fun m vs t => TyR m t vs) 6 t.args)]) (fun (y : Nat) m => (y ≤ t.args.length)) (fun y => t.args.length - y) (0) ⟨hst3, MLe.refl _, hfr3.sub (.c <| .c <| .c <| .c <| .nil), Nat.zero_le _⟩ fun y a4 w4 m4 hh4 => ?_
 have hst4 := hh4.st; have hle4 := hh4.le; have hfr4 := hh4.fr; have hrel := hh4.rel; clear hh4
 replace h_t := h_t.mono hle4
 replace hk_t := hk_t.mono hle4
 replace hs_t := hs_t.mono hle4
 replace hrw_t := hrw_t.mono hle4
 clear hst3 hfr3
 replace hM := hM.trans hle4
 have hyn := hrel
 have hlh4 := hle4
 refine zE fun _ hK9 => ?_
 refine rp0 hst4 hfr4 (.cons rfl (ZG rfl rfl) <| .nil) fun a5 w5 m5 hst5 hle5 hk5 => ?_
 have hfr5 := hk5.fr (.o 11 <| .o 1 <| .o 2 <| .o 10 <| .n 12 <| .nil)
 replace h_t := h_t.mono hle5
 replace hk_t := hk_t.mono hle5
 replace hs_t := hs_t.mono hle5
 replace hrw_t := hrw_t.mono hle5
 have hlh5 := hlh4.trans hle5
 replace hM := hM.trans hle5
 clear hst4 hfr4 hk5
 refine hK9 _ _ ?_
 refine zE fun _ hK10 => ?_
 refine zJ hfr5 rfl rfl (fun hb12 => ?_) (fun hb12 => ?_)
 ·try simp only [nqs] at hb12
  refine zR ?_
  refine hK10 _ _ ?_
  refine zE fun _ hK11 => ?_
  refine zT ?_
  refine zE fun _ hK12 => ?_
  refine rp0 hst5 hfr5 (.cons rfl (zG rfl) <| .cons rfl (zH rfl) <| .nil) fun a6 w6 m6 hst6 hle6 hk6 => ?_
  have hfr6 := hk6.fr (.o 11 <| .o 1 <| .o 2 <| .o 10 <| .n 3 <| .nil)
  clear hst5 hfr5 hk6
  refine hK12 _ _ ?_
  obtain ⟨x9, hx9, hd9⟩ : ∃ x, t.args[y]? = some x ∧ t.args.drop y = x :: t.args.drop (y + 1) := ⟨t.args[y]'(by omega), List.getElem?_eq_getElem (by omega), List.drop_eq_getElem_cons (by omega)⟩
  have hm9 : x9 ∈ t.args := List.mem_of_getElem? hx9
  have hbx9 := hbk x9 hm9
  obtain ⟨gK, hgK⟩ := MP.made_some (hst6.loc.at_ (k := 2) rfl) (by omega)
  subst hgK
  refine zn (tch := [(10, 2, (fun _ => .mrowx _ _ _ _ _))]) (fun _ => mixed) hst6 hfr6 (by kernel_rfl) (by kernel_rfl) (by kernel_rfl) (.cons rfl (zF (off := 3) rfl underlying45 rfl rfl sizeOf33 rfl) <| .cons rfl (zW (j := 0) rfl rfl isAgg33 rfl) <| .cons rfl (zG rfl) <| .cons rfl (zF (off := 3) rfl underlying45 rfl rfl sizeOf33 rfl) <| .cons rfl (zW (j := 0) rfl rfl isAgg33 rfl) <| .cons rfl (zG rfl) <| .cons rfl (zN (k := y) rfl rfl underlying33 sizeOf45 rfl (by omega)) <| .cons rfl (zFT (R := (fun m vs t => TyR m t vs)) (i := y) (j := 2) (l := t.args) rfl rfl isAgg45 sizeOf45 hx9 (by decide)) <| .cons rfl (ZI 21 rfl rfl rfl fun y21 => zZ (φ := MP.ty x9) rfl (.cons rfl <| .nil) call41 (fun w m hK => by have hle_ := KC.le hK; have hA := KC.agree hK; have hr0_ := hK.2; exact FnG.mono (ih _ hm9 hA hr0_ (by omega)) fun _ _ _ _ h => h)) <| .cons rfl (zN (k := y) rfl rfl underlying33 sizeOf45 rfl (by omega)) <| .consT rfl rfl (fun _ => rfl) rfl (ze 22 rfl rfl rfl fun y22 => zEL (R := (fun m vs t => TyR m t vs)) (i := y) (off := 0) (l := t.args) (b := x9) (ws := tyV x9 y22) rfl rfl rfl sizeOf45 hx9 (by decide) (by show 0 + 6 ≤ 6; omega) (fun w m hK vs hv _ => by rw [zDF hv]; exact hK.2) (fun w m hK => hK.2.one)) <| .nil) fun a7 w7 m7 hst7 hle7 hk7 => ?_
  have hfr7 := hk7.fr (.o 11 <| .o 1 <| .o 2 <| .o 10 <| .nil)
  replace hst7 := hst7.fin (L' := [_, _, _]) (.cons rfl <| .nil)
  try simp only [List.take_succ_cons, List.take_zero, List.drop_succ_cons, List.drop_zero, List.cons_append, List.nil_append, List.append_nil, List.length_cons, List.length_nil, Nat.zero_add, Nat.reduceAdd] at hst7
  clear hst6 hfr6 hk7
  rw [set_same hx9] at hst7
  refine hK11 _ _ ?_
  refine rp0 hst7 hfr7 (.cons rfl (zy rfl rfl ⟨by omega, by omega⟩) <| .cons rfl (zG rfl) <| .nil) fun a8 w8 m8 hst8 hle8 hk8 => ?_
  have hfr8 := hk8.fr (.o 1 <| .o 2 <| .o 10 <| .n 11 <| .nil)
  clear hst7 hfr7 hk8
  have zq1 := hle7.trans hle8
  have zq2 := hle6.trans zq1
  have hlh8 := hlh5.trans zq2
  exact ⟨y + 1, m8, by show t.args.length - (y + 1) < t.args.length - y; omega, ⟨hst8, hlh8, hfr8.sub (.c <| .c <| .c <| .c <| .nil), by show y + 1 ≤ t.args.length; omega⟩⟩
 ·try simp only [nqs] at hb12
  have hge : y = t.args.length := by omega
  refine z7 ?_
  refine hK6 _ _ ?_
  refine zE fun _ hK13 => ?_
  replace hst5 := hst5.more (r := .free) trivial List.nodup_nil (by simp [Res.blocks])
  refine ra0 (tch := [(3, 3, (fun v => .row (nz v) _ _ _ _)), (6, 0, (fun u => .blk _ (.cells (_ ++ [u] ++ _).toArray _)))]) hst5 hfr5 (.cons rfl (zF (off := 4) rfl underlying45 rfl rfl sizeOf43 rfl) <| .cons rfl (zF (off := 0) rfl underlying43 rfl rfl sizeOf41 rfl) <| .cons rfl (zW (k := 4) (j := 0) rfl rfl isAgg41 rfl) <| .consT rfl rfl (fun _ => rfl) rfl (ZV rfl (.cons rfl <| .nil) call47 (κ := .ex (MP.sl (t.labels).length ((t.labels).map S))) (fun σ w m hK hr hkn => by have hle_ := KC.le hK; have hA := KC.agree hK; have hM := hM.trans hle_; have h_t := h_t.mono hle_; have hk_t := hk_t.mono hle_; have hs_t := hs_t.mono hle_; have hrw_t := hrw_t.mono hle_; exact zEz hA hs_t (by omega))) <| .cons rfl (zF (off := 4) rfl underlying45 rfl rfl sizeOf43 rfl) <| .cons rfl (zF (off := 0) rfl underlying43 rfl rfl sizeOf41 rfl) <| .consT rfl rfl (fun _ => rfl) rfl (ze 28 rfl rfl rfl fun y28 => Ze (k := 4) rfl rfl rfl rfl rfl sizeOf41 rfl rfl rfl) <| .nil) fun a6 w6 m6 hst6 hle6 hk6 => ?_
  have hfr6 := hk6.fr (.o 11 <| .o 1 <| .o 2 <| .nil)
  obtain ⟨⟨oz14, cz14⟩, e15, hrz14, hcz14⟩ := hk6.ex 28 rfl
  replace hst6 := hst6.fin (L' := [_, _, _, _]) (.cons e15 <| .cons e15 <| .nil)
  try simp only [List.take_succ_cons, List.take_zero, List.drop_succ_cons, List.drop_zero, List.cons_append, List.nil_append, List.append_nil, List.length_cons, List.length_nil, Nat.zero_add, Nat.reduceAdd] at hst6
  clear hst5 hfr5 hk6
  have hsz14 : Strs m6 oz14 (t.labels).length cz14 t.labels := Reads.sl (zDH t.labels) hrz14 (by decide) rfl hcz14 (by omega)
  refine hK13 _ _ ?_
  refine zE fun _ hK16 => ?_
  obtain ⟨m7, hle7, hst7, oX_K, cX_K, eX_K, hsl_K⟩ := hst6.freezeX (k := 2) rfl (rfl) (by decide) (by omega)
  simp only [List.set_cons_succ, List.set_cons_zero] at hst7
  injection eX_K with eX1_K _ eX2_K; subst eX1_K; subst eX2_K
  have hfr7 := hfr6; obtain ⟨a7, rfl⟩ : ∃ a, a = a6 := ⟨_, rfl⟩; obtain ⟨w7, rfl⟩ : ∃ w, w = w6 := ⟨_, rfl⟩
  clear hst6 hfr6
  replace hsl_K : Tys m7 oK t.args.length cK t.args := hsl_K
  replace hsz14 := hsz14.mono hle7
  have hout : TyR m7 t (tyV t ((oK, cK), (oz14, cz14))) := by have h9 := TyR.build (k := t.kind) (s := t.name) (v := t.var) (r := t.rv) hsl_K hsz14 hi_t hj_t hr_t; rw [← Ty.eta] at h9; exact h9
  refine ra0 (tch := [(1, 1, (fun _ => .blk _ _))]) hst7 hfr7 (.cons rfl (zh (j := 0) rfl rfl isAgg45 sizeOf45 rfl) <| .consT rfl rfl (fun _ => rfl) rfl (zm rfl rfl rfl sizeOf45 rfl rfl hout.one) <| .nil) fun a8 w8 m8 hst8 hle8 hk8 => ?_
  have hfr8 := hk8.fr (.o 11 <| .o 2 <| .nil)
  replace hst8 := hst8.fin (L' := [_, _, _, _]) (.cons rfl <| .nil)
  try simp only [List.take_succ_cons, List.take_zero, List.drop_succ_cons, List.drop_zero, List.cons_append, List.nil_append, List.append_nil, List.length_cons, List.length_nil, Nat.zero_add, Nat.reduceAdd] at hst8
  clear hst7 hfr7 hk8
  refine hK16 _ _ ?_
  refine zU ?_
  repeat (with_reducible first | refine zL ?_ | refine zI ?_)
  replace hout := hout.mono hle8
  exact zV hst8 hfr8 rfl (.cell rfl (ZO (ZJ (hst8.loc.at_ (k := 1) rfl)) isAgg45 sizeOf45) <| .nil) (⟨((oK, cK), (oz14, cz14)), rfl, hout⟩)
theorem zDo (t : Ty) : zGi t := Ty.rec_ (p := zGi) (fun t ih => copied_s ih) t
set_option maxHeartbeats 800000 in
theorem setT_c {w : World} {m : Mem} {o : Option Nat} {l : List (Int × Ty)} {n : Int} {x : Ty} {vs_x : List Value} (hA : Agree w m) (h_l : MapO KI RTy m o l) (h_x : TyR m x vs_x) : FnV Tryz.prog 49 #[.map o, .int .i64 n, .agg vs_x.toArray] w m (fun _ m v => (MP.mapo RTy (zBF n x l)).p m v) := by
 obtain ⟨o_x, c_x, oL_x, cL_x, rfl, hk_x, hs_x, hi_x, hj_x, hr_x⟩ := h_x.open_
 have hbg_x := hk_x.big; have hcp_x := hk_x.cap; have hbs_x := hs_x.big; have hcs_x := hs_x.cap
 have hrw_x : RwR _ ⟨x.labels, x.rv⟩ _ := ⟨_, _, rfl, hs_x, hr_x⟩
 refine zY (vs := [_, _, _]) func49 rfl rfl rfl fun a0 hfr0 => ?_
 have hst0 := zX hA (zw [] _ w m)
 have hM : MLe m m := MLe.refl m
 refine zE fun _ hK1 => ?_
 refine rp0 hst0 hfr0 (.cons rfl (ZA rfl rfl) <| .cons rfl (zH rfl) <| .nil) fun a1 w1 m1 hst1 hle1 hk1 => ?_
 have hfr1 := hk1.fr (.o 0 <| .o 1 <| .nil)
 obtain ⟨g2, e2, hc5⟩ := hk1.ex 5 rfl
 replace hfr1 := hfr1.cons e2
 replace h_l := h_l.mono hle1
 replace h_x := h_x.mono hle1
 replace hk_x := hk_x.mono hle1
 replace hs_x := hs_x.mono hle1
 replace hrw_x := hrw_x.mono hle1
 replace hM := hM.trans hle1
 clear hst0 hfr0 hk1
 refine hK1 _ _ ?_
 refine zE fun _ hK3 => ?_
 rcases o with _ | g
 ·skip
  have hl0 := h_l.none_nil
  subst hl0
  refine rp0 hst1 hfr1 (.cons rfl (zG rfl) <| .cons rfl (zp rfl (.cons rfl <| .nil) call72 (fun w m hK => by have hle_ := KC.le hK; have hA := KC.agree hK; exact mcloneT_nil hA)) <| .cons rfl (zH rfl) <| .nil) fun a2 w2 m2 hst2 hle2 hk2 => ?_
  have hfr2 := hk2.fr (.o 1 <| .o 5 <| .n 7 <| .nil)
  clear hst1 hfr1 hk2
  refine hK3 _ _ ?_
  refine zE fun _ hK4 => ?_
  refine zE fun _ hK5 => ?_
  refine rp0 hst2 hfr2 (.cons rfl (zG rfl) <| .cons rfl (zDw rfl underlying25) <| .nil) fun a3 w3 m3 hst3 hle3 hk3 => ?_
  have hfr3 := hk3.fr (.o 1 <| .o 5 <| .o 7 <| .n 11 <| .nil)
  clear hst2 hfr2 hk3
  refine hK5 _ _ ?_
  refine zJ hfr3 rfl rfl (fun hb11 => ?_) (fun hb11 => ?_)
  ·try simp only [nqs] at hb11
   replace hst3 := hst3.more (r := .free) trivial List.nodup_nil (by simp [Res.blocks])
   refine ra0 (tch := [(0, 0, (fun v => .map v _))]) hst3 hfr3 (.consT rfl rfl (fun _ => rfl) rfl (zFl (fun n : Int => Value.int .i64 n)) <| .consA 12 rfl rfl <| .nil) fun a4 w4 m4 hst4 hle4 hk4 => ?_
   have hfr4 := hk4.fr (.o 1 <| .o 5 <| .nil)
   obtain ⟨gm, e6, _⟩ := hk4.ex 12 rfl
   replace hfr4 := hfr4.cons (hk4.same 7 rfl e6)
   replace hst4 := hst4.fin (L' := [_]) (.cons e6 <| .nil)
   clear hst3 hfr3 hk4
   refine hK4 _ _ ?_
   refine zE fun _ hK7 => ?_
   have zq1 := hle3.trans hle4
   have zq2 := hle2.trans zq1
   replace hc5 := hc5.mono zq2
   refine ra0 (tch := [(3, 0, (fun _ => .map _ _))]) hst4 hfr4 (.cons rfl (zG rfl) <| .cons rfl (zG rfl) <| .cons rfl (zS rfl hc5 isAgg45 sizeOf45 rfl rfl) <| .consT rfl rfl (fun _ => rfl) rfl (zCI zDe rfl rfl rfl underlying25 underlying3) <| .nil) fun a5 w5 m5 hst5 hle5 hk5 => ?_
   have hfr5 := hk5.fr (.o 7 <| .nil)
   replace hst5 := hst5.fin (L' := [_]) (.cons rfl <| .nil)
   clear hst4 hfr4 hk5
   obtain ⟨m6, hle6, hst6, gF_M, eF_M, hm_M⟩ := hst5.freezeMap (k := 0) rfl
   simp only [List.set_cons_succ, List.set_cons_zero] at hst6
   injection eF_M with eF_M; injection eF_M with eF_M; subst eF_M
   have hfr6 := hfr5; obtain ⟨a6, rfl⟩ : ∃ a, a = a5 := ⟨_, rfl⟩; obtain ⟨w6, rfl⟩ : ∃ w, w = w5 := ⟨_, rfl⟩
   clear hst5 hfr5
   refine hK7 _ _ ?_
   refine zE fun _ hK8 => ?_
   refine rp0 hst6 hfr6 (.cons rfl (zG rfl) <| .cons rfl (zH rfl) <| .nil) fun a7 w7 m7 hst7 hle7 hk7 => ?_
   have hfr7 := hk7.fr (.n 6 <| .nil)
   clear hst6 hfr6 hk7
   refine hK8 _ _ ?_
   refine zU ?_
   repeat (with_reducible first | refine zL ?_ | refine zI ?_)
   have zq3 := hle6.trans hle7
   have zq4 := hle5.trans zq3
   have zq5 := zq2.trans zq4
   replace h_x := h_x.mono zq5
   replace hm_M := hm_M.mono hle7
   exact zV hst7 hfr7 rfl (.tmp rfl <| .nil) (⟨gm, rfl, MapO.of_at hm_M (EntsR.nil.set n h_x)⟩)
  ·exact absurd hb11 (by simp)
 ·skip
  obtain ⟨es, hes0, hes⟩ := h_l.at_
  replace hst1 := hst1.more (r := .free) trivial List.nodup_nil (by simp [Res.blocks])
  refine ra0 (tch := [(1, 0, (fun v => .map v (zBR KI es)))]) hst1 hfr1 (.cons rfl (zG rfl) <| .consT rfl rfl (fun _ => rfl) rfl (ZV rfl (.cons rfl <| .nil) call72 (κ := .ex (MP.mapv)) (fun σ w m hK hr hkn => by have hle_ := KC.le hK; have hA := KC.agree hK; have hM := hM.trans hle_; have h_x := h_x.mono hle_; have hk_x := hk_x.mono hle_; have hs_x := hs_x.mono hle_; have hrw_x := hrw_x.mono hle_; have hc5 := hc5.mono hle_; have hes0 := hes0.mono hle_; have hes := hes.mono hle_; exact mcloneT_t hA hes0)) <| .consA 9 rfl rfl <| .nil) fun a2 w2 m2 hst2 hle2 hk2 => ?_
  have hfr2 := hk2.fr (.o 1 <| .o 5 <| .nil)
  obtain ⟨gm, e10, _⟩ := hk2.ex 9 rfl
  replace hfr2 := hfr2.cons (hk2.same 7 rfl e10)
  replace hst2 := hst2.fin (L' := [_]) (.cons e10 <| .nil)
  clear hst1 hfr1 hk2
  refine hK3 _ _ ?_
  refine zE fun _ hK11 => ?_
  refine zE fun _ hK12 => ?_
  refine rp0 hst2 hfr2 (.cons rfl (zG rfl) <| .cons rfl (zDw rfl underlying25) <| .nil) fun a3 w3 m3 hst3 hle3 hk3 => ?_
  have hfr3 := hk3.fr (.o 1 <| .o 5 <| .o 7 <| .n 11 <| .nil)
  clear hst2 hfr2 hk3
  refine hK12 _ _ ?_
  refine zJ hfr3 rfl rfl (fun hb11 => ?_) (fun hb11 => ?_)
  ·exact absurd hb11 (by simp)
  ·try simp only [nqs] at hb11
   refine zR ?_
   refine hK11 _ _ ?_
   refine zE fun _ hK13 => ?_
   have zq6 := hle2.trans hle3
   replace hc5 := hc5.mono zq6
   refine ra0 (tch := [(3, 0, (fun _ => .map _ _))]) hst3 hfr3 (.cons rfl (zG rfl) <| .cons rfl (zG rfl) <| .cons rfl (zS rfl hc5 isAgg45 sizeOf45 rfl rfl) <| .consT rfl rfl (fun _ => rfl) rfl (zCI zDe rfl rfl rfl underlying25 underlying3) <| .nil) fun a4 w4 m4 hst4 hle4 hk4 => ?_
   have hfr4 := hk4.fr (.o 7 <| .nil)
   replace hst4 := hst4.fin (L' := [_]) (.cons rfl <| .nil)
   clear hst3 hfr3 hk4
   obtain ⟨m5, hle5, hst5, gF_M, eF_M, hm_M⟩ := hst4.freezeMap (k := 0) rfl
   simp only [List.set_cons_succ, List.set_cons_zero] at hst5
   injection eF_M with eF_M; injection eF_M with eF_M; subst eF_M
   have hfr5 := hfr4; obtain ⟨a5, rfl⟩ : ∃ a, a = a4 := ⟨_, rfl⟩; obtain ⟨w5, rfl⟩ : ∃ w, w = w4 := ⟨_, rfl⟩
   clear hst4 hfr4
   refine hK13 _ _ ?_
   refine zE fun _ hK14 => ?_
   refine rp0 hst5 hfr5 (.cons rfl (zG rfl) <| .cons rfl (zH rfl) <| .nil) fun a6 w6 m6 hst6 hle6 hk6 => ?_
   have hfr6 := hk6.fr (.n 6 <| .nil)
   clear hst5 hfr5 hk6
   refine hK14 _ _ ?_
   refine zU ?_
   repeat (with_reducible first | refine zL ?_ | refine zI ?_)
   have zq7 := hle5.trans hle6
   have zq8 := hle4.trans zq7
   have zq9 := zq6.trans zq8
   replace h_x := h_x.mono zq9
   replace hes := hes.mono zq9
   replace hm_M := hm_M.mono hle6
   exact zV hst6 hfr6 rfl (.tmp rfl <| .nil) (⟨gm, rfl, MapO.of_at hm_M (hes.set n h_x)⟩)
set_option maxHeartbeats 800000 in
theorem setR_c {w : World} {m : Mem} {o : Option Nat} {l : List (Int × Rw)} {n : Int} {x : Rw} {vs_x : List Value} (hA : Agree w m) (h_l : MapO KI RRw m o l) (h_x : RwR m x vs_x) : FnV Tryz.prog 48 #[.map o, .int .i64 n, .agg vs_x.toArray] w m (fun _ m v => (MP.mapo RRw (zBF n x l)).p m v) := by
 obtain ⟨o_x, c_x, rfl, hs_x, hr_x⟩ := h_x.open_
 have hbs_x := hs_x.big; have hcs_x := hs_x.cap
 refine zY (vs := [_, _, _]) func48 rfl rfl rfl fun a0 hfr0 => ?_
 have hst0 := zX hA (zw [] _ w m)
 have hM : MLe m m := MLe.refl m
 refine zE fun _ hK1 => ?_
 refine rp0 hst0 hfr0 (.cons rfl (ZA rfl rfl) <| .cons rfl (zH rfl) <| .nil) fun a1 w1 m1 hst1 hle1 hk1 => ?_
 have hfr1 := hk1.fr (.o 0 <| .o 1 <| .nil)
 obtain ⟨g2, e2, hc5⟩ := hk1.ex 5 rfl
 replace hfr1 := hfr1.cons e2
 replace h_l := h_l.mono hle1
 replace h_x := h_x.mono hle1
 replace hs_x := hs_x.mono hle1
 replace hM := hM.trans hle1
 clear hst0 hfr0 hk1
 refine hK1 _ _ ?_
 refine zE fun _ hK3 => ?_
 rcases o with _ | g
 ·skip
  have hl0 := h_l.none_nil
  subst hl0
  refine rp0 hst1 hfr1 (.cons rfl (zG rfl) <| .cons rfl (zp rfl (.cons rfl <| .nil) call71 (fun w m hK => by have hle_ := KC.le hK; have hA := KC.agree hK; exact mcloneR_nil hA)) <| .cons rfl (zH rfl) <| .nil) fun a2 w2 m2 hst2 hle2 hk2 => ?_
  have hfr2 := hk2.fr (.o 1 <| .o 5 <| .n 7 <| .nil)
  clear hst1 hfr1 hk2
  refine hK3 _ _ ?_
  refine zE fun _ hK4 => ?_
  refine zE fun _ hK5 => ?_
  refine rp0 hst2 hfr2 (.cons rfl (zG rfl) <| .cons rfl (zDw rfl underlying27) <| .nil) fun a3 w3 m3 hst3 hle3 hk3 => ?_
  have hfr3 := hk3.fr (.o 1 <| .o 5 <| .o 7 <| .n 11 <| .nil)
  clear hst2 hfr2 hk3
  refine hK5 _ _ ?_
  refine zJ hfr3 rfl rfl (fun hb11 => ?_) (fun hb11 => ?_)
  ·try simp only [nqs] at hb11
   replace hst3 := hst3.more (r := .free) trivial List.nodup_nil (by simp [Res.blocks])
   refine ra0 (tch := [(0, 0, (fun v => .map v _))]) hst3 hfr3 (.consT rfl rfl (fun _ => rfl) rfl (zFl (fun n : Int => Value.int .i64 n)) <| .consA 12 rfl rfl <| .nil) fun a4 w4 m4 hst4 hle4 hk4 => ?_
   have hfr4 := hk4.fr (.o 1 <| .o 5 <| .nil)
   obtain ⟨gm, e6, _⟩ := hk4.ex 12 rfl
   replace hfr4 := hfr4.cons (hk4.same 7 rfl e6)
   replace hst4 := hst4.fin (L' := [_]) (.cons e6 <| .nil)
   clear hst3 hfr3 hk4
   refine hK4 _ _ ?_
   refine zE fun _ hK7 => ?_
   have zq1 := hle3.trans hle4
   have zq2 := hle2.trans zq1
   replace hc5 := hc5.mono zq2
   refine ra0 (tch := [(3, 0, (fun _ => .map _ _))]) hst4 hfr4 (.cons rfl (zG rfl) <| .cons rfl (zG rfl) <| .cons rfl (zS rfl hc5 isAgg43 sizeOf43 rfl rfl) <| .consT rfl rfl (fun _ => rfl) rfl (zCI zDe rfl rfl rfl underlying27 underlying3) <| .nil) fun a5 w5 m5 hst5 hle5 hk5 => ?_
   have hfr5 := hk5.fr (.o 7 <| .nil)
   replace hst5 := hst5.fin (L' := [_]) (.cons rfl <| .nil)
   clear hst4 hfr4 hk5
   obtain ⟨m6, hle6, hst6, gF_M, eF_M, hm_M⟩ := hst5.freezeMap (k := 0) rfl
   simp only [List.set_cons_succ, List.set_cons_zero] at hst6
   injection eF_M with eF_M; injection eF_M with eF_M; subst eF_M
   have hfr6 := hfr5; obtain ⟨a6, rfl⟩ : ∃ a, a = a5 := ⟨_, rfl⟩; obtain ⟨w6, rfl⟩ : ∃ w, w = w5 := ⟨_, rfl⟩
   clear hst5 hfr5
   refine hK7 _ _ ?_
   refine zE fun _ hK8 => ?_
   refine rp0 hst6 hfr6 (.cons rfl (zG rfl) <| .cons rfl (zH rfl) <| .nil) fun a7 w7 m7 hst7 hle7 hk7 => ?_
   have hfr7 := hk7.fr (.n 6 <| .nil)
   clear hst6 hfr6 hk7
   refine hK8 _ _ ?_
   refine zU ?_
   repeat (with_reducible first | refine zL ?_ | refine zI ?_)
   have zq3 := hle6.trans hle7
   have zq4 := hle5.trans zq3
   have zq5 := zq2.trans zq4
   replace h_x := h_x.mono zq5
   replace hm_M := hm_M.mono hle7
   exact zV hst7 hfr7 rfl (.tmp rfl <| .nil) (⟨gm, rfl, MapO.of_at hm_M (EntsR.nil.set n h_x)⟩)
  ·exact absurd hb11 (by simp)
 ·skip
  obtain ⟨es, hes0, hes⟩ := h_l.at_
  replace hst1 := hst1.more (r := .free) trivial List.nodup_nil (by simp [Res.blocks])
  refine ra0 (tch := [(1, 0, (fun v => .map v (zBR KI es)))]) hst1 hfr1 (.cons rfl (zG rfl) <| .consT rfl rfl (fun _ => rfl) rfl (ZV rfl (.cons rfl <| .nil) call71 (κ := .ex (MP.mapv)) (fun σ w m hK hr hkn => by have hle_ := KC.le hK; have hA := KC.agree hK; have hM := hM.trans hle_; have h_x := h_x.mono hle_; have hs_x := hs_x.mono hle_; have hc5 := hc5.mono hle_; have hes0 := hes0.mono hle_; have hes := hes.mono hle_; exact mcloneR_t hA hes0)) <| .consA 9 rfl rfl <| .nil) fun a2 w2 m2 hst2 hle2 hk2 => ?_
  have hfr2 := hk2.fr (.o 1 <| .o 5 <| .nil)
  obtain ⟨gm, e10, _⟩ := hk2.ex 9 rfl
  replace hfr2 := hfr2.cons (hk2.same 7 rfl e10)
  replace hst2 := hst2.fin (L' := [_]) (.cons e10 <| .nil)
  clear hst1 hfr1 hk2
  refine hK3 _ _ ?_
  refine zE fun _ hK11 => ?_
  refine zE fun _ hK12 => ?_
  refine rp0 hst2 hfr2 (.cons rfl (zG rfl) <| .cons rfl (zDw rfl underlying27) <| .nil) fun a3 w3 m3 hst3 hle3 hk3 => ?_
  have hfr3 := hk3.fr (.o 1 <| .o 5 <| .o 7 <| .n 11 <| .nil)
  clear hst2 hfr2 hk3
  refine hK12 _ _ ?_
  refine zJ hfr3 rfl rfl (fun hb11 => ?_) (fun hb11 => ?_)
  ·exact absurd hb11 (by simp)
  ·try simp only [nqs] at hb11
   refine zR ?_
   refine hK11 _ _ ?_
   refine zE fun _ hK13 => ?_
   have zq6 := hle2.trans hle3
   replace hc5 := hc5.mono zq6
   refine ra0 (tch := [(3, 0, (fun _ => .map _ _))]) hst3 hfr3 (.cons rfl (zG rfl) <| .cons rfl (zG rfl) <| .cons rfl (zS rfl hc5 isAgg43 sizeOf43 rfl rfl) <| .consT rfl rfl (fun _ => rfl) rfl (zCI zDe rfl rfl rfl underlying27 underlying3) <| .nil) fun a4 w4 m4 hst4 hle4 hk4 => ?_
   have hfr4 := hk4.fr (.o 7 <| .nil)
   replace hst4 := hst4.fin (L' := [_]) (.cons rfl <| .nil)
   clear hst3 hfr3 hk4
   obtain ⟨m5, hle5, hst5, gF_M, eF_M, hm_M⟩ := hst4.freezeMap (k := 0) rfl
   simp only [List.set_cons_succ, List.set_cons_zero] at hst5
   injection eF_M with eF_M; injection eF_M with eF_M; subst eF_M
   have hfr5 := hfr4; obtain ⟨a5, rfl⟩ : ∃ a, a = a4 := ⟨_, rfl⟩; obtain ⟨w5, rfl⟩ : ∃ w, w = w4 := ⟨_, rfl⟩
   clear hst4 hfr4
   refine hK13 _ _ ?_
   refine zE fun _ hK14 => ?_
   refine rp0 hst5 hfr5 (.cons rfl (zG rfl) <| .cons rfl (zH rfl) <| .nil) fun a6 w6 m6 hst6 hle6 hk6 => ?_
   have hfr6 := hk6.fr (.n 6 <| .nil)
   clear hst5 hfr5 hk6
   refine hK14 _ _ ?_
   refine zU ?_
   repeat (with_reducible first | refine zL ?_ | refine zI ?_)
   have zq7 := hle5.trans hle6
   have zq8 := hle4.trans zq7
   have zq9 := zq6.trans zq8
   replace h_x := h_x.mono zq9
   replace hes := hes.mono zq9
   replace hm_M := hm_M.mono hle6
   exact zV hst6 hfr6 rfl (.tmp rfl <| .nil) (⟨gm, rfl, MapO.of_at hm_M (hes.set n h_x)⟩)
set_option maxHeartbeats 400000 in
theorem none_c {w : World} {m : Mem}  (hA : Agree w m)  : FnV Tryz.prog 10 #[] w m (fun _ m v => (MP.sub ⟨[], []⟩).p m v) := by
 refine zY (vs := []) func10 rfl rfl rfl fun a0 hfr0 => ?_
 have hst0 := zX hA (zw [] _ w m)
 have hM : MLe m m := MLe.refl m
 refine zE fun _ hK1 => ?_
 replace hst0 := hst0.more (r := .free) trivial List.nodup_nil (by simp [Res.blocks])
 refine ra0 (tch := [(0, 0, (fun v => .blk v _))]) hst0 hfr0 (.consT rfl rfl (fun _ => rfl) rfl (zj zeroValue29 rfl) <| .nil) fun a1 w1 m1 hst1 hle1 hk1 => ?_
 have hfr1 := hk1.fr (.nil)
 obtain ⟨g2, e2, _⟩ := hk1.ex 0 rfl
 replace hfr1 := hfr1.cons e2
 replace hst1 := hst1.fin (L' := [_]) (.cons e2 <| .nil)
 clear hst0 hfr0 hk1
 refine hK1 _ _ ?_
 refine zE fun _ hK3 => ?_
 refine ra0 (tch := [(1, 0, (fun _ => .blk _ _))]) hst1 hfr1 (.cons rfl (ZM (.nil) underlying29 zeroValue29 (.cons sizeOf25 <| .cons sizeOf27 <| .nil) rfl) <| .consT rfl rfl (fun _ => rfl) rfl (zm rfl rfl rfl sizeOf29 rfl rfl rfl) <| .nil) fun a2 w2 m2 hst2 hle2 hk2 => ?_
 have hfr2 := hk2.fr (.o 0 <| .nil)
 replace hst2 := hst2.fin (L' := [_]) (.cons rfl <| .nil)
 try simp only [List.take_succ_cons, List.take_zero, List.drop_succ_cons, List.drop_zero, List.cons_append, List.nil_append, List.append_nil, List.length_cons, List.length_nil, Nat.zero_add, Nat.reduceAdd] at hst2
 clear hst1 hfr1 hk2
 refine hK3 _ _ ?_
 refine zU ?_
 repeat (with_reducible first | refine zL ?_ | refine zI ?_)
 exact zV hst2 hfr2 rfl (.cell rfl (ZO (ZJ (hst2.loc.at_ (k := 0) rfl)) isAgg29 sizeOf29) <| .nil) (⟨(none, none), rfl, _, _, rfl, MapO.nil, MapO.nil⟩)
set_option maxHeartbeats 400000 in
theorem setType_c {w : World} {m : Mem} {s : Sub} {vs_s : List Value} {n : Int} {t : Ty} {vs_t : List Value} (hA : Agree w m) (h_s : SubR m s vs_s) (h_t : TyR m t vs_t) (hb : wdT t ≤ 1073741824) : FnV Tryz.prog 26 #[.agg vs_s.toArray, .int .i64 n, .agg vs_t.toArray] w m (fun _ m v => (MP.sub ⟨zBF n t s.ts, s.rs⟩).p m v) := by
 obtain ⟨oT_s, oR_s, rfl, hst_s, hsr_s⟩ := id h_s
 obtain ⟨o_t, c_t, oL_t, cL_t, rfl, hk_t, hs_t, hi_t, hj_t, hr_t⟩ := h_t.open_
 have hbg_t := hk_t.big; have hcp_t := hk_t.cap; have hbs_t := hs_t.big; have hcs_t := hs_t.cap
 have hrw_t : RwR _ ⟨t.labels, t.rv⟩ _ := ⟨_, _, rfl, hs_t, hr_t⟩
 refine zY (vs := [_, _, _]) func26 rfl rfl rfl fun a0 hfr0 => ?_
 have hst0 := zX hA (zw [] _ w m)
 have hM : MLe m m := MLe.refl m
 refine zE fun _ hK1 => ?_
 replace hst0 := hst0.more (r := .free) trivial List.nodup_nil (by simp [Res.blocks])
 replace hst0 := hst0.more (r := .free) trivial List.nodup_nil (by simp [Res.blocks])
 refine ra0 (tch := [(0, 0, (fun v => .blk v _)), (2, 1, (fun v => .blk v _))]) hst0 hfr0 (.consT rfl rfl (fun _ => rfl) rfl (zAR rfl rfl) <| .cons rfl (ZA rfl rfl) <| .consT rfl rfl (fun _ => rfl) rfl (zj zeroValue29 rfl) <| .nil) fun a1 w1 m1 hst1 hle1 hk1 => ?_
 have hfr1 := hk1.fr (.o 1 <| .nil)
 obtain ⟨g2, e2, _⟩ := hk1.ex 3 rfl
 replace hfr1 := hfr1.cons e2
 obtain ⟨g3, e3, hc5⟩ := hk1.ex 5 rfl
 replace hfr1 := hfr1.cons e3
 obtain ⟨g4, e4, _⟩ := hk1.ex 6 rfl
 replace hfr1 := hfr1.cons e4
 replace hst1 := hst1.fin (L' := [_, _]) (.cons e2 <| .cons e4 <| .nil)
 replace hst_s := hst_s.mono hle1
 replace hsr_s := hsr_s.mono hle1
 replace h_t := h_t.mono hle1
 clear hst0 hfr0 hk1
 refine hK1 _ _ ?_
 refine zE fun _ hK5 => ?_
 refine zn (tch := [(7, 0, (fun u => .blk _ (.cells (_ ++ [u] ++ _).toArray _)))]) (fun _ => mixed) hst1 hfr1 (by kernel_rfl) (by kernel_rfl) (by kernel_rfl) (.cons rfl (zF (off := 0) rfl underlying29 rfl rfl sizeOf25 rfl) <| .cons rfl (zW (j := 0) rfl rfl isAgg25 rfl) <| .cons rfl (zG rfl) <| .cons rfl (zS rfl hc5 isAgg45 sizeOf45 rfl rfl) <| .cons rfl (zZ (φ := MP.ty (t)) rfl (.cons rfl <| .nil) call41 (fun w m hK => by have hle_ := KC.le hK; have hA := KC.agree hK; have h_t := h_t.mono hle_; exact FnG.mono (zDo (t) hA h_t hb) fun _ _ _ _ h => h)) <| .cons rfl (ZI 11 rfl rfl rfl fun y11 => zZ (φ := MP.mapo RTy (zBF n t s.ts)) rfl (.cons rfl <| .cons rfl <| .cons rfl <| .nil) call49 (fun w m hK => by have hle_ := KC.le hK; have hA := KC.agree hK; have hr0_ := hK.2; have hst_s := hst_s.mono hle_; exact FnG.mono (setT_c (n := n) hA hst_s hr0_) fun _ _ _ _ h => h)) <| .cons rfl (zF (off := 0) rfl underlying29 rfl rfl sizeOf25 rfl) <| .consT rfl rfl (fun _ => rfl) rfl (ze 12 rfl rfl rfl fun y12 => Ze rfl rfl rfl rfl rfl sizeOf25 rfl rfl rfl) <| .nil) fun a2 w2 m2 hst2 hle2 hk2 => ?_
 have hfr2 := hk2.fr (.o 3 <| .o 6 <| .nil)
 obtain ⟨gn, e6, hgn⟩ := hk2.ex 12 rfl
 replace hst2 := hst2.fin (L' := [_, _]) (.cons e6 <| .nil)
 try simp only [List.take_succ_cons, List.take_zero, List.drop_succ_cons, List.drop_zero, List.cons_append, List.nil_append, List.append_nil, List.length_cons, List.length_nil, Nat.zero_add, Nat.reduceAdd] at hst2
 replace hsr_s := hsr_s.mono hle2
 clear hst1 hfr1 hk2
 refine hK5 _ _ ?_
 refine zE fun _ hK7 => ?_
 refine ra0 (tch := [(1, 1, (fun _ => .blk _ _))]) hst2 hfr2 (.cons rfl (zh (j := 0) rfl rfl isAgg29 sizeOf29 rfl) <| .consT rfl rfl (fun _ => rfl) rfl (zm rfl rfl rfl sizeOf29 rfl rfl rfl) <| .nil) fun a3 w3 m3 hst3 hle3 hk3 => ?_
 have hfr3 := hk3.fr (.o 6 <| .nil)
 replace hst3 := hst3.fin (L' := [_, _]) (.cons rfl <| .nil)
 try simp only [List.take_succ_cons, List.take_zero, List.drop_succ_cons, List.drop_zero, List.cons_append, List.nil_append, List.append_nil, List.length_cons, List.length_nil, Nat.zero_add, Nat.reduceAdd] at hst3
 replace hsr_s := hsr_s.mono hle3
 replace hgn := hgn.mono hle3
 clear hst2 hfr2 hk3
 refine hK7 _ _ ?_
 refine zU ?_
 repeat (with_reducible first | refine zL ?_ | refine zI ?_)
 exact zV hst3 hfr3 rfl (.cell rfl (ZO (ZJ (hst3.loc.at_ (k := 1) rfl)) isAgg29 sizeOf29) <| .nil) (⟨(some gn, oR_s), rfl, _, _, rfl, hgn, hsr_s⟩)
set_option maxHeartbeats 400000 in
theorem setRow_c {w : World} {m : Mem} {s : Sub} {vs_s : List Value} {n : Int} {r : Rw} {vs_r : List Value} (hA : Agree w m) (h_s : SubR m s vs_s) (h_r : RwR m r vs_r) (hb : r.labels.length ≤ 1073741824) : FnV Tryz.prog 24 #[.agg vs_s.toArray, .int .i64 n, .agg vs_r.toArray] w m (fun _ m v => (MP.sub ⟨s.ts, zBF n r s.rs⟩).p m v) := by
 obtain ⟨oT_s, oR_s, rfl, hst_s, hsr_s⟩ := id h_s
 obtain ⟨o_r, c_r, rfl, hs_r, hr_r⟩ := h_r.open_
 have hbs_r := hs_r.big; have hcs_r := hs_r.cap
 refine zY (vs := [_, _, _]) func24 rfl rfl rfl fun a0 hfr0 => ?_
 have hst0 := zX hA (zw [] _ w m)
 have hM : MLe m m := MLe.refl m
 refine zE fun _ hK1 => ?_
 replace hst0 := hst0.more (r := .free) trivial List.nodup_nil (by simp [Res.blocks])
 replace hst0 := hst0.more (r := .free) trivial List.nodup_nil (by simp [Res.blocks])
 replace hst0 := hst0.more (r := .free) trivial List.nodup_nil (by simp [Res.blocks])
 refine ra0 (tch := [(0, 0, (fun v => .blk v _)), (1, 1, (fun v => .blk v _)), (2, 2, (fun v => .blk v _))]) hst0 hfr0 (.consT rfl rfl (fun _ => rfl) rfl (zAR rfl rfl) <| .consT rfl rfl (fun _ => rfl) rfl (zAR rfl rfl) <| .consT rfl rfl (fun _ => rfl) rfl (zj zeroValue29 rfl) <| .nil) fun a1 w1 m1 hst1 hle1 hk1 => ?_
 have hfr1 := hk1.fr (.o 1 <| .nil)
 obtain ⟨g2, e2, _⟩ := hk1.ex 3 rfl
 replace hfr1 := hfr1.cons e2
 obtain ⟨g3, e3, _⟩ := hk1.ex 5 rfl
 replace hfr1 := hfr1.cons e3
 obtain ⟨g4, e4, _⟩ := hk1.ex 6 rfl
 replace hfr1 := hfr1.cons e4
 replace hst1 := hst1.fin (L' := [_, _, _]) (.cons e2 <| .cons e3 <| .cons e4 <| .nil)
 replace h_s := h_s.mono hle1
 replace hst_s := hst_s.mono hle1
 replace hsr_s := hsr_s.mono hle1
 replace h_r := h_r.mono hle1
 replace hs_r := hs_r.mono hle1
 replace hM := hM.trans hle1
 clear hst0 hfr0 hk1
 refine hK1 _ _ ?_
 refine zE fun _ hK5 => ?_
 replace hst1 := hst1.more (r := .free) trivial List.nodup_nil (by simp [Res.blocks])
 refine ra0 (tch := [(2, 3, (fun v => .row (nz v) _ _ _ _)), (4, 1, (fun u => .blk _ (.cells (_ ++ [u] ++ _).toArray _)))]) hst1 hfr1 (.cons rfl (zF (off := 0) rfl underlying43 rfl rfl sizeOf41 rfl) <| .cons rfl (zW (j := 1) rfl rfl isAgg41 rfl) <| .consT rfl rfl (fun _ => rfl) rfl (ZV rfl (.cons rfl <| .nil) call47 (κ := .ex (MP.sl (r.labels).length ((r.labels).map S))) (fun σ w m hK hr hkn => by have hle_ := KC.le hK; have hA := KC.agree hK; have hM := hM.trans hle_; have h_s := h_s.mono hle_; have hst_s := hst_s.mono hle_; have hsr_s := hsr_s.mono hle_; have h_r := h_r.mono hle_; have hs_r := hs_r.mono hle_; exact zEz hA hs_r (by omega))) <| .cons rfl (zF (off := 0) rfl underlying43 rfl rfl sizeOf41 rfl) <| .consT rfl rfl (fun _ => rfl) rfl (ze 9 rfl rfl rfl fun y9 => Ze rfl rfl rfl rfl rfl sizeOf41 rfl rfl rfl) <| .nil) fun a2 w2 m2 hst2 hle2 hk2 => ?_
 have hfr2 := hk2.fr (.o 1 <| .o 3 <| .o 5 <| .o 6 <| .nil)
 obtain ⟨⟨oz6, cz6⟩, e7, hrz6, hcz6⟩ := hk2.ex 9 rfl
 replace hst2 := hst2.fin (L' := [_, _, _, _]) (.cons e7 <| .cons e7 <| .nil)
 try simp only [List.take_succ_cons, List.take_zero, List.drop_succ_cons, List.drop_zero, List.cons_append, List.nil_append, List.append_nil, List.length_cons, List.length_nil, Nat.zero_add, Nat.reduceAdd] at hst2
 replace hst_s := hst_s.mono hle2
 replace hsr_s := hsr_s.mono hle2
 clear hst1 hfr1 hk2
 have hsz6 : Strs m2 oz6 (r.labels).length cz6 r.labels := Reads.sl (zDH r.labels) hrz6 (by decide) rfl hcz6 (by omega)
 refine hK5 _ _ ?_
 refine zE fun _ hK8 => ?_
 refine ra0 (tch := [(6, 0, (fun u => .blk _ (.cells (_ ++ [u] ++ _).toArray _)))]) hst2 hfr2 (.cons rfl (zF (off := 1) rfl underlying29 rfl rfl sizeOf27 rfl) <| .cons rfl (zW (j := 0) rfl rfl isAgg27 rfl) <| .cons rfl (zG rfl) <| .cons rfl (zh (j := 1) rfl rfl isAgg43 sizeOf43 rfl) <| .cons rfl (zZ (φ := MP.mapo RRw (zBF n r s.rs)) rfl (.cons rfl <| .cons rfl <| .cons rfl <| .nil) call48 (fun w m hK => by have hle_ := KC.le hK; have hA := KC.agree hK; have hsr_s := hsr_s.mono hle_; have hsz6 := hsz6.mono hle_; exact FnG.mono (setR_c (n := n) (x := r) hA hsr_s ⟨_, _, rfl, hsz6, hr_r⟩) fun _ _ _ _ h => h)) <| .cons rfl (zF (off := 1) rfl underlying29 rfl rfl sizeOf27 rfl) <| .consT rfl rfl (fun _ => rfl) rfl (ze 15 rfl rfl rfl fun y15 => Ze rfl rfl rfl rfl rfl sizeOf27 rfl rfl rfl) <| .nil) fun a3 w3 m3 hst3 hle3 hk3 => ?_
 have hfr3 := hk3.fr (.o 3 <| .o 6 <| .nil)
 obtain ⟨gn, e9, hgn⟩ := hk3.ex 15 rfl
 replace hst3 := hst3.fin (L' := [_, _, _, _]) (.cons e9 <| .nil)
 try simp only [List.take_succ_cons, List.take_zero, List.drop_succ_cons, List.drop_zero, List.cons_append, List.nil_append, List.append_nil, List.length_cons, List.length_nil, Nat.zero_add, Nat.reduceAdd] at hst3
 replace hst_s := hst_s.mono hle3
 clear hst2 hfr2 hk3
 refine hK8 _ _ ?_
 refine zE fun _ hK10 => ?_
 refine ra0 (tch := [(1, 2, (fun _ => .blk _ _))]) hst3 hfr3 (.cons rfl (zh (j := 0) rfl rfl isAgg29 sizeOf29 rfl) <| .consT rfl rfl (fun _ => rfl) rfl (zm rfl rfl rfl sizeOf29 rfl rfl rfl) <| .nil) fun a4 w4 m4 hst4 hle4 hk4 => ?_
 have hfr4 := hk4.fr (.o 6 <| .nil)
 replace hst4 := hst4.fin (L' := [_, _, _, _]) (.cons rfl <| .nil)
 try simp only [List.take_succ_cons, List.take_zero, List.drop_succ_cons, List.drop_zero, List.cons_append, List.nil_append, List.append_nil, List.length_cons, List.length_nil, Nat.zero_add, Nat.reduceAdd] at hst4
 replace hst_s := hst_s.mono hle4
 replace hgn := hgn.mono hle4
 clear hst3 hfr3 hk4
 refine hK10 _ _ ?_
 refine zU ?_
 repeat (with_reducible first | refine zL ?_ | refine zI ?_)
 exact zV hst4 hfr4 rfl (.cell rfl (ZO (ZJ (hst4.loc.at_ (k := 2) rfl)) isAgg29 sizeOf29) <| .nil) (⟨(oT_s, some gn), rfl, _, _, rfl, hst_s, hgn⟩)
set_option maxHeartbeats 400000 in
theorem type_c {w : World} {m : Mem} {s : Sub} {vs_s : List Value} {n : Int} (hA : Agree w m) (h_s : SubR m s vs_s) (hb : ∀ t, zP n s.ts = some t → wdT t ≤ 1073741824) : FnV Tryz.prog 83 #[.agg vs_s.toArray, .int .i64 n] w m (fun _ m v => (MP.tyb ((zP n s.ts).getD zAu) (zP n s.ts).isSome).p m v) := by
 obtain ⟨oT_s, oR_s, rfl, hst_s, hsr_s⟩ := id h_s
 refine zY (vs := [_, _]) func83 rfl rfl rfl fun a0 hfr0 => ?_
 have hst0 := zX hA (zw [] _ w m)
 have hM : MLe m m := MLe.refl m
 refine zE fun _ hK1 => ?_
 replace hst0 := hst0.more (r := .free) trivial List.nodup_nil (by simp [Res.blocks])
 refine ra0 (tch := [(1, 0, (fun v => .blk v _))]) hst0 hfr0 (.cons rfl (ZA rfl rfl) <| .consT rfl rfl (fun _ => rfl) rfl (zj zeroValue45 rfl) <| .cons rfl (zH rfl) <| .nil) fun a1 w1 m1 hst1 hle1 hk1 => ?_
 have hfr1 := hk1.fr (.o 1 <| .nil)
 obtain ⟨g2, e2, hc2⟩ := hk1.ex 2 rfl
 replace hfr1 := hfr1.cons e2
 obtain ⟨g3, e3, _⟩ := hk1.ex 4 rfl
 replace hfr1 := hfr1.cons e3
 replace hst1 := hst1.fin (L' := [_]) (.cons e3 <| .nil)
 replace hst_s := hst_s.mono hle1
 clear hst0 hfr0 hk1
 refine hK1 _ _ ?_
 refine zE fun _ hK4 => ?_
 obtain ⟨vs5, x5, b5, hlk5, hb5_, hx5_, hv5⟩ := hst_s.look (n) zGS
 obtain ⟨o5, c5, oL5, cL5, rfl, hkd5, hs5, hi5, hj5, hr5⟩ := hv5.open_
 have hbg5 := hkd5.big; have hcp5 := hkd5.cap; have hbs5 := hs5.big; have hcs5 := hs5.cap
 have hrw5 : RwR _ ⟨x5.labels, x5.rv⟩ _ := ⟨_, _, rfl, hs5, hr5⟩
 replace hst1 := hst1.more (r := .free) trivial List.nodup_nil (by simp [Res.blocks])
 refine ra0 (tch := [(7, 1, (fun v => .blk v _)), (8, 1, (fun v => .blk v _))]) hst1 hfr1 (.cons rfl (zF (off := 0) rfl underlying29 rfl rfl sizeOf25 rfl) <| .cons rfl (zK rfl hc2 isAgg25 rfl) <| .cons rfl (zG rfl) <| .cons rfl (zDE zDe rfl rfl (fun w m hK => hlk5.mono (KC.le hK)) underlying25 underlying3 zeroValue45) <| .cons rfl (zG rfl) <| .cons rfl (zk rfl rfl) <| .cons rfl (zk rfl rfl) <| .consT rfl rfl (fun _ => rfl) rfl (zj zeroValue45 rfl) <| .consT rfl rfl (fun _ => rfl) rfl (ze 6 rfl rfl rfl fun y6 => ZD rfl rfl rfl rfl rfl sizeOf45 rfl rfl rfl) <| .cons rfl (zH rfl) <| .nil) fun a2 w2 m2 hst2 hle2 hk2 => ?_
 have hfr2 := hk2.fr (.o 4 <| .n 7 <| .nil)
 obtain ⟨g6, e6, _⟩ := hk2.ex 6 rfl
 replace hfr2 := hfr2.cons e6
 replace hst2 := hst2.fin (L' := [_, _]) (.cons e6 <| .cons e6 <| .nil)
 try simp only [List.take_succ_cons, List.take_zero, List.drop_succ_cons, List.drop_zero, List.cons_append, List.nil_append, List.append_nil, List.length_cons, List.length_nil, Nat.zero_add, Nat.reduceAdd] at hst2
 replace hv5 := hv5.mono hle2
 clear hst1 hfr1 hk2
 have hbx : wdT x5 ≤ 1073741824 := by rw [hx5_]; cases hq : zP n s.ts with | none => (simp only [Option.getD_none]; decide) | some t => exact hb t hq
 refine hK4 _ _ ?_
 refine zE fun _ hK7 => ?_
 refine ra0 (tch := [(3, 0, (fun _ => .blkx _ _ _))]) hst2 hfr2 (.cons rfl (zh (j := 1) rfl rfl isAgg45 sizeOf45 rfl) <| .cons rfl (zZ (φ := MP.ty (x5)) rfl (.cons rfl <| .nil) call41 (fun w m hK => by have hle_ := KC.le hK; have hA := KC.agree hK; have hv5 := hv5.mono hle_; exact FnG.mono (zDo (x5) hA hv5 hbx) fun _ _ _ _ h => h)) <| .cons rfl (zG rfl) <| .consT rfl rfl (fun _ => rfl) rfl (ZL 16 rfl rfl rfl fun y16 => zm rfl rfl rfl sizeOf45 rfl rfl rfl) <| .cons rfl (zH rfl) <| .nil) fun a3 w3 m3 hst3 hle3 hk3 => ?_
 have hfr3 := hk3.fr (.o 4 <| .n 5 <| .nil)
 replace hst3 := hst3.fin (L' := [_, _]) (.cons rfl <| .nil)
 try simp only [List.take_succ_cons, List.take_zero, List.drop_succ_cons, List.drop_zero, List.cons_append, List.nil_append, List.append_nil, List.length_cons, List.length_nil, Nat.zero_add, Nat.reduceAdd] at hst3
 obtain ⟨⟨⟨oa, ca⟩, ol, cl⟩, hcv, hst3⟩ := hst3.unx (k := 0) rfl (fun _ => rfl)
 clear hst2 hfr2 hk3
 refine hK7 _ _ ?_
 refine zU ?_
 repeat (with_reducible first | refine zL ?_ | refine zI ?_)
 exact zV hst3 hfr3 rfl (.cell rfl (ZO (ZJ (hst3.loc.at_ (k := 0) rfl)) isAgg45 sizeOf45) <| .tmp rfl <| .nil) (⟨((oa, ca), (ol, cl)), by rw [← hx5_, ← hb5_]; rfl, by rw [← hx5_]; exact hcv⟩)
set_option maxHeartbeats 400000 in
theorem row_c {w : World} {m : Mem} {s : Sub} {vs_s : List Value} {n : Int} (hA : Agree w m) (h_s : SubR m s vs_s) (hb : ∀ r, zP n s.rs = some r → r.labels.length ≤ 1073741824) : FnV Tryz.prog 31 #[.agg vs_s.toArray, .int .i64 n] w m (fun _ m v => (MP.rwb ((zP n s.rs).getD zDM) (zP n s.rs).isSome).p m v) := by
 obtain ⟨oT_s, oR_s, rfl, hst_s, hsr_s⟩ := id h_s
 refine zY (vs := [_, _]) func31 rfl rfl rfl fun a0 hfr0 => ?_
 have hst0 := zX hA (zw [] _ w m)
 have hM : MLe m m := MLe.refl m
 refine zE fun _ hK1 => ?_
 replace hst0 := hst0.more (r := .free) trivial List.nodup_nil (by simp [Res.blocks])
 refine ra0 (tch := [(1, 0, (fun v => .blk v _))]) hst0 hfr0 (.cons rfl (ZA rfl rfl) <| .consT rfl rfl (fun _ => rfl) rfl (zj zeroValue43 rfl) <| .cons rfl (zH rfl) <| .nil) fun a1 w1 m1 hst1 hle1 hk1 => ?_
 have hfr1 := hk1.fr (.o 1 <| .nil)
 obtain ⟨g2, e2, hc2⟩ := hk1.ex 2 rfl
 replace hfr1 := hfr1.cons e2
 obtain ⟨g3, e3, _⟩ := hk1.ex 4 rfl
 replace hfr1 := hfr1.cons e3
 replace hst1 := hst1.fin (L' := [_]) (.cons e3 <| .nil)
 replace h_s := h_s.mono hle1
 replace hst_s := hst_s.mono hle1
 replace hsr_s := hsr_s.mono hle1
 replace hM := hM.trans hle1
 clear hst0 hfr0 hk1
 refine hK1 _ _ ?_
 refine zE fun _ hK4 => ?_
 obtain ⟨vs5, x5, b5, hlk5, hb5_, hx5_, hv5⟩ := hsr_s.look (n) zGq
 obtain ⟨o5, c5, rfl, hs5, hr5⟩ := hv5.open_
 have hbs5 := hs5.big; have hcs5 := hs5.cap
 replace hst1 := hst1.more (r := .free) trivial List.nodup_nil (by simp [Res.blocks])
 refine ra0 (tch := [(7, 1, (fun v => .blk v _)), (8, 1, (fun v => .blk v _))]) hst1 hfr1 (.cons rfl (zF (off := 1) rfl underlying29 rfl rfl sizeOf27 rfl) <| .cons rfl (zK rfl hc2 isAgg27 rfl) <| .cons rfl (zG rfl) <| .cons rfl (zDE zDe rfl rfl (fun w m hK => hlk5.mono (KC.le hK)) underlying27 underlying3 zeroValue43) <| .cons rfl (zG rfl) <| .cons rfl (zk rfl rfl) <| .cons rfl (zk rfl rfl) <| .consT rfl rfl (fun _ => rfl) rfl (zj zeroValue43 rfl) <| .consT rfl rfl (fun _ => rfl) rfl (ze 6 rfl rfl rfl fun y6 => ZD rfl rfl rfl rfl rfl sizeOf43 rfl rfl rfl) <| .cons rfl (zH rfl) <| .nil) fun a2 w2 m2 hst2 hle2 hk2 => ?_
 have hfr2 := hk2.fr (.o 4 <| .n 7 <| .nil)
 obtain ⟨g6, e6, _⟩ := hk2.ex 6 rfl
 replace hfr2 := hfr2.cons e6
 replace hst2 := hst2.fin (L' := [_, _]) (.cons e6 <| .cons e6 <| .nil)
 try simp only [List.take_succ_cons, List.take_zero, List.drop_succ_cons, List.drop_zero, List.cons_append, List.nil_append, List.append_nil, List.length_cons, List.length_nil, Nat.zero_add, Nat.reduceAdd] at hst2
 replace h_s := h_s.mono hle2
 replace hst_s := hst_s.mono hle2
 replace hsr_s := hsr_s.mono hle2
 replace hc2 := hc2.mono hle2
 replace hlk5 := hlk5.mono hle2
 replace hv5 := hv5.mono hle2
 replace hs5 := hs5.mono hle2
 replace hM := hM.trans hle2
 clear hst1 hfr1 hk2
 have hbx : x5.labels.length ≤ 1073741824 := by rw [hx5_]; cases hq : zP n s.rs with | none => (simp only [Option.getD_none]; decide) | some t => exact hb t hq
 refine hK4 _ _ ?_
 refine zE fun _ hK7 => ?_
 replace hst2 := hst2.more (r := .free) trivial List.nodup_nil (by simp [Res.blocks])
 refine ra0 (tch := [(2, 2, (fun v => .row (nz v) _ _ _ _)), (4, 1, (fun u => .blk _ (.cells (_ ++ [u] ++ _).toArray _)))]) hst2 hfr2 (.cons rfl (zF (off := 0) rfl underlying43 rfl rfl sizeOf41 rfl) <| .cons rfl (zW (j := 1) rfl rfl isAgg41 rfl) <| .consT rfl rfl (fun _ => rfl) rfl (ZV rfl (.cons rfl <| .nil) call47 (κ := .ex (MP.sl (x5.labels).length ((x5.labels).map S))) (fun σ w m hK hr hkn => by have hle_ := KC.le hK; have hA := KC.agree hK; have hM := hM.trans hle_; have h_s := h_s.mono hle_; have hst_s := hst_s.mono hle_; have hsr_s := hsr_s.mono hle_; have hc2 := hc2.mono hle_; have hlk5 := hlk5.mono hle_; have hv5 := hv5.mono hle_; have hs5 := hs5.mono hle_; exact zEz hA hs5 (by omega))) <| .cons rfl (zF (off := 0) rfl underlying43 rfl rfl sizeOf41 rfl) <| .consT rfl rfl (fun _ => rfl) rfl (ze 17 rfl rfl rfl fun y17 => Ze rfl rfl rfl rfl rfl sizeOf41 rfl rfl rfl) <| .nil) fun a3 w3 m3 hst3 hle3 hk3 => ?_
 have hfr3 := hk3.fr (.o 4 <| .o 7 <| .o 6 <| .nil)
 obtain ⟨⟨oz8, cz8⟩, e9, hrz8, hcz8⟩ := hk3.ex 17 rfl
 replace hst3 := hst3.fin (L' := [_, _, _]) (.cons e9 <| .cons e9 <| .nil)
 try simp only [List.take_succ_cons, List.take_zero, List.drop_succ_cons, List.drop_zero, List.cons_append, List.nil_append, List.append_nil, List.length_cons, List.length_nil, Nat.zero_add, Nat.reduceAdd] at hst3
 clear hst2 hfr2 hk3
 have hsz8 : Strs m3 oz8 (x5.labels).length cz8 x5.labels := Reads.sl (zDH x5.labels) hrz8 (by decide) rfl hcz8 (by omega)
 refine hK7 _ _ ?_
 refine zE fun _ hK10 => ?_
 refine ra0 (tch := [(2, 0, (fun _ => .blk _ _))]) hst3 hfr3 (.cons rfl (zh (j := 1) rfl rfl isAgg43 sizeOf43 rfl) <| .cons rfl (zG rfl) <| .consT rfl rfl (fun _ => rfl) rfl (zm rfl rfl rfl sizeOf43 rfl rfl rfl) <| .cons rfl (zH rfl) <| .nil) fun a4 w4 m4 hst4 hle4 hk4 => ?_
 have hfr4 := hk4.fr (.o 4 <| .n 5 <| .nil)
 replace hst4 := hst4.fin (L' := [_, _, _]) (.cons rfl <| .nil)
 try simp only [List.take_succ_cons, List.take_zero, List.drop_succ_cons, List.drop_zero, List.cons_append, List.nil_append, List.append_nil, List.length_cons, List.length_nil, Nat.zero_add, Nat.reduceAdd] at hst4
 replace hsz8 := hsz8.mono hle4
 clear hst3 hfr3 hk4
 refine hK10 _ _ ?_
 refine zU ?_
 repeat (with_reducible first | refine zL ?_ | refine zI ?_)
 exact zV hst4 hfr4 rfl (.cell rfl (ZO (ZJ (hst4.loc.at_ (k := 0) rfl)) isAgg43 sizeOf43) <| .tmp rfl <| .nil) (⟨(oz8, cz8), by rw [← hx5_, ← hb5_]; rfl, by rw [← hx5_]; exact ⟨_, _, rfl, hsz8, hr5⟩⟩)
def argsV : Value → Value
 | .agg a => a.getD 3 undef
 | v => v
def MP.tyA (t : Ty) : MP := MP.mem (fun y => .agg (tyV t y).toArray) (fun y m => t.args.length ≤ y.1.2 ∧ Strs m y.2.1 t.labels.length y.2.2 t.labels) fun hm h => ⟨h.1, h.2.mono hm⟩
def zQ (s : Sub) (r : Rw) : Rw := match zP r.var s.rs with
 | some x => if r.var = 0 then ⟨ZT r.labels, r.var⟩ else ⟨ZT (r.labels ++ x.labels), x.var⟩
 | none => ⟨ZT r.labels, r.var⟩
mutual
def zM (s : Sub) : Ty → Ty
 | ⟨k, nm, v, ts, ls, rv⟩ => if k = 7 then (zP v s.ts).getD ⟨k, nm, v, ts, ls, rv⟩ else ⟨k, nm, v, zo s ts, if k = 5 then (zQ s ⟨ls, rv⟩).labels else ls, if k = 5 then (zQ s ⟨ls, rv⟩).var else rv⟩
def zo (s : Sub) : List Ty → List Ty
 | [] => []
 | t :: ts => zM s t :: zo s ts
end
theorem ZP {s : Sub} {t : Ty} (h : t.kind = 7) : zM s t = (zP t.var s.ts).getD t := by obtain ⟨k, n, v, ts, ls, r⟩ := t; rw [zM]; exact if_pos h
theorem Zb {s : Sub} {t : Ty} (h : ¬ t.kind = 7) : zM s t = ⟨t.kind, t.name, t.var, zo s t.args, if t.kind = 5 then (zQ s ⟨t.labels, t.rv⟩).labels else t.labels, if t.kind = 5 then (zQ s ⟨t.labels, t.rv⟩).var else t.rv⟩ := by obtain ⟨k, n, v, ts, ls, r⟩ := t; rw [zM]; exact if_neg h
theorem zBZ (s : Sub) : ∀ l : List Ty, (zo s l).length = l.length
 | [] => rfl
 | t :: ts => by rw [zo, List.length_cons, List.length_cons, zBZ s ts]
def SubW (B : Nat) (s : Sub) : Prop := (∀ n t, zP n s.ts = some t → wdT t ≤ B) ∧ ∀ n r, zP n s.rs = some r → r.labels.length ≤ B
theorem get_midY {α : Type} {d l : List α} {x : α} {y : Nat} (h : d.length = y) : (d ++ x :: l)[y]? = some x := by subst h; exact get_mid d l x
theorem set_midY {α : Type} {d l : List α} {x z : α} {y : Nat} (h : d.length = y) : (d ++ x :: l).set y z = (d ++ [z]) ++ l := by subst h; exact set_mid d l x z
set_option maxHeartbeats 1600000 in
theorem copiedO_g {w : World} {m : Mem} {t : Ty} {vs_t : List Value} (hA : Agree w m) (h_t : TyR m t vs_t) (hb : wdT t ≤ 1073741824) : FnG Tryz.prog 41 #[.agg vs_t.toArray] [] w m (fun w' m' v => Loc [] w.heap.size [.mrowx (argsV v) t.args.length 6 45 (MP.reads (fun m vs t => TyR m t vs) 6 t.args)] w' m' ∧ (MP.tyA t).p m' v) := by
 obtain ⟨o_t, c_t, oL_t, cL_t, rfl, hk_t, hs_t, hi_t, hj_t, hr_t⟩ := h_t.open_
 have hbg_t := hk_t.big; have hcp_t := hk_t.cap; have hbs_t := hs_t.big; have hcs_t := hs_t.cap
 have hrw_t : RwR _ ⟨t.labels, t.rv⟩ _ := ⟨_, _, rfl, hs_t, hr_t⟩
 refine zY (vs := [_]) func41 rfl rfl rfl fun a0 hfr0 => ?_
 have hst0 := zX hA (zw [] _ w m)
 have hM : MLe m m := MLe.refl m
 have hbk := fun u (hu : u ∈ t.args) => zAT hu
 have hbe := zAt t
 refine zE fun _ hK1 => ?_
 replace hst0 := hst0.more (r := .free) trivial List.nodup_nil (by simp [Res.blocks])
 replace hst0 := hst0.more (r := .free) trivial List.nodup_nil (by simp [Res.blocks])
 refine ra0 (tch := [(0, 0, (fun v => .blk v _)), (1, 1, (fun v => .blk v _))]) hst0 hfr0 (.consT rfl rfl (fun _ => rfl) rfl (zAR rfl rfl) <| .consT rfl rfl (fun _ => rfl) rfl (zj zeroValue45 rfl) <| .nil) fun a1 w1 m1 hst1 hle1 hk1 => ?_
 have hfr1 := hk1.fr (.nil)
 obtain ⟨gB, e2, _⟩ := hk1.ex 1 rfl
 replace hfr1 := hfr1.cons e2
 obtain ⟨gT, e3, _⟩ := hk1.ex 2 rfl
 replace hfr1 := hfr1.cons e3
 replace hst1 := hst1.fin (L' := [_, _]) (.cons e2 <| .cons e3 <| .nil)
 replace h_t := h_t.mono hle1
 replace hk_t := hk_t.mono hle1
 replace hs_t := hs_t.mono hle1
 replace hrw_t := hrw_t.mono hle1
 replace hM := hM.trans hle1
 clear hst0 hfr0 hk1
 refine hK1 _ _ ?_
 refine zE fun _ hK4 => ?_
 replace hst1 := hst1.more (r := .free) trivial List.nodup_nil (by simp [Res.blocks])
 refine ra0 (tch := [(2, 2, (fun v => .mrowx v t.args.length 6 45 (MP.reads (fun m vs t => TyR m t vs) 6 t.args))), (4, 0, (fun u => .blk _ (.cells (_ ++ [u] ++ _).toArray _)))]) hst1 hfr1 (.cons rfl (zF (off := 3) rfl underlying45 rfl rfl sizeOf33 rfl) <| .cons rfl (zW (j := 0) rfl rfl isAgg33 rfl) <| .consT rfl rfl (fun _ => rfl) rfl (ZV rfl (.cons rfl <| .nil) call66 (κ := .ex (MP.made' t.args.length)) (fun σ w m hK hr hkn => by have hle_ := KC.le hK; have hA := KC.agree hK; have hM := hM.trans hle_; have h_t := h_t.mono hle_; have hk_t := hk_t.mono hle_; have hs_t := hs_t.mono hle_; have hrw_t := hrw_t.mono hle_; exact cloneTy_t hA hk_t (by omega))) <| .cons rfl (zF (off := 3) rfl underlying45 rfl rfl sizeOf33 rfl) <| .consT rfl rfl (fun _ => rfl) rfl (ze 6 rfl rfl rfl fun y6 => Ze rfl rfl rfl rfl rfl sizeOf33 rfl rfl rfl) <| .nil) fun a2 w2 m2 hst2 hle2 hk2 => ?_
 have hfr2 := hk2.fr (.o 1 <| .o 2 <| .nil)
 obtain ⟨⟨oK, cK⟩, e5, hcK⟩ := hk2.ex 6 rfl
 replace hst2 := hst2.fin (L' := [_, _, _]) (.cons e5 <| .cons e5 <| .nil)
 try simp only [List.take_succ_cons, List.take_zero, List.drop_succ_cons, List.drop_zero, List.cons_append, List.nil_append, List.append_nil, List.length_cons, List.length_nil, Nat.zero_add, Nat.reduceAdd] at hst2
 replace h_t := h_t.mono hle2
 replace hk_t := hk_t.mono hle2
 replace hs_t := hs_t.mono hle2
 replace hrw_t := hrw_t.mono hle2
 replace hM := hM.trans hle2
 clear hst1 hfr1 hk2
 refine hK4 _ _ ?_
 refine zE fun _ hK6 => ?_
 refine zE fun _ hK7 => ?_
 refine rp0 hst2 hfr2 (.cons rfl (zF (off := 3) rfl underlying45 rfl rfl sizeOf33 rfl) <| .cons rfl (zW (j := 0) rfl rfl isAgg33 rfl) <| .cons rfl (zt rfl underlying33) <| .cons rfl (zG rfl) <| .nil) fun a3 w3 m3 hst3 hle3 hk3 => ?_
 have hfr3 := hk3.fr (.o 1 <| .o 2 <| .n 10 <| .n 11 <| .nil)
 replace h_t := h_t.mono hle3
 replace hk_t := hk_t.mono hle3
 replace hs_t := hs_t.mono hle3
 replace hrw_t := hrw_t.mono hle3
 replace hM := hM.trans hle3
 clear hst2 hfr2 hk3
 refine hK7 _ _ ?_
 refine zT ?_
 refine z6 (T := [(1, _), (2, _), (10, _)]) (fun (y : Nat) => ([(11, .int .i64 (y : Int))] : List (Nat × Value))) (fun y => [_, _, .mrowx (.slice oK t.args.length cK) t.args.length 6 45 (MP.reads (fun m vs t => TyR m t vs) 6 t.args)]) (fun (y : Nat) m => (y ≤ t.args.length)) (fun y => t.args.length - y) (0) ⟨hst3, MLe.refl _, hfr3.sub (.c <| .c <| .c <| .c <| .nil), Nat.zero_le _⟩ fun y a4 w4 m4 hh4 => ?_
 have hst4 := hh4.st; have hle4 := hh4.le; have hfr4 := hh4.fr; have hrel := hh4.rel; clear hh4
 replace h_t := h_t.mono hle4
 replace hk_t := hk_t.mono hle4
 replace hs_t := hs_t.mono hle4
 replace hrw_t := hrw_t.mono hle4
 clear hst3 hfr3
 replace hM := hM.trans hle4
 have hyn := hrel
 have hlh4 := hle4
 refine zE fun _ hK9 => ?_
 refine rp0 hst4 hfr4 (.cons rfl (ZG rfl rfl) <| .nil) fun a5 w5 m5 hst5 hle5 hk5 => ?_
 have hfr5 := hk5.fr (.o 11 <| .o 1 <| .o 2 <| .o 10 <| .n 12 <| .nil)
 replace h_t := h_t.mono hle5
 replace hk_t := hk_t.mono hle5
 replace hs_t := hs_t.mono hle5
 replace hrw_t := hrw_t.mono hle5
 have hlh5 := hlh4.trans hle5
 replace hM := hM.trans hle5
 clear hst4 hfr4 hk5
 refine hK9 _ _ ?_
 refine zE fun _ hK10 => ?_
 refine zJ hfr5 rfl rfl (fun hb12 => ?_) (fun hb12 => ?_)
 ·try simp only [nqs] at hb12
  refine zR ?_
  refine hK10 _ _ ?_
  refine zE fun _ hK11 => ?_
  refine zT ?_
  refine zE fun _ hK12 => ?_
  refine rp0 hst5 hfr5 (.cons rfl (zG rfl) <| .cons rfl (zH rfl) <| .nil) fun a6 w6 m6 hst6 hle6 hk6 => ?_
  have hfr6 := hk6.fr (.o 11 <| .o 1 <| .o 2 <| .o 10 <| .n 3 <| .nil)
  clear hst5 hfr5 hk6
  refine hK12 _ _ ?_
  obtain ⟨x9, hx9, hd9⟩ : ∃ x, t.args[y]? = some x ∧ t.args.drop y = x :: t.args.drop (y + 1) := ⟨t.args[y]'(by omega), List.getElem?_eq_getElem (by omega), List.drop_eq_getElem_cons (by omega)⟩
  have hm9 : x9 ∈ t.args := List.mem_of_getElem? hx9
  have hbx9 := hbk x9 hm9
  obtain ⟨gK, hgK⟩ := MP.made_some (hst6.loc.at_ (k := 2) rfl) (by omega)
  subst hgK
  refine zn (tch := [(10, 2, (fun _ => .mrowx _ _ _ _ _))]) (fun _ => mixed) hst6 hfr6 (by kernel_rfl) (by kernel_rfl) (by kernel_rfl) (.cons rfl (zF (off := 3) rfl underlying45 rfl rfl sizeOf33 rfl) <| .cons rfl (zW (j := 0) rfl rfl isAgg33 rfl) <| .cons rfl (zG rfl) <| .cons rfl (zF (off := 3) rfl underlying45 rfl rfl sizeOf33 rfl) <| .cons rfl (zW (j := 0) rfl rfl isAgg33 rfl) <| .cons rfl (zG rfl) <| .cons rfl (zN (k := y) rfl rfl underlying33 sizeOf45 rfl (by omega)) <| .cons rfl (zFT (R := (fun m vs t => TyR m t vs)) (i := y) (j := 2) (l := t.args) rfl rfl isAgg45 sizeOf45 hx9 (by decide)) <| .cons rfl (ZI 21 rfl rfl rfl fun y21 => zZ (φ := MP.ty (x9)) rfl (.cons rfl <| .nil) call41 (fun w m hK => by have hle_ := KC.le hK; have hA := KC.agree hK; have hr0_ := hK.2; exact FnG.mono (zDo (x9) hA hr0_ (by omega)) fun _ _ _ _ h => h)) <| .cons rfl (zN (k := y) rfl rfl underlying33 sizeOf45 rfl (by omega)) <| .consT rfl rfl (fun _ => rfl) rfl (ze 22 rfl rfl rfl fun y22 => zEL (R := (fun m vs t => TyR m t vs)) (i := y) (off := 0) (l := t.args) (b := x9) (ws := tyV x9 y22) rfl rfl rfl sizeOf45 hx9 (by decide) (by show 0 + 6 ≤ 6; omega) (fun w m hK vs hv _ => by rw [zDF hv]; exact hK.2) (fun w m hK => hK.2.one)) <| .nil) fun a7 w7 m7 hst7 hle7 hk7 => ?_
  have hfr7 := hk7.fr (.o 11 <| .o 1 <| .o 2 <| .o 10 <| .nil)
  replace hst7 := hst7.fin (L' := [_, _, _]) (.cons rfl <| .nil)
  try simp only [List.take_succ_cons, List.take_zero, List.drop_succ_cons, List.drop_zero, List.cons_append, List.nil_append, List.append_nil, List.length_cons, List.length_nil, Nat.zero_add, Nat.reduceAdd] at hst7
  clear hst6 hfr6 hk7
  rw [set_same hx9] at hst7
  refine hK11 _ _ ?_
  refine rp0 hst7 hfr7 (.cons rfl (zy rfl rfl ⟨by omega, by omega⟩) <| .cons rfl (zG rfl) <| .nil) fun a8 w8 m8 hst8 hle8 hk8 => ?_
  have hfr8 := hk8.fr (.o 1 <| .o 2 <| .o 10 <| .n 11 <| .nil)
  clear hst7 hfr7 hk8
  have zq1 := hle7.trans hle8
  have zq2 := hle6.trans zq1
  have hlh8 := hlh5.trans zq2
  exact ⟨y + 1, m8, by show t.args.length - (y + 1) < t.args.length - y; omega, ⟨hst8, hlh8, hfr8.sub (.c <| .c <| .c <| .c <| .nil), by show y + 1 ≤ t.args.length; omega⟩⟩
 ·try simp only [nqs] at hb12
  have hge : y = t.args.length := by omega
  refine z7 ?_
  refine hK6 _ _ ?_
  refine zE fun _ hK13 => ?_
  replace hst5 := hst5.more (r := .free) trivial List.nodup_nil (by simp [Res.blocks])
  refine ra0 (tch := [(3, 3, (fun v => .row (nz v) _ _ _ _)), (6, 0, (fun u => .blk _ (.cells (_ ++ [u] ++ _).toArray _)))]) hst5 hfr5 (.cons rfl (zF (off := 4) rfl underlying45 rfl rfl sizeOf43 rfl) <| .cons rfl (zF (off := 0) rfl underlying43 rfl rfl sizeOf41 rfl) <| .cons rfl (zW (k := 4) (j := 0) rfl rfl isAgg41 rfl) <| .consT rfl rfl (fun _ => rfl) rfl (ZV rfl (.cons rfl <| .nil) call47 (κ := .ex (MP.sl (t.labels).length ((t.labels).map S))) (fun σ w m hK hr hkn => by have hle_ := KC.le hK; have hA := KC.agree hK; have hM := hM.trans hle_; have h_t := h_t.mono hle_; have hk_t := hk_t.mono hle_; have hs_t := hs_t.mono hle_; have hrw_t := hrw_t.mono hle_; exact zEz hA hs_t (by omega))) <| .cons rfl (zF (off := 4) rfl underlying45 rfl rfl sizeOf43 rfl) <| .cons rfl (zF (off := 0) rfl underlying43 rfl rfl sizeOf41 rfl) <| .consT rfl rfl (fun _ => rfl) rfl (ze 28 rfl rfl rfl fun y28 => Ze (k := 4) rfl rfl rfl rfl rfl sizeOf41 rfl rfl rfl) <| .nil) fun a6 w6 m6 hst6 hle6 hk6 => ?_
  have hfr6 := hk6.fr (.o 11 <| .o 1 <| .o 2 <| .nil)
  obtain ⟨⟨oz14, cz14⟩, e15, hrz14, hcz14⟩ := hk6.ex 28 rfl
  replace hst6 := hst6.fin (L' := [_, _, _, _]) (.cons e15 <| .cons e15 <| .nil)
  try simp only [List.take_succ_cons, List.take_zero, List.drop_succ_cons, List.drop_zero, List.cons_append, List.nil_append, List.append_nil, List.length_cons, List.length_nil, Nat.zero_add, Nat.reduceAdd] at hst6
  clear hst5 hfr5 hk6
  have hsz14 : Strs m6 oz14 (t.labels).length cz14 t.labels := Reads.sl (zDH t.labels) hrz14 (by decide) rfl hcz14 (by omega)
  refine hK13 _ _ ?_
  refine zE fun _ hK16 => ?_
  refine ra0 (tch := [(1, 1, (fun _ => .blk _ _))]) hst6 hfr6 (.cons rfl (zh (j := 0) rfl rfl isAgg45 sizeOf45 rfl) <| .consT rfl rfl (fun _ => rfl) rfl (zm rfl rfl rfl sizeOf45 rfl rfl rfl) <| .nil) fun a7 w7 m7 hst7 hle7 hk7 => ?_
  have hfr7 := hk7.fr (.o 11 <| .o 2 <| .nil)
  replace hst7 := hst7.fin (L' := [_, _, _, _]) (.cons rfl <| .nil)
  try simp only [List.take_succ_cons, List.take_zero, List.drop_succ_cons, List.drop_zero, List.cons_append, List.nil_append, List.append_nil, List.length_cons, List.length_nil, Nat.zero_add, Nat.reduceAdd] at hst7
  clear hst6 hfr6 hk7
  refine hK16 _ _ ?_
  refine zU ?_
  repeat (with_reducible first | refine zL ?_ | refine zI ?_)
  replace hsz14 := hsz14.mono hle7
  exact zV hst7 hfr7 rfl (.cell rfl (ZO (ZJ (hst7.loc.at_ (k := 1) rfl)) isAgg45 sizeOf45) <| .nil) (⟨(St.tail2 (hst7.take 3)).loc, ((oK, cK), (oz14, cz14)), rfl, hcK, hsz14⟩)
theorem copiedO_t {w : World} {m : Mem} {t : Ty} {vs : List Value} (hA : Agree w m) (h : TyR m t vs) (hb : wdT t ≤ 1073741824) :
  Calls Tryz.prog 41 #[.agg vs.toArray] w fun e w' => ∃ v m', e = .returned v ∧ Touch .free (.mrowx (argsV v) t.args.length 6 45 (MP.reads (fun m vs t => TyR m t vs) 6 t.args)) w m w' m' ∧ (Kn.ex (MP.tyA t)).holds m' v :=
 Calls.mono (copiedO_g hA h hb) fun e w' ⟨v, m', e1, hE, hL, hv⟩ => ⟨v, m', e1, zGB hE hL, hv⟩
end Go.Proofs.YtlidonjpgigocaaGreat
