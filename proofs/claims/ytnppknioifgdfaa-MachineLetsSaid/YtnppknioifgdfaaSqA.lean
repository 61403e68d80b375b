/-
  Texts that the law rests on: Base, Region, Ops, Code, Slice, Loop. Conditions: those of each theorem.
-/
import Derived.WalkKit
import Derived.WalkSpells
import Derived.WalkLawsBesides
import Derived.Laws.IdiomRangeMap
import Derived.Maps.RangeRun
import Derived.OrdersIn
import Derived.RangeFuncRecord
import Derived.Orders
import Derived.Sort.LoopGhostIn
import Derived.Laws.BytesString
import Derived.MapKept
import Derived.Laws.MakeOwn
import Derived.Laws.CopyRow
import Derived.Laws.IdiomCopy
namespace Go.Proofs.Ytnppknioifgdfaa
set_option linter.all false
open Go.RowKit
structure Mem where
 c : Nat → Nat → Option Value
 mp : Nat → Option (Array MapEntry × Nat)
instance : CoeFun Mem fun _ => Nat → Nat → Option Value := ⟨Mem.c⟩
def Zz (es : Array MapEntry) : List (Value × Value) := es.toList.map fun e => (e.key, e.val)
def Stamps (es : Array MapEntry) (clock : Nat) : Prop := (∀ x ∈ es.toList, x.born < clock) ∧ (es.toList.map (·.born)).Nodup
structure Agree (w : World) (m : Mem) : Prop where
 cell : ∀ b o v, m b o = some v → w.cell? ⟨b, o, none⟩ = some v
 map : ∀ b x, m.mp b = some x → w.heap[b]? = some (.map x.1 x.2)
structure MLe (m m' : Mem) : Prop where
 cell : ∀ b o v, m b o = some v → m' b o = some v
 map : ∀ b es, m.mp b = some es → m'.mp b = some es
theorem MLe.refl (m : Mem) : MLe m m := ⟨fun _ _ _ h => h, fun _ _ h => h⟩
theorem MLe.trans {a b c : Mem} (h : MLe a b) (k : MLe b c) : MLe a c := ⟨fun x o v e => k.cell x o v (h.cell x o v e), fun x es e => k.map x es (h.map x es e)⟩
theorem ZW {w : World} {b : Nat} {o : Obj} (h : w.heap[b]? = some o) : b < w.heap.size := by
 rcases Nat.lt_or_ge b w.heap.size with hb | hb
 ·exact hb
 ·rw [Array.getElem?_eq_none (by simpa using hb)] at h; cases h
theorem zBg {w : World} {b o : Nat} {v : Value} (h : w.cell? ⟨b, o, none⟩ = some v) : b < w.heap.size := by
 unfold World.cell? at h
 rcases Nat.lt_or_ge b w.heap.size with hb | hb
 ·exact hb
 ·rw [Array.getElem?_eq_none (by simpa using hb)] at h; cases h
structure ExtG (G : List Nat) (w : World) (m : Mem) (w' : World) (m' : Mem) : Prop where
 os : w'.os = w.os
 tape : w'.tape = w.tape
 output : w'.output = w.output
 size : w.heap.size ≤ w'.heap.size
 block : ∀ b, b < w.heap.size → b ∉ G → w'.heap[b]? = w.heap[b]?
 agree : Agree w' m'
 le : MLe m m'
 old : ∀ b, b < w.heap.size → b ∉ G → m' b = m b ∧ m'.mp b = m.mp b
theorem ExtG.refl (G : List Nat) {w : World} {m : Mem} (h : Agree w m) : ExtG G w m w m :=
 ⟨rfl, rfl, rfl, Nat.le_refl _, fun _ _ _ => rfl, h, MLe.refl _, fun _ _ _ => ⟨rfl, rfl⟩⟩
theorem ExtG.trans {G : List Nat} {w w1 w2 : World} {m m1 m2 : Mem} (h : ExtG G w m w1 m1) (k : ExtG G w1 m1 w2 m2) : ExtG G w m w2 m2 :=
  ⟨k.os.trans h.os, k.tape.trans h.tape, k.output.trans h.output, Nat.le_trans h.size k.size,
   fun b hb hg => (k.block b (Nat.lt_of_lt_of_le hb h.size) hg).trans (h.block b hb hg), k.agree, h.le.trans k.le,
   fun b hb hg => ⟨(k.old b (Nat.lt_of_lt_of_le hb h.size) hg).1.trans (h.old b hb hg).1, (k.old b (Nat.lt_of_lt_of_le hb h.size) hg).2.trans (h.old b hb hg).2⟩⟩
theorem ExtG.trans' {G G' : List Nat} {w w1 w2 : World} {m m1 m2 : Mem} (h : ExtG G w m w1 m1) (k : ExtG G' w1 m1 w2 m2)
    (hG : ∀ g ∈ G', g ∈ G ∨ w.heap.size ≤ g) : ExtG G w m w2 m2 :=
  have hn : ∀ b, b < w.heap.size → b ∉ G → b ∉ G' := fun b hb hg hg' => (hG b hg').elim hg (fun h => by omega)
  ⟨k.os.trans h.os, k.tape.trans h.tape, k.output.trans h.output, Nat.le_trans h.size k.size,
   fun b hb hg => (k.block b (Nat.lt_of_lt_of_le hb h.size) (hn b hb hg)).trans (h.block b hb hg), k.agree, h.le.trans k.le,
   fun b hb hg => ⟨(k.old b (Nat.lt_of_lt_of_le hb h.size) (hn b hb hg)).1.trans (h.old b hb hg).1, (k.old b (Nat.lt_of_lt_of_le hb h.size) (hn b hb hg)).2.trans (h.old b hb hg).2⟩⟩
theorem ExtG.mono {G G' : List Nat} {w w' : World} {m m' : Mem} (h : ExtG G w m w' m') (hG : ∀ g ∈ G, g ∈ G') : ExtG G' w m w' m' :=
 ⟨h.os, h.tape, h.output, h.size, fun b hb hg => h.block b hb (fun hh => hg (hG b hh)), h.agree, h.le, fun b hb hg => h.old b hb (fun hh => hg (hG b hh))⟩
theorem ExtG.below {w w' : World} {m m' : Mem} (h : ExtG [] w m w' m') : Below w.heap.size w w' :=
 ⟨h.os, h.tape, h.output, h.size, fun b hb => h.block b hb (by simp)⟩
theorem Agree.of_below {w w' : World} {m : Mem} (h : Agree w m) (hb : Below w.heap.size w w') : Agree w' m := ⟨fun b o v e => by
 have hc := h.cell b o v e
 rw [hb.cell (p := ⟨b, o, none⟩) (zBg hc)]
 exact hc, fun b es e => by
 have h1 := h.map b es e
 exact (hb.block b (ZW h1)).trans h1⟩
theorem ExtG.of_below {w w' : World} {m : Mem} (h : Agree w m) (hb : Below w.heap.size w w') : ExtG [] w m w' m :=
 ⟨hb.os, hb.tape, hb.output, hb.size, fun b h _ => hb.block b h, h.of_below hb, MLe.refl _, fun _ _ _ => ⟨rfl, rfl⟩⟩
def Mem.add (m : Mem) (g : Nat) (cs : Array Value) : Mem := ⟨fun b o => if b = g then cs[o]? else m b o, m.mp⟩
def Mem.addMap (m : Mem) (g : Nat) (es : Array MapEntry × Nat) : Mem := ⟨m.c, fun b => if b = g then some es else m.mp b⟩
theorem zBZ {w : World} {m : Mem} (h : Agree w m) {b : Nat} (hb : w.heap.size ≤ b) (o : Nat) : m b o = none := by
 cases e : m b o with
 | none => rfl
 | some v => have := zBg (h.cell b o v e); omega
theorem agree_noneM {w : World} {m : Mem} (h : Agree w m) {b : Nat} (hb : w.heap.size ≤ b) : m.mp b = none := by
 cases e : m.mp b with
 | none => rfl
 | some v => have h1 := h.map b v e; have := ZW h1; omega
theorem Mem.le_add {w : World} {m : Mem} (h : Agree w m) (cs : Array Value) : MLe m (m.add w.heap.size cs) := ⟨fun b o v e => by
 have := zBg (h.cell b o v e)
 show (if b = w.heap.size then cs[o]? else m b o) = some v
 rw [if_neg (by omega)]; exact e, fun _ _ e => e⟩
theorem zCI {w : World} {m : Mem} (h : Agree w m) (o : Obj) : Agree (w.alloc o) m :=
 h.of_below ((Below.refl _ _).alloc (Nat.le_refl _) o)
theorem zBV {w : World} {m : Mem} (h : Agree w m) (o : Obj) : ExtG [] w m (w.alloc o) m :=
 ExtG.of_below h ((Below.refl _ _).alloc (Nat.le_refl _) o)
theorem agree_add {w : World} {m : Mem} (h : Agree w m) (cs : Array Value) (t : TypeId) : Agree (w.alloc (.cells cs t)) (m.add w.heap.size cs) := ⟨fun b o v e => by
 change (if b = w.heap.size then cs[o]? else m b o) = some v at e
 split at e
 ·rename_i hb
  subst hb
  have hh : (w.alloc (.cells cs t)).heap[w.heap.size]? = some (.cells cs t (0, 0)) := heap_alloc_new w _
  unfold World.cell?
  simp only [hh]
  exact e
 ·exact (zCI h _).cell b o v e, fun b es e => (zCI h _).map b es e⟩
theorem ext_add {w : World} {m : Mem} (h : Agree w m) (cs : Array Value) (t : TypeId) : ExtG [] w m (w.alloc (.cells cs t)) (m.add w.heap.size cs) := by
 have hb := (Below.refl w.heap.size w).alloc (Nat.le_refl _) (.cells cs t)
 exact ⟨hb.os, hb.tape, hb.output, hb.size, fun b h _ => hb.block b h, agree_add h cs t, Mem.le_add h cs, fun b hb' _ => ⟨by
  funext o; show (if b = w.heap.size then cs[o]? else m b o) = m b o; rw [if_neg (by omega)], rfl⟩⟩
def FnG (P : Program) (f : FuncId) (args : Array Value) (G : List Nat) (w : World) (m : Mem) (φ : World → Mem → Value → Prop) : Prop :=
 Calls P f args w fun e w' => ∃ v m', e = .returned v ∧ ExtG G w m w' m' ∧ φ w' m' v
abbrev FnV (P : Program) (f : FuncId) (args : Array Value) (w : World) (m : Mem) (φ : World → Mem → Value → Prop) : Prop := FnG P f args [] w m φ
theorem FnG.mono {P : Program} {f : FuncId} {args : Array Value} {G : List Nat} {w : World} {m : Mem} {φ ψ : World → Mem → Value → Prop}
  (h : FnG P f args G w m φ) (hh : ∀ w' m' v, ExtG G w m w' m' → φ w' m' v → ψ w' m' v) : FnG P f args G w m ψ :=
 Calls.mono h fun _ w' ⟨v, m', e, x, p⟩ => ⟨v, m', e, x, hh w' m' v x p⟩
-- What an operation does.
def DoesR (P : Program) (R : Value → World → Prop) : Result Next → Prop
 | .ok (.value v) w' => R v w'
 | .ok .skip w' => R undef w'
 | .ok (.enter f args) w' => Calls P f args w' fun e w'' => ∃ v, e = .returned v ∧ R v w''
 | .ok (.round l f tmps assign body) w' => RoundIn Fence.wide 0 P l f tmps assign body w' fun e w'' => ∃ v, e = .returned v ∧ R v w''
 | _ => False
def zy (σ : Nat → Value) : Operand → Value
 | .tmp t => σ t
 | .const v => v
 | .global g => .pointer (some ⟨g, 0, none⟩)
 | .func f => .func (.func f) #[] #[]
def Does (P : Program) (o : Oper) (σ : Nat → Value) (w : World) (R : Value → World → Prop) : Prop := DoesR P R ((execOp (zy σ) o).run P w)
def zV (a : Act) : Nat → Value := fun t => a.tmps.getD t undef
theorem eval_eq (a : Act) : a.eval = zy (zV a) := by
 funext x; cases x <;> rfl
def z4 (rd : Option Nat) : Fence := { Fence.wide with round := rd }
theorem Does.not_defer {P : Program} {o : Oper} {σ : Nat → Value} {w : World} {R : Value → World → Prop} (h : Does P o σ w R) (c : Call) : o.op ≠ .defer c := by
 intro hc
 unfold Does execOp at h
 rw [hc] at h
 simp only [Sem.run_bind] at h
 cases hr : (resolve (zy σ) c o.type).run P w with
 | ok d w' => rw [hr] at h; exact h
 | halt x w' => rw [hr] at h; exact h
theorem ZU {rd : Option Nat} {P : Program} {o : Oper} {a : Act} {w : World} {R : Value → World → Prop} {K : Act → World → Prop} {Q : Exit → Act → World → Prop}
  (h : Does P o (zV a) w R) (hk : ∀ v w', R v w' → K (a.put o.dst v) w') : o.wpIn (z4 rd) 0 P a w K Q := by
 refine ⟨fun _ _ => trivial, ?_⟩
 rw [Oper.semAt_eq _ _ _ h.not_defer, eval_eq]
 unfold Does at h
 generalize (execOp (zy (zV a)) o).run P w = r at *
 cases r with
 | ok n w' =>
  cases n <;> simp only [DoesR] at h <;> first
   | exact hk _ _ h
   | exact h.elim
   | exact ⟨fun h => (by cases h), callsIn_wide.2 (Calls.mono h (fun e w'' ⟨v, e1, r⟩ => by subst e1; exact hk _ _ r))⟩
   | exact ⟨fun h => (by cases h), RoundIn.mono h (fun e w'' ⟨v, e1, r⟩ => by subst e1; exact hk _ _ r)⟩
 | halt x w' => exact (h : False).elim
theorem DoesR.mono {P : Program} {R R' : Value → World → Prop} {r : Result Next} (h : DoesR P R r) (hh : ∀ v w, R v w → R' v w) : DoesR P R' r := by
 cases r with
 | ok n w' =>
  cases n <;> simp only [DoesR] at h ⊢ <;> first
   | exact hh _ _ h
   | exact Calls.mono h (fun e w'' ⟨v, e1, r⟩ => ⟨v, e1, hh _ _ r⟩)
   | exact RoundIn.mono h (fun e w'' ⟨v, e1, r⟩ => ⟨v, e1, hh _ _ r⟩)
 | halt x w' => exact (h : False).elim
theorem Does.mono {P : Program} {o : Oper} {σ : Nat → Value} {w : World} {R R' : Value → World → Prop} (h : Does P o σ w R) (hh : ∀ v w, R v w → R' v w) : Does P o σ w R' := DoesR.mono h hh
structure MP where
 α : Type
 f : α → Value
 r : α → Mem → Prop
 mono' : ∀ {m m' : Mem} {y : α}, MLe m m' → r y m → r y m'
def MP.p (φ : MP) (m : Mem) (v : Value) : Prop := ∃ y, v = φ.f y ∧ φ.r y m
theorem MP.mono (φ : MP) {m m' : Mem} {v : Value} (hm : MLe m m') (h : φ.p m v) : φ.p m' v := by
 obtain ⟨y, e, hy⟩ := h
 exact ⟨y, e, φ.mono' hm hy⟩
def MP.mem {α : Type} (f : α → Value) (p : α → Mem → Prop) (mono : ∀ {m m' : Mem} {y : α}, MLe m m' → p y m → p y m') : MP := ⟨α, f, p, mono⟩
-- Resources of an activation: blocks that are its own, and may still change.
inductive Res where
 | free
 | blk (v : Value) (o : Obj)
 | blkx (v : Value) (e : TypeId) (ψ : MP)
 | row (v : Value) (n size : Nat) (e : TypeId) (xs : List Value)
 | map (v : Value) (es : List (Value × Value))
 | mrow (v : Value) (n size : Nat) (e : TypeId) (xs : List Value)
 | rowx (v : Value) (n size : Nat) (e : TypeId) (ψ : MP)
 | mrowx (v : Value) (n size : Nat) (e : TypeId) (ψ : MP)
 | iter (v : Value) (rest : List (Value × Value)) (last : Option (Value × Value))
 | pack (bs : List Nat) (ψ : World → Mem → Prop)
def Z3 : Value → List Nat
 | .slice _ _ 0 => []
 | .slice (some a) _ _ => [a.block]
 | _ => []
def zAK : Value → List Nat
 | .map (some g) => [g]
 | _ => []
def ZC : Value → List Nat
 | .slice (some a) _ _ => [a.block]
 | _ => []
def zn : Value → List Nat
 | .pointer (some a) => [a.block]
 | _ => []
def Res.blocks : Res → List Nat
 | .free => []
 | .blk v _ => zn v
 | .blkx v _ _ => zn v
 | .row v _ _ _ _ => ZC v
 | .map v _ => zAK v
 | .mrow v _ _ _ _ => Z3 v
 | .rowx v _ _ _ _ => ZC v
 | .mrowx v _ _ _ _ => Z3 v
 | .iter v _ _ => zn v
 | .pack bs _ => bs
def rowH (v : Value) (n size : Nat) (e : TypeId) (xs : List Value) (w : World) (m : Mem) : Prop := xs.length = n * size ∧ ((v = .slice none 0 0 ∧ n = 0) ∨ ∃ (g cap : Nat) (cur : Array Value), v = .slice (some ⟨g, 0, none⟩) n cap ∧ w.heap[g]? = some (.cells cur e (0, 0)) ∧
   n ≤ cap ∧ cap ≤ maxLen ∧ cur.size = cap * size ∧ cur.toList.take (n * size) = xs ∧ (∀ o u, xs[o]? = some u → m g o = some u) ∧ ∀ off, n * size ≤ off → m g off = none)
def mrowH (v : Value) (n size : Nat) (e : TypeId) (xs : List Value) (w : World) (m : Mem) : Prop := xs.length = n * size ∧ ∃ (o : Option Addr) (cap : Nat), v = .slice o n cap ∧ n ≤ cap ∧ cap ≤ maxLen ∧ (cap = 0 ∨ ∃ (g : Nat) (cur : Array Value), o = some ⟨g, 0, none⟩ ∧ w.heap[g]? = some (.cells cur e (0, 0)) ∧
   cur.size = cap * size ∧ cur.toList.take (n * size) = xs ∧ ∀ off, m g off = none)
def iterH (v : Value) (rest : List (Value × Value)) (last : Option (Value × Value)) (w : World) (m : Mem) : Prop := ∃ r since seen c0, v = .pointer (some ⟨r, 0, none⟩) ∧ (∀ off, m r off = none) ∧ m.mp r = none ∧
 ((∃ bm ents clock, w.heap[r]? = some (.mapIter (some bm) since seen c0) ∧ m.mp bm = some (ents, clock) ∧ Stamps ents clock ∧ (∀ x ∈ ents.toList, x.born < since) ∧ since ≤ c0 ∧ since ≤ clock ∧
   rest.Perm ((leftOf ents seen).toList.map fun e => (e.key, e.val)) ∧ ∀ kv, last = some kv → ∃ e ∈ ents.toList, (∃ s0 : Array Nat, seen = s0.push e.born) ∧ kv = (e.key, e.val) ∧ c0 = clock) ∨
  (w.heap[r]? = some (.mapIter none since seen c0) ∧ rest = [] ∧ last = none))
def Res.holds : Res → World → Mem → Prop
 | .free, _, _ => True
 | .blk v o, w, m => ∃ g, v = .pointer (some ⟨g, 0, none⟩) ∧ w.heap[g]? = some o ∧ ∀ off, m g off = none
 | .blkx v e ψ, w, m => ∃ g cs, v = .pointer (some ⟨g, 0, none⟩) ∧ w.heap[g]? = some (.cells cs e (0, 0)) ∧ (∀ off, m g off = none) ∧ ψ.p m (.agg cs)
 | .row v n size e xs, w, m => rowH v n size e xs w m
 | .map v es, w, m => ∃ g ents clock, v = .map (some g) ∧ w.heap[g]? = some (.map ents clock) ∧ Zz ents = es ∧ m.mp g = none ∧ Stamps ents clock
 | .mrow v n size e xs, w, m => mrowH v n size e xs w m
 | .rowx v n size e ψ, w, m => ∃ xs, rowH v n size e xs w m ∧ ψ.p m (.agg xs.toArray)
 | .mrowx v n size e ψ, w, m => ∃ xs, mrowH v n size e xs w m ∧ ψ.p m (.agg xs.toArray)
 | .iter v rest last, w, m => iterH v rest last w m
 | .pack bs ψ, w, m => (∀ g ∈ bs, g < w.heap.size) ∧ ∀ G w' m', ExtG G w m w' m' → (∀ g ∈ bs, g ∉ G) → ψ w' m'
theorem rowH.lt {v : Value} {n size : Nat} {e : TypeId} {xs : List Value} {w : World} {m : Mem} (h : rowH v n size e xs w m) : ∀ g ∈ ZC v, g < w.heap.size := by
 intro g hg
 rcases h.2 with ⟨rfl, _⟩ | ⟨g', cap, cells, rfl, hh, _⟩
 ·cases hg
 ·simp only [ZC, List.mem_singleton] at hg
  subst hg
  exact ZW hh
theorem mrowH.lt {v : Value} {n size : Nat} {e : TypeId} {xs : List Value} {w : World} {m : Mem} (h : mrowH v n size e xs w m) : ∀ g ∈ Z3 v, g < w.heap.size := by
 intro g hg
 obtain ⟨-, o, cap, rfl, h1, h2, h3⟩ := h
 rcases h3 with rfl | ⟨g', cur, rfl, hh, -⟩
 ·cases hg
 ·cases cap with
  | zero => cases hg
  | succ c =>
   simp only [Z3, List.mem_singleton] at hg
   subst hg
   exact ZW hh
theorem rowH.keep {v : Value} {n size : Nat} {e : TypeId} {xs : List Value} {G : List Nat} {w w' : World} {m m' : Mem} (h : rowH v n size e xs w m) (hE : ExtG G w m w' m') (hd : ∀ g ∈ ZC v, g ∉ G) : rowH v n size e xs w' m' := by
 have hl := h.lt
 obtain ⟨hlen, h⟩ := h
 rcases h with ⟨rfl, h0⟩ | ⟨g, cap, cells, rfl, hh, h1, h2, h3, h4, h5, h6⟩
 ·exact ⟨hlen, .inl ⟨rfl, h0⟩⟩
 ·have hg : g < w.heap.size := hl g (by simp [ZC])
  have hd' : g ∉ G := hd g (by simp [ZC])
  exact ⟨hlen, .inr ⟨g, cap, cells, rfl, (hE.block g hg hd').trans hh, h1, h2, h3, h4, fun o u hu => by rw [(hE.old g hg hd').1]; exact h5 o u hu, fun off ho => by rw [(hE.old g hg hd').1]; exact h6 off ho⟩⟩
theorem mrowH.keep {v : Value} {n size : Nat} {e : TypeId} {xs : List Value} {G : List Nat} {w w' : World} {m m' : Mem} (h : mrowH v n size e xs w m) (hE : ExtG G w m w' m') (hd : ∀ g ∈ Z3 v, g ∉ G) : mrowH v n size e xs w' m' := by
 have hl := h.lt
 obtain ⟨hlen, o, cap, rfl, h1, h2, h3⟩ := h
 refine ⟨hlen, o, cap, rfl, h1, h2, ?_⟩
 rcases h3 with rfl | ⟨g, cur, rfl, hh, h4, h5, h6⟩
 ·exact .inl rfl
 ·cases cap with
  | zero => exact .inl rfl
  | succ c =>
   have hg : g < w.heap.size := hl g (by simp [Z3])
   have hn : g ∉ G := hd g (by simp [Z3])
   exact .inr ⟨g, cur, rfl, (hE.block g hg hn).trans hh, h4, h5, fun off => by rw [(hE.old g hg hn).1]; exact h6 off⟩
theorem Res.lt {r : Res} {w : World} {m : Mem} (h : r.holds w m) : ∀ g ∈ r.blocks, g < w.heap.size := by
 intro g hg
 cases r with
 | free => cases hg
 | blk v o =>
  obtain ⟨g', rfl, hh, _⟩ := h
  simp only [Res.blocks, zn, List.mem_singleton] at hg
  subst hg
  rcases Nat.lt_or_ge g w.heap.size with hlt | hge
  ·exact hlt
  ·rw [Array.getElem?_eq_none hge] at hh; cases hh
 | blkx v e ψ =>
  obtain ⟨g', cs, rfl, hh, _⟩ := h
  simp only [Res.blocks, zn, List.mem_singleton] at hg
  subst hg
  rcases Nat.lt_or_ge g w.heap.size with hlt | hge
  ·exact hlt
  ·rw [Array.getElem?_eq_none hge] at hh; cases hh
 | row v n size e xs => exact rowH.lt h g hg
 | map v es =>
  obtain ⟨g', ents, cl, rfl, hh, _⟩ := h
  simp only [Res.blocks, zAK, List.mem_singleton] at hg
  subst hg
  exact ZW hh
 | mrow v n size e xs => exact mrowH.lt h g hg
 | rowx v n size e ψ => obtain ⟨xs, h, _⟩ := h; exact rowH.lt h g hg
 | mrowx v n size e ψ => obtain ⟨xs, h, _⟩ := h; exact mrowH.lt h g hg
 | iter v rest last =>
  obtain ⟨r, since, seen, c0, rfl, -, -, h⟩ := h
  simp only [Res.blocks, zn, List.mem_singleton] at hg
  subst hg
  rcases h with ⟨_, _, _, hh, _⟩ | ⟨hh, _⟩ <;> exact ZW hh
 | pack bs ψ => exact h.1 g hg
theorem Res.keep {r : Res} {G : List Nat} {w w' : World} {m m' : Mem} (h : r.holds w m) (hE : ExtG G w m w' m') (hd : ∀ g ∈ r.blocks, g ∉ G) : r.holds w' m' := by
 have hl := Res.lt h
 cases r with
 | free => trivial
 | blk v o =>
  obtain ⟨g, rfl, hh, hm⟩ := h
  have hg : g < w.heap.size := hl g (by simp [Res.blocks, zn])
  have hn : g ∉ G := hd g (by simp [Res.blocks, zn])
  exact ⟨g, rfl, (hE.block g hg hn).trans hh, fun off => by rw [(hE.old g hg hn).1]; exact hm off⟩
 | blkx v e ψ =>
  obtain ⟨g, cs, rfl, hh, hm, hψ⟩ := h
  have hg : g < w.heap.size := hl g (by simp [Res.blocks, zn])
  have hn : g ∉ G := hd g (by simp [Res.blocks, zn])
  exact ⟨g, cs, rfl, (hE.block g hg hn).trans hh, fun off => by rw [(hE.old g hg hn).1]; exact hm off, ψ.mono hE.le hψ⟩
 | row v n size e xs => exact rowH.keep h hE hd
 | map v es =>
  obtain ⟨g, ents, cl, rfl, hh, he, hm, hs⟩ := h
  have hg : g < w.heap.size := hl g (by simp [Res.blocks, zAK])
  have hn : g ∉ G := hd g (by simp [Res.blocks, zAK])
  exact ⟨g, ents, cl, rfl, (hE.block g hg hn).trans hh, he, by rw [(hE.old g hg hn).2]; exact hm, hs⟩
 | mrow v n size e xs => exact mrowH.keep h hE hd
 | rowx v n size e ψ => obtain ⟨xs, h, hp⟩ := h; exact ⟨xs, rowH.keep h hE hd, ψ.mono hE.le hp⟩
 | mrowx v n size e ψ => obtain ⟨xs, h, hp⟩ := h; exact ⟨xs, mrowH.keep h hE hd, ψ.mono hE.le hp⟩
 | iter v rest last =>
  obtain ⟨r, since, seen, c0, rfl, h1, h2, h⟩ := h
  have hg : r < w.heap.size := hl r (by simp [Res.blocks, zn])
  have hn : r ∉ G := hd r (by simp [Res.blocks, zn])
  refine ⟨r, since, seen, c0, rfl, fun off => by rw [(hE.old r hg hn).1]; exact h1 off, by rw [(hE.old r hg hn).2]; exact h2, ?_⟩
  rcases h with ⟨bm, ents, cl, hh, hb, h3⟩ | ⟨hh, h3⟩
  ·exact .inl ⟨bm, ents, cl, (hE.block r hg hn).trans hh, hE.le.map _ _ hb, h3⟩
  ·exact .inr ⟨(hE.block r hg hn).trans hh, h3⟩
 | pack bs ψ => exact ⟨fun g hg => Nat.lt_of_lt_of_le (h.1 g hg) hE.size, fun G' w2 m2 hE2 hd2 => h.2 (G ++ G') w2 m2 ((hE.mono (by intro g hg; exact List.mem_append_left _ hg)).trans (hE2.mono (by intro g hg; exact List.mem_append_right _ hg))) fun g hg => by rw [List.mem_append, not_or]; exact ⟨hd g hg, hd2 g hg⟩⟩
structure Loc (G0 : List Nat) (B0 : Nat) (L : List Res) (w : World) (m : Mem) : Prop where
 all : ∀ r ∈ L, r.holds w m
 apart : (L.flatMap Res.blocks).Nodup
 own : ∀ g ∈ L.flatMap Res.blocks, g ∈ G0 ∨ B0 ≤ g
theorem Loc.keep {G0 : List Nat} {B0 : Nat} {L : List Res} {G : List Nat} {w w' : World} {m m' : Mem} (h : Loc G0 B0 L w m) (hE : ExtG G w m w' m')
  (hd : ∀ g ∈ L.flatMap Res.blocks, g ∉ G) : Loc G0 B0 L w' m' :=
 ⟨fun r hr => Res.keep (h.all r hr) hE fun g hg => hd g (List.mem_flatMap.2 ⟨r, hr, hg⟩), h.apart, h.own⟩
theorem Loc.at_ {G0 : List Nat} {B0 : Nat} {L : List Res} {w : World} {m : Mem} (h : Loc G0 B0 L w m) {k : Nat} {r : Res} (hk : L[k]? = some r) : r.holds w m :=
 h.all r (List.mem_of_getElem? hk)
structure St (G0 : List Nat) (W : World) (mE : Mem) (L : List Res) (w : World) (m : Mem) : Prop where
 ext : ExtG G0 W mE w m
 loc : Loc G0 W.heap.size L w m
theorem St.agree {G0 : List Nat} {W : World} {mE : Mem} {L : List Res} {w : World} {m : Mem} (h : St G0 W mE L w m) : Agree w m := h.ext.agree
theorem St.keep {G0 : List Nat} {W : World} {mE : Mem} {L : List Res} {w w' : World} {m m' : Mem} (h : St G0 W mE L w m) (hE : ExtG [] w m w' m') : St G0 W mE L w' m' :=
 ⟨h.ext.trans (hE.mono (by simp)), h.loc.keep hE (by simp)⟩
theorem zCg {L : List Res} {k : Nat} {r' x : Res} (h : x ∈ L.set k r') : x = r' ∨ ∃ j, j ≠ k ∧ L[j]? = some x := by
 obtain ⟨j, hj⟩ := List.mem_iff_getElem?.1 h
 rw [List.getElem?_set] at hj
 split at hj
 ·split at hj
  ·left; injection hj with e; exact e.symm
  ·cases hj
 ·rename_i hne; exact .inr ⟨j, fun e => hne e.symm, hj⟩
theorem zFQ : ∀ {L : List Res}, (L.flatMap Res.blocks).Nodup → ∀ {j k : Nat} {x y : Res}, j ≠ k → L[j]? = some x → L[k]? = some y → ∀ g ∈ x.blocks, g ∉ y.blocks
 | [], _, j, _, _, _, _, hx, _, _, _ => by simp at hx
 | r :: L, hn, 0, 0, _, _, hne, _, _, _, _ => absurd rfl hne
 | r :: L, hn, 0, k + 1, x, y, _, hx, hy, g, hg => by
  simp at hx hy; subst hx
  simp only [List.flatMap_cons] at hn
  have hd := (List.nodup_append.1 hn).2.2
  intro hgy
  exact hd g hg g (List.mem_flatMap.2 ⟨y, List.mem_of_getElem? hy, hgy⟩) rfl
 | r :: L, hn, j + 1, 0, x, y, _, hx, hy, g, hg => by
  simp at hx hy; subst hy
  simp only [List.flatMap_cons] at hn
  have hd := (List.nodup_append.1 hn).2.2
  intro hgy
  exact hd g hgy g (List.mem_flatMap.2 ⟨x, List.mem_of_getElem? hx, hg⟩) rfl
 | r :: L, hn, j + 1, k + 1, x, y, hne, hx, hy, g, hg => by
  simp at hx hy
  simp only [List.flatMap_cons] at hn
  exact zFQ (List.nodup_append.1 hn).2.1 (by omega) hx hy g hg
theorem zCJ : ∀ {L : List Res} {k : Nat} {r r' : Res}, L[k]? = some r → (L.flatMap Res.blocks).Nodup → r'.blocks.Nodup →
  (∀ g ∈ r'.blocks, g ∈ r.blocks ∨ g ∉ L.flatMap Res.blocks) → ((L.set k r').flatMap Res.blocks).Nodup
 | [], k, _, _, h, _, _, _ => by simp at h
 | x :: L, 0, r, r', h, hn, hr, hb => by
  simp at h; subst h
  simp only [List.set_cons_zero, List.flatMap_cons] at hn ⊢
  rw [List.nodup_append] at hn ⊢
  refine ⟨hr, hn.2.1, fun a ha b hb' e => ?_⟩
  subst e
  rcases hb a ha with h1 | h1
  ·exact hn.2.2 a h1 a hb' rfl
  ·exact h1 (by simp only [List.flatMap_cons]; exact List.mem_append_right _ hb')
 | x :: L, k + 1, r, r', h, hn, hr, hb => by
  simp at h
  simp only [List.set_cons_succ, List.flatMap_cons] at hn ⊢
  rw [List.nodup_append] at hn ⊢
  refine ⟨hn.1, zCJ h hn.2.1 hr (fun g hg => ?_), fun a ha b hb' e => ?_⟩
  ·rcases hb g hg with h1 | h1
   ·exact .inl h1
   ·exact .inr fun hh => h1 (by simp only [List.flatMap_cons]; exact List.mem_append_right _ hh)
  ·subst e
   obtain ⟨y, hy, hay⟩ := List.mem_flatMap.1 hb'
   rcases zCg hy with rfl | ⟨j, hj, hyj⟩
   ·rcases hb a hay with h1 | h1
    ·exact hn.2.2 a ha a (List.mem_flatMap.2 ⟨r, List.mem_of_getElem? h, h1⟩) rfl
    ·exact h1 (by simp only [List.flatMap_cons]; exact List.mem_append_left _ ha)
   ·exact hn.2.2 a ha a (List.mem_flatMap.2 ⟨y, List.mem_of_getElem? hyj, hay⟩) rfl
structure ZR (r r' : Res) (w : World) (m : Mem) (w' : World) (m' : Mem) : Prop where
 ext : ExtG r.blocks w m w' m'
 now : r'.holds w' m'
 nodup : r'.blocks.Nodup
 where_ : ∀ g ∈ r'.blocks, g ∈ r.blocks ∨ w.heap.size ≤ g
theorem Loc.touch {G0 : List Nat} {B0 : Nat} {L : List Res} {k : Nat} {r r' : Res} {w w' : World} {m m' : Mem} (h : Loc G0 B0 L w m) (hk : L[k]? = some r)
  (ht : ZR r r' w m w' m') (hB : B0 ≤ w.heap.size) : Loc G0 B0 (L.set k r') w' m' := by
 have hlt : ∀ g ∈ L.flatMap Res.blocks, g < w.heap.size := fun g hg => by
  obtain ⟨x, hx, hgx⟩ := List.mem_flatMap.1 hg
  exact Res.lt (h.all x hx) g hgx
 refine ⟨fun x hx => ?_, zCJ hk h.apart ht.nodup (fun g hg => ?_), fun g hg => ?_⟩
 ·rcases zCg hx with rfl | ⟨j, hj, hxj⟩
  ·exact ht.now
  ·exact Res.keep (h.at_ hxj) ht.ext fun g hg => zFQ h.apart hj hxj hk g hg
 ·rcases ht.where_ g hg with h1 | h1
  ·exact .inl h1
  ·exact .inr fun hh => by have := hlt g hh; omega
 ·obtain ⟨x, hx, hgx⟩ := List.mem_flatMap.1 hg
  rcases zCg hx with rfl | ⟨j, hj, hxj⟩
  ·rcases ht.where_ g hgx with h1 | h1
   ·exact h.own g (List.mem_flatMap.2 ⟨r, List.mem_of_getElem? hk, h1⟩)
   ·exact .inr (by omega)
  ·exact h.own g (List.mem_flatMap.2 ⟨x, List.mem_of_getElem? hxj, hgx⟩)
theorem St.touch {G0 : List Nat} {W : World} {mE : Mem} {L : List Res} {k : Nat} {r r' : Res} {w w' : World} {m m' : Mem} (h : St G0 W mE L w m) (hk : L[k]? = some r)
  (ht : ZR r r' w m w' m') : St G0 W mE (L.set k r') w' m' :=
 ⟨h.ext.trans' ht.ext (fun g hg => h.loc.own g (List.mem_flatMap.2 ⟨r, List.mem_of_getElem? hk, hg⟩)), h.loc.touch hk ht h.ext.size⟩
theorem zAc (L : List Res) (r : Res) : (L ++ [r]).flatMap Res.blocks = L.flatMap Res.blocks ++ r.blocks := by simp
theorem St.more {G0 : List Nat} {W : World} {mE : Mem} {L : List Res} {w : World} {m : Mem} (h : St G0 W mE L w m) {r : Res} (hr : r.holds w m) (hn : r.blocks.Nodup)
  (hb : ∀ g ∈ r.blocks, W.heap.size ≤ g ∧ g ∉ L.flatMap Res.blocks) : St G0 W mE (L ++ [r]) w m := by
 refine ⟨h.ext, fun x hx => ?_, ?_, fun g hg => ?_⟩
 ·rcases List.mem_append.1 hx with hx | hx
  ·exact h.loc.all x hx
  ·rw [List.mem_singleton] at hx; subst hx; exact hr
 ·rw [zAc, List.nodup_append]
  exact ⟨h.loc.apart, hn, fun a ha b hb' e => by subst e; exact (hb a hb').2 ha⟩
 ·rw [zAc, List.mem_append] at hg
  rcases hg with hg | hg
  ·exact h.loc.own g hg
  ·exact .inr (hb g hg).1
theorem St.drop_ {G0 : List Nat} {W : World} {mE : Mem} {L : List Res} {w : World} {m : Mem} (h : St G0 W mE L w m) (k : Nat) {r : Res} (hk : L[k]? = some r) : St G0 W mE (L.set k .free) w m := by
 have ht : ZR r .free w m w m := ⟨ExtG.refl _ h.agree, trivial, List.nodup_nil, fun g hg => by cases hg⟩
 exact h.touch hk ht
end Go.Proofs.Ytnppknioifgdfaa
namespace Go.Proofs.Ytnppknioifgdfaa
set_option linter.all false
open Go.RowKit
inductive Kn where
 | eq (v : Value)
 | ex (φ : MP)
def Kn.holds : Kn → Mem → Value → Prop
 | .eq c, _, v => v = c
 | .ex φ, m, v => φ.p m v
theorem Kn.mono {κ : Kn} {m m' : Mem} {v : Value} (hE : MLe m m') (h : κ.holds m v) : κ.holds m' v := by
 cases κ with
 | eq c => exact h
 | ex φ => exact φ.mono hE h
inductive Ke where
 | val (κ : Kn)
 | same (t : Nat) (f : Value → Value)
def Ke.holds : Ke → (Nat → Value) → Mem → Value → Prop
 | .val κ, _, m, v => κ.holds m v
 | .same t f, σ, _, v => v = f (σ t)
abbrev Ent := Option Nat × Option (Nat × Bool) × Ke
def zAO (σ : Nat → Value) (gd : Nat × Bool) : Prop := σ gd.1 = .bool gd.2
def find : List Ent → Nat → Option (Option (Nat × Bool) × Ke)
 | [], _ => none
 | (some d, g, κ) :: r, t => bif Nat.beq d t then some (g, κ) else find r t
 | (none, _, _) :: r, t => find r t
def look : List (Nat × Value) → Nat → Option Value
 | [], _ => none
 | (d, v) :: r, t => bif Nat.beq d t then some v else look r t
def gok : List (Nat × Bool) → Option (Nat × Bool) → Bool
 | _, none => true
 | [], some _ => false
 | (s, b) :: r, some (s', b') => bif Nat.beq s s' && (b == b') then true else gok r (some (s', b'))
def has : List Nat → Nat → Bool
 | [], _ => false
 | d :: r, t => bif Nat.beq d t then true else has r t
theorem Z8 {l : List Nat} {t : Nat} (h : has l t = true) : t ∈ l := by
 induction l with
 | nil => cases h
 | cons d r ih =>
  simp only [has] at h
  cases e : Nat.beq d t with
  | true => rw [Nat.beq_eq] at e; subst e; exact .head _
  | false => rw [e] at h; exact .tail _ (ih h)
theorem gok_mem {ch : List (Nat × Bool)} {gd : Nat × Bool} (h : gok ch (some gd) = true) : gd ∈ ch := by
 obtain ⟨s', b'⟩ := gd
 induction ch with
 | nil => cases h
 | cons x r ih =>
  obtain ⟨s, b⟩ := x
  simp only [gok] at h
  cases e : (Nat.beq s s' && (b == b')) with
  | true => simp at e; obtain ⟨rfl, rfl⟩ := e; exact .head _
  | false => rw [e] at h; exact .tail _ (ih h)
-- The closed side: which slots an operation looks at, its guards.
def tmpOf : Operand → List Nat
 | .tmp t => [t]
 | _ => []
def zAk : List Operand → List Nat
 | [] => []
 | .tmp t :: r => t :: zAk r
 | _ :: r => zAk r
def optTmp : Option Operand → List Nat
 | some (.tmp t) => [t]
 | _ => []
def callTmps (c : Call) : List Nat :=
 (match c.callee with | .value f => tmpOf f | .invoke r _ => tmpOf r | .builtin _ => []) ++ zAk c.args.toList
def opTmps : Op → List Nat
 | .move x | .assign x | .box _ x | .load _ x | .nilCheck x | .unOp _ _ x | .convert _ _ x | .sliceToArrayPointer _ x | .makeInterface _ x
 | .makeChan _ x | .fieldAddr _ x _ | .field _ x _ | .range _ x | .next x _ | .entry x | .typeAssert x _ _ _ | .extract x _ | .panic x | .recv _ x _ => tmpOf x
 | .pick c a b => zAk [c, a, b]
 | .build _ ps | .buildSlice _ _ ps => zAk (ps.toList.map (·.2))
 | .store _ a v | .binOp _ _ a v _ | .makeSlice _ a v | .indexAddr _ a v | .index _ a v | .lookup _ a v _ | .mapEntry _ a v | .send a v => zAk [a, v]
 | .makeFunc _ first captured => zAk first.toList ++ zAk captured.toList
 | .makeMap _ r => optTmp r
 | .slice _ x l h m => tmpOf x ++ optTmp l ++ optTmp h ++ optTmp m
 | .mapUpdate _ m k v | .entryStore _ m k v | .insert _ m k v => zAk [m, k, v]
 | .call c | .go c | .defer c => callTmps c
 | _ => []
def zDS (l : List Oper) (j : Nat) : Nat := match l[j]? with | some { dst := some d, .. } => d | _ => 0
def gOf (l : List Oper) : Option (Nat × Bool) → Option (Nat × Bool)
 | none => none
 | some (j, b) => some (zDS l j, b)
def guardAt (l : List Oper) (j : Nat) : Option (Nat × Bool) := match l[j]? with | some o => o.guard | none => none
def ZI (l : List Oper) : Nat → Option (Nat × Bool) → List (Nat × Bool)
 | 0, _ => []
 | _ + 1, none => []
 | n + 1, some (j, b) => (zDS l j, b) :: ZI l n (guardAt l j)
def Zc (l : List Oper) (o : Oper) : List Nat := opTmps o.op ++ (ZI l 12 o.guard).map (·.1)
def ZG (o : Oper) (j : Nat) : Bool := o.after.toList.any fun e => Region.binds .any e && e.on == j
def zBa (l : List Oper) : Nat → Oper → Nat → Bool
 | 0, o, j => ZG o j
 | n + 1, o, j => ZG o j || o.after.toList.any fun e => Region.binds .any e && (match l[e.on]? with | some oe => zBa l n oe j | none => false)
def link (l : List Oper) : Nat → Oper → Nat → Bool
 | 0, o, j => ZG o j
 | n + 1, o, j => ZG o j || (match o.guard with | none => false | some (g, _) => ZG o g && (match l[g]? with | none => false | some og => link l n og j))
def chk1 (l : List Oper) (o : Oper) (i : Nat) : Bool :=
 (o.after.toList.all fun e => !Region.binds .any e || decide (e.on < i)) &&
 (match o.guard with | none => true | some (j, _) => ZG o j && (match l[j]? with | some { dst := some _, .. } => true | _ => false)) &&
 ((Zc l o).all fun t => l.zipIdx.all fun x => !(x.1.dst == some t) || x.2 == i || (if x.2 < i then link l 12 o x.2 else ZG x.1 i)) &&
 (l.zipIdx.all fun x => x.2 == i || o.dst == none || x.1.dst != o.dst)
def chk (l : List Oper) : Bool := l.zipIdx.all fun x => chk1 l x.1 x.2
abbrev Tch := List (Nat × Nat × (Value → Res))
def zBP : Op → Option Nat
 | .store _ (.tmp t) (.tmp y) => some (bif Nat.ble t y then t else y)
 | .store _ (.tmp t) _ => some t
 | .insert _ (.tmp t) _ _ => some t
 | .mapUpdate _ (.tmp t) _ _ => some t
 | _ => none
def zAA (l : List Oper) (s : Nat) : Option Nat :=
 match l[s]? with
 | none => none
 | some o => match zBP o.op with
  | some t => bif (l.take s).any (fun x => x.dst == some t) then some t else none
  | none => o.dst
def valSt : Op → Option Nat
 | .store _ (.tmp t) (.tmp y) => bif Nat.ble t y then none else some y
 | _ => none
def isApp : Op → Bool
 | .call c => (match c.callee with | .builtin .append => true | _ => false)
 | _ => false
def idxBase : Op → Option Nat
 | .indexAddr _ (.tmp b) _ => some b
 | _ => none
def throughTmp : Op → Option Nat
 | .store _ (.tmp t) (.tmp _) => some t
 | _ => none
def rowV (l : List Oper) (s : Nat) (o : Oper) : Option Nat := match throughTmp o.op with
 | none => none
 | some t => match l.find? (fun x => x.dst == some t) with
  | none => none
  | some x => match idxBase x.op with
   | none => none
   | some b => (List.range s).findSome? fun j => match l[j]? with
    | none => none
    | some oj => bif isApp oj.op && oj.dst == some b && ZG o j then zAA l j else none
def zBT (l : List Oper) (s : Nat) : Option Nat :=
 match l[s]? with
 | none => none
 | some o => match valSt o.op with
  | none => none
  | some _ => match rowV l s o with
   | some b => some b
   | none => (List.range s).findSome? fun j => match l[j]? with
   | none => none
   | some oj => match valSt oj.op with
    | none => none
    | some _ => bif ZG o j then zAA l j else none
def z3 (l : List Oper) (σ : Nat → Value) (s : Nat) : Value := match zAA l s with
 | some d => (match zBT l s with | none => σ d | some d' => .tuple #[σ d, σ d'])
 | none => undef
def keepV : Option Nat → Value → Value
 | none, _ => undef
 | some _, v => v
def Z5 : Tch → List Res → List Res
 | [], L => L
 | (_, k, _) :: r, L => Z5 r (L.set k .free)
def Lof (V : Nat → Value) (S : Nat → Bool) : Tch → List Res → List Res
 | [], L => L
 | (s, k, r') :: r, L => Lof V S r (if S s then L.set k (r' (V s)) else L)
def zDd (V : Nat → Value) : Tch → List Res → List Res
 | [], L => L
 | (s, k, r') :: r, L => zDd V r (L.set k (r' (V s)))
def zEy (l : List Oper) (i : Nat) : Tch → List Res → List Res
 | [], L => L
 | (s, k, _) :: r, L => zEy l i r (bif (match l[s]? with | some o => zBa l 8 o i | none => false) then L else L.set k .free)
def Lsel (l : List Oper) (tch : Tch) (L : List Res) (i : Nat) : List Res := zEy l i tch L
def Za : Tch → Nat → Option (Nat × (Value → Res))
 | [], _ => none
 | (s, k, r') :: r, i => bif Nat.beq s i then some (k, r') else Za r i
def nextT : Tch → Nat → Option Nat
 | [], _ => none
 | (s, k', _) :: r, k => bif Nat.beq k' k then some s else nextT r k
def zDM : Tch → Nat → Nat → Option (Nat × (Value → Res)) → Option (Nat × (Value → Res))
 | [], _, _, acc => acc
 | (s, k', f) :: r, i, k, acc => bif Nat.beq s i then acc else zDM r i k (bif Nat.beq k' k then some (s, f) else acc)
def zAY (l : List Oper) (q s : Nat) : Bool := match l[q]? with | some o => ZG o s | none => false
def zAy (l : List Oper) : Tch → Bool
 | [] => true
 | (s, k, _) :: r => (decide (s < l.length)) && (r.all fun x => x.1 != s) && (match nextT r k with | some q => zAY l q s | none => true) && zAy l r
def zCh (l : List Oper) (L : List Res) (tch : Tch) (i k : Nat) (σ : Nat → Value) : Option Res :=
 match zDM tch i k none with
 | some (p, f) => bif zAY l i p then some (f (z3 l σ p)) else none
 | none => L[k]?
structure Know (σ : Nat → Value) (m : Mem) (us : List Nat) (ch : List (Nat × Bool)) (pre : List Ent) (T : List (Nat × Value)) : Prop where
 old : ∀ t v, t ∈ us → find pre t = none → look T t = some v → σ t = v
 ent : ∀ t g κ, t ∈ us → find pre t = some (g, κ) → (∀ gd, g = some gd → zAO σ gd) → κ.holds σ m (σ t)
 gds : ∀ gd ∈ ch, zAO σ gd
def evT (us : List Nat) (ch : List (Nat × Bool)) (pre : List Ent) (T : List (Nat × Value)) (t : Nat) : Option Value :=
 bif has us t then
  match find pre t with
  | some (g, .val (.eq c)) => bif gok ch g then some c else none
  | some (_, _) => none
  | none => look T t
 else none
def ev (us : List Nat) (ch : List (Nat × Bool)) (pre : List Ent) (T : List (Nat × Value)) : Operand → Option Value
 | .tmp t => evT us ch pre T t
 | .const v => some v
 | .global g => some (.pointer (some ⟨g, 0, none⟩))
 | .func f => some (.func (.func f) #[] #[])
theorem Know.gd {σ : Nat → Value} {m : Mem} {us : List Nat} {ch : List (Nat × Bool)} {pre : List Ent} {T : List (Nat × Value)} (h : Know σ m us ch pre T)
  {g : Option (Nat × Bool)} (hg : gok ch g = true) : ∀ gd, g = some gd → zAO σ gd := fun gd e => by subst e; exact h.gds gd (gok_mem hg)
theorem Know.evT {σ : Nat → Value} {m : Mem} {us : List Nat} {ch : List (Nat × Bool)} {pre : List Ent} {T : List (Nat × Value)} (h : Know σ m us ch pre T)
  {t : Nat} {v : Value} (hv : evT us ch pre T t = some v) : σ t = v := by
 unfold Ytnppknioifgdfaa.evT at hv
 cases hu : has us t with
 | false => rw [hu] at hv; cases hv
 | true =>
  rw [hu] at hv
  simp only [cond_true] at hv
  have hm := Z8 hu
  split at hv
  ·rename_i g c he
   cases hg : gok ch g with
   | false => rw [hg] at hv; cases hv
   | true =>
    rw [hg] at hv; simp only [cond_true, Option.some.injEq] at hv
    subst hv
    exact h.ent t g _ hm he (h.gd hg)
  ·cases hv
  ·rename_i he
   exact h.old t v hm he hv
theorem Know.ev {σ : Nat → Value} {m : Mem} {us : List Nat} {ch : List (Nat × Bool)} {pre : List Ent} {T : List (Nat × Value)} (h : Know σ m us ch pre T)
  {x : Operand} {v : Value} (hv : ev us ch pre T x = some v) : zy σ x = v := by
 cases x with
 | tmp t => exact h.evT hv
 | const c => simpa [Ytnppknioifgdfaa.ev, zy] using hv
 | global g => simpa [Ytnppknioifgdfaa.ev, zy] using hv
 | func f => simpa [Ytnppknioifgdfaa.ev, zy] using hv
def Z1 (pre : List Ent) (o : Oper) (σ : Nat → Value) (v : Value) : Value :=
 match zBP o.op with
 | some t => (match find pre t with | some _ => σ t | none => undef)
 | none => keepV o.dst v
def Ob (P : Program) (K : World → Mem → Prop) (us : List Nat) (ch : List (Nat × Bool)) (pre : List Ent) (T : List (Nat × Value)) (o : Oper) (κ : Kn) : Prop :=
 ∀ (σ : Nat → Value) (w : World) (m : Mem), K w m → Know σ m us ch pre T → Does P o σ w fun v w' => ∃ m', ExtG [] w m w' m' ∧ κ.holds m' v
def ObT (P : Program) (K : World → Mem → Prop) (us : List Nat) (ch : List (Nat × Bool)) (pre : List Ent) (T : List (Nat × Value)) (r : (Nat → Value) → Res) (r' : Value → Res) (o : Oper) (κ : Kn) : Prop :=
 ∀ (σ : Nat → Value) (w : World) (m : Mem), K w m → (r σ).holds w m → Know σ m us ch pre T → Does P o σ w fun v w' => ∃ m', ZR (r σ) (r' (Z1 pre o σ v)) w m w' m' ∧ κ.holds m' v
def ObT2 (P : Program) (K : World → Mem → Prop) (us : List Nat) (ch : List (Nat × Bool)) (pre : List Ent) (T : List (Nat × Value)) (d' : Nat) (r : (Nat → Value) → Res) (r' : Value → Res) (o : Oper) (κ : Kn) : Prop :=
 ∀ (σ : Nat → Value) (w : World) (m : Mem), K w m → (r σ).holds w m → Know σ m us ch pre T → Does P o σ w fun v w' => ∃ m', ZR (r σ) (r' (.tuple #[Z1 pre o σ v, σ d'])) w m w' m' ∧ κ.holds m' v
theorem zFC {pre : List Ent} {t : Nat} {x y : Option (Nat × Bool) × Ke} {o : Oper} {σ : Nat → Value} {v : Value} (hf : find pre t = some x) : Z1 ((some t, y) :: pre) o σ v = Z1 pre o σ v := by
 unfold Z1
 cases zBP o.op with
 | none => rfl
 | some t' =>
  simp only [find]
  cases e : Nat.beq t t' with
  | true => rw [Nat.beq_eq] at e; subst e; rw [hf]; rfl
  | false => rfl
def zAd (l : List Oper) (o : Oper) (κ : Ke) : Ent := (o.dst, gOf l o.guard, κ)
def zCA (l : List Oper) (o : Oper) (t : Nat) : Bool := (match o.guard with | none => true | _ => false) && (match o.dst with | some _ => true | none => false) && l.zipIdx.any fun x => x.1.dst == some t && ZG o x.2
def zCy (P : Program) (l : List Oper) (pre : List Ent) (T : List (Nat × Value)) (o : Oper) (t : Nat) (f : Value → Value) : Prop := ∀ (σ : Nat → Value) (w : World) (m : Mem), Know σ m (Zc l o) (ZI l 12 o.guard) pre T → Does P o σ w fun v w' => v = f (σ t) ∧ w' = w
def zED (l : List Oper) (o : Oper) (t : Nat) : Bool :=
 (match o.op with | .assign (.tmp t') => Nat.beq t' t | .move (.tmp t') => Nat.beq t' t | _ => false) && (match o.guard with | none => true | _ => false) && (match o.dst with | some _ => true | none => false) &&
 l.zipIdx.any fun x => x.1.dst == some t && ZG o x.2
theorem zBp {P : Program} {l : List Oper} {pre : List Ent} {T : List (Nat × Value)} {o : Oper} {t : Nat} (hh : zED l o t = true) : zCA l o t = true ∧ zCy P l pre T o t id := by
 unfold zED at hh; simp only [Bool.and_eq_true] at hh
 refine ⟨by unfold zCA; simp only [Bool.and_eq_true]; exact ⟨⟨hh.1.1.2, hh.1.2⟩, hh.2⟩, fun σ w m _ => ?_⟩
 have h1 := hh.1.1.1
 obtain ⟨d0, op, ty, ps, af, gd⟩ := o
 simp only at h1
 split at h1
 ·rw [Nat.beq_eq] at h1; subst h1; exact ⟨rfl, rfl⟩
 ·rw [Nat.beq_eq] at h1; subst h1; exact ⟨rfl, rfl⟩
 ·cases h1
structure Ctx (G0 : List Nat) (W : World) (mE m0 : Mem) (L : List Res) (w : World) (m : Mem) : Prop where
 st : St G0 W mE L w m
 le : MLe m0 m
theorem Ctx.agree {G0 : List Nat} {W : World} {mE m0 : Mem} {L : List Res} {w : World} {m : Mem} (h : Ctx G0 W mE m0 L w m) : Agree w m := h.st.ext.agree
def GS (l : List Oper) (pre : List Ent) (o : Oper) : Prop := o.guard = none ∨ ∃ s b c, gOf l o.guard = some (s, b) ∧ find pre s = some (none, .val (.eq (.bool c))) ∧ c = b
inductive zBJ (P : Program) (l : List Oper) (G0 : List Nat) (W : World) (mE m0 : Mem) (L : List Res) (tch : Tch) (T : List (Nat × Value)) : Nat → List Ent → List Oper → List Ent → Prop where
 | nil {i : Nat} {pre : List Ent} : zBJ P l G0 W mE m0 L tch T i pre [] pre
 | cons {i : Nat} {pre : List Ent} {o : Oper} {os : List Oper} {κ : Kn} {fin : List Ent} (ht : Za tch i = none)
   (h : Ob P (Ctx G0 W mE m0 (Lsel l tch L i)) (Zc l o) (ZI l 12 o.guard) pre T o κ)
   (hs : zBJ P l G0 W mE m0 L tch T (i + 1) (zAd l o (.val κ) :: pre) os fin) : zBJ P l G0 W mE m0 L tch T i pre (o :: os) fin
 | consA {i : Nat} {pre : List Ent} {o : Oper} {os : List Oper} {fin : List Ent} (t : Nat) (ht : Za tch i = none) (h : zED l o t = true)
   (hs : zBJ P l G0 W mE m0 L tch T (i + 1) (zAd l o (.same t id) :: pre) os fin) : zBJ P l G0 W mE m0 L tch T i pre (o :: os) fin
 | consN {i : Nat} {pre : List Ent} {o : Oper} {os : List Oper} {fin : List Ent} (t : Nat) (f : Value → Value) (ht : Za tch i = none) (h : zCA l o t = true) (hN : zCy P l pre T o t f)
   (hs : zBJ P l G0 W mE m0 L tch T (i + 1) (zAd l o (.same t f) :: pre) os fin) : zBJ P l G0 W mE m0 L tch T i pre (o :: os) fin
 | consT {i : Nat} {pre : List Ent} {o : Oper} {os : List Oper} {κ : Kn} {fin : List Ent} {k : Nat} {r : (Nat → Value) → Res} {r' : Value → Res} (ht : Za tch i = some (k, r')) (hkl : Nat.ble (k + 1) L.length = true) (hr : ∀ σ, zCh l L tch i k σ = some (r σ)) (hg : o.guard = none)
   (h : ObT P (Ctx G0 W mE m0 (Z5 tch L)) (Zc l o) (ZI l 12 o.guard) pre T r r' o κ)
   (hs : zBJ P l G0 W mE m0 L tch T (i + 1) (zAd l o (.val κ) :: pre) os fin) (hp : zBT l i = none := by rfl) : zBJ P l G0 W mE m0 L tch T i pre (o :: os) fin
 | consTG {i : Nat} {pre : List Ent} {o : Oper} {os : List Oper} {κ : Kn} {fin : List Ent} {k : Nat} {r : (Nat → Value) → Res} {r' : Value → Res} (ht : Za tch i = some (k, r')) (hkl : Nat.ble (k + 1) L.length = true) (hr : ∀ σ, zCh l L tch i k σ = some (r σ)) (hg : GS l pre o)
   (h : ObT P (Ctx G0 W mE m0 (Z5 tch L)) (Zc l o) (ZI l 12 o.guard) pre T r r' o κ)
   (hs : zBJ P l G0 W mE m0 L tch T (i + 1) (zAd l o (.val κ) :: pre) os fin) (hp : zBT l i = none := by rfl) : zBJ P l G0 W mE m0 L tch T i pre (o :: os) fin
 | consT2 {i : Nat} {pre : List Ent} {o : Oper} {os : List Oper} {κ : Kn} {fin : List Ent} {k d' : Nat} {r : (Nat → Value) → Res} {r' : Value → Res} (ht : Za tch i = some (k, r')) (hkl : Nat.ble (k + 1) L.length = true) (hr : ∀ σ, zCh l L tch i k σ = some (r σ)) (hg : o.guard = none)
   (hp : zBT l i = some d') (hsl : (zAA l i).isSome = true)
   (h : ObT2 P (Ctx G0 W mE m0 (Z5 tch L)) (Zc l o) (ZI l 12 o.guard) pre T d' r r' o κ)
   (hs : zBJ P l G0 W mE m0 L tch T (i + 1) (zAd l o (.val κ) :: pre) os fin) : zBJ P l G0 W mE m0 L tch T i pre (o :: os) fin
section proof
variable {rd : Option Nat} {P : Program} {l : List Oper} {G0 : List Nat} {W : World} {mE m0 : Mem} {L : List Res} {tch : Tch} {T : List (Nat × Value)}
def zFM (P : Program) (l : List Oper) (G0 : List Nat) (W : World) (mE m0 : Mem) (L : List Res) (tch : Tch) (T : List (Nat × Value)) (i : Nat) (pre : List Ent) (o : Oper) (ke : Ke) : Prop :=
 (∃ κ, ke = .val κ ∧ Za tch i = none ∧ Ob P (Ctx G0 W mE m0 (Lsel l tch L i)) (Zc l o) (ZI l 12 o.guard) pre T o κ) ∨
 (∃ κ k r r', ke = .val κ ∧ Za tch i = some (k, r') ∧ k < L.length ∧ (∀ σ, zCh l L tch i k σ = some (r σ)) ∧ GS l pre o ∧ ((zBT l i = none ∧ ObT P (Ctx G0 W mE m0 (Z5 tch L)) (Zc l o) (ZI l 12 o.guard) pre T r r' o κ) ∨ ∃ d', zBT l i = some d' ∧ (zAA l i).isSome = true ∧ ObT2 P (Ctx G0 W mE m0 (Z5 tch L)) (Zc l o) (ZI l 12 o.guard) pre T d' r r' o κ)) ∨
 (∃ t f, ke = .same t f ∧ Za tch i = none ∧ zCA l o t = true ∧ zCy P l pre T o t f)
def ZE (l : List Oper) (κs : List Ke) : Nat → List Ent
 | 0 => []
 | i + 1 => (match l[i]?, κs[i]? with | some o, some κ => [zAd l o κ] | _, _ => []) ++ ZE l κs i
theorem obls_at {i : Nat} {pre : List Ent} {os : List Oper} {fin : List Ent} (h : zBJ P l G0 W mE m0 L tch T i pre os fin) :
  ∀ (κs0 : List Ke), κs0.length = i → (∀ j, os[j]? = l[i + j]?) → pre = ZE l κs0 i →
  ∃ κs : List Ke, κs.length = i + os.length ∧ (∀ j, j < i → κs[j]? = κs0[j]?) ∧ fin = ZE l κs (i + os.length) ∧
   ∀ j o, i ≤ j → l[j]? = some o → j < i + os.length → ∃ κ, κs[j]? = some κ ∧ zFM P l G0 W mE m0 L tch T j (ZE l κs j) o κ := by
 have pre_congr : ∀ (κs κs' : List Ke) (n : Nat), (∀ j, j < n → κs[j]? = κs'[j]?) → ZE l κs n = ZE l κs' n := by
  intro κs κs' n
  induction n with
  | zero => intro _; rfl
  | succ n ih => intro hh; simp only [ZE, hh n (by omega), ih (fun j hj => hh j (by omega))]
 induction h with
 | nil =>
  intro κs0 h0 _ hp
  exact ⟨κs0, by simpa using h0, fun _ _ => rfl, by simpa using hp, fun j o h1 _ h2 => by simp at h2; omega⟩
 | @cons i pre o os κ fin ht hob hs ih =>
  intro κs0 h0 hos hp
  have ho : l[i]? = some o := by simpa using (hos 0).symm
  have hk0 : (κs0 ++ [.val κ])[i]? = some (.val κ) := by rw [List.getElem?_append_right (by omega), h0]; simp
  have hlow : ∀ j, j < i → (κs0 ++ [.val κ])[j]? = κs0[j]? := fun j hj => by rw [List.getElem?_append_left (by omega)]
  obtain ⟨κs, hl, hlo, hf, hall⟩ := ih (κs0 ++ [.val κ]) (by simp [h0]) (fun j => by have := hos (j + 1); simpa [Nat.add_assoc, Nat.add_comm 1 j] using this)
   (by simp only [ZE, ho, hk0]; rw [pre_congr _ _ i hlow, ← hp]; rfl)
  refine ⟨κs, by simp [hl]; omega, fun j hj => (hlo j (by omega)).trans (hlow j hj), by rw [hf]; simp [Nat.add_assoc, Nat.add_comm 1], fun j o' h1 h2 h3 => ?_⟩
  by_cases hj : j = i
  ·subst hj
   rw [ho] at h2; injection h2 with h2; subst h2
   refine ⟨.val κ, (hlo j (by omega)).trans hk0, .inl ⟨κ, rfl, ht, ?_⟩⟩
   rw [pre_congr κs κs0 j (fun q hq => (hlo q (by omega)).trans (hlow q hq)), ← hp]
   exact hob
  ·exact hall j o' (by omega) h2 (by simp at h3; omega)
 | @consA i pre o os fin t ht hob hs ih =>
  intro κs0 h0 hos hp
  have ho : l[i]? = some o := by simpa using (hos 0).symm
  have hk0 : (κs0 ++ [.same t id])[i]? = some (.same t id) := by rw [List.getElem?_append_right (by omega), h0]; simp
  have hlow : ∀ j, j < i → (κs0 ++ [.same t id])[j]? = κs0[j]? := fun j hj => by rw [List.getElem?_append_left (by omega)]
  obtain ⟨κs, hl, hlo, hf, hall⟩ := ih (κs0 ++ [.same t id]) (by simp [h0]) (fun j => by have := hos (j + 1); simpa [Nat.add_assoc, Nat.add_comm 1 j] using this)
   (by simp only [ZE, ho, hk0]; rw [pre_congr _ _ i hlow, ← hp]; rfl)
  refine ⟨κs, by simp [hl]; omega, fun j hj => (hlo j (by omega)).trans (hlow j hj), by rw [hf]; simp [Nat.add_assoc, Nat.add_comm 1], fun j o' h1 h2 h3 => ?_⟩
  by_cases hj : j = i
  ·subst hj
   rw [ho] at h2; injection h2 with h2; subst h2
   exact ⟨.same t id, (hlo j (by omega)).trans hk0, .inr (.inr ⟨t, id, rfl, ht, zBp hob⟩)⟩
  ·exact hall j o' (by omega) h2 (by simp at h3; omega)
 | @consN i pre o os fin t f ht hob hN hs ih =>
  intro κs0 h0 hos hp
  have ho : l[i]? = some o := by simpa using (hos 0).symm
  have hk0 : (κs0 ++ [.same t f])[i]? = some (.same t f) := by rw [List.getElem?_append_right (by omega), h0]; simp
  have hlow : ∀ j, j < i → (κs0 ++ [.same t f])[j]? = κs0[j]? := fun j hj => by rw [List.getElem?_append_left (by omega)]
  obtain ⟨κs, hl, hlo, hf, hall⟩ := ih (κs0 ++ [.same t f]) (by simp [h0]) (fun j => by have := hos (j + 1); simpa [Nat.add_assoc, Nat.add_comm 1 j] using this)
   (by simp only [ZE, ho, hk0]; rw [pre_congr _ _ i hlow, ← hp]; rfl)
  refine ⟨κs, by simp [hl]; omega, fun j hj => (hlo j (by omega)).trans (hlow j hj), by rw [hf]; simp [Nat.add_assoc, Nat.add_comm 1], fun j o' h1 h2 h3 => ?_⟩
  by_cases hj : j = i
  ·subst hj
   rw [ho] at h2; injection h2 with h2; subst h2
   refine ⟨.same t f, (hlo j (by omega)).trans hk0, .inr (.inr ⟨t, f, rfl, ht, hob, ?_⟩)⟩
   rw [pre_congr κs κs0 j (fun q hq => (hlo q (by omega)).trans (hlow q hq)), ← hp]
   exact hN
  ·exact hall j o' (by omega) h2 (by simp at h3; omega)
 | @consT i pre o os κ fin k r r' ht hkl hr hg hob hs hp ih =>
  intro κs0 h0 hos hpre
  have ho : l[i]? = some o := by simpa using (hos 0).symm
  have hk0 : (κs0 ++ [.val κ])[i]? = some (.val κ) := by rw [List.getElem?_append_right (by omega), h0]; simp
  have hlow : ∀ j, j < i → (κs0 ++ [.val κ])[j]? = κs0[j]? := fun j hj => by rw [List.getElem?_append_left (by omega)]
  obtain ⟨κs, hl, hlo, hf, hall⟩ := ih (κs0 ++ [.val κ]) (by simp [h0]) (fun j => by have := hos (j + 1); simpa [Nat.add_assoc, Nat.add_comm 1 j] using this)
   (by simp only [ZE, ho, hk0]; rw [pre_congr _ _ i hlow, ← hpre]; rfl)
  refine ⟨κs, by simp [hl]; omega, fun j hj => (hlo j (by omega)).trans (hlow j hj), by rw [hf]; simp [Nat.add_assoc, Nat.add_comm 1], fun j o' h1 h2 h3 => ?_⟩
  by_cases hj : j = i
  ·subst hj
   rw [ho] at h2; injection h2 with h2; subst h2
   refine ⟨.val κ, (hlo j (by omega)).trans hk0, .inr (.inl ⟨κ, k, r, r', rfl, ht, Nat.le_of_ble_eq_true hkl, hr, .inl hg, .inl ⟨hp, ?_⟩⟩)⟩
   rw [pre_congr κs κs0 j (fun q hq => (hlo q (by omega)).trans (hlow q hq)), ← hpre]
   exact hob
  ·exact hall j o' (by omega) h2 (by simp at h3; omega)
 | @consTG i pre o os κ fin k r r' ht hkl hr hg hob hs hp ih =>
  intro κs0 h0 hos hpre
  have ho : l[i]? = some o := by simpa using (hos 0).symm
  have hk0 : (κs0 ++ [.val κ])[i]? = some (.val κ) := by rw [List.getElem?_append_right (by omega), h0]; simp
  have hlow : ∀ j, j < i → (κs0 ++ [.val κ])[j]? = κs0[j]? := fun j hj => by rw [List.getElem?_append_left (by omega)]
  obtain ⟨κs, hl, hlo, hf, hall⟩ := ih (κs0 ++ [.val κ]) (by simp [h0]) (fun j => by have := hos (j + 1); simpa [Nat.add_assoc, Nat.add_comm 1 j] using this)
   (by simp only [ZE, ho, hk0]; rw [pre_congr _ _ i hlow, ← hpre]; rfl)
  refine ⟨κs, by simp [hl]; omega, fun j hj => (hlo j (by omega)).trans (hlow j hj), by rw [hf]; simp [Nat.add_assoc, Nat.add_comm 1], fun j o' h1 h2 h3 => ?_⟩
  by_cases hj : j = i
  ·subst hj
   rw [ho] at h2; injection h2 with h2; subst h2
   refine ⟨.val κ, (hlo j (by omega)).trans hk0, .inr (.inl ⟨κ, k, r, r', rfl, ht, Nat.le_of_ble_eq_true hkl, hr, by rw [pre_congr κs κs0 j (fun q hq => (hlo q (by omega)).trans (hlow q hq)), ← hpre]; exact hg, .inl ⟨hp, ?_⟩⟩)⟩
   rw [pre_congr κs κs0 j (fun q hq => (hlo q (by omega)).trans (hlow q hq)), ← hpre]
   exact hob
  ·exact hall j o' (by omega) h2 (by simp at h3; omega)
 | @consT2 i pre o os κ fin k d' r r' ht hkl hr hg hp hsl hob hs ih =>
  intro κs0 h0 hos hpre
  have ho : l[i]? = some o := by simpa using (hos 0).symm
  have hk0 : (κs0 ++ [.val κ])[i]? = some (.val κ) := by rw [List.getElem?_append_right (by omega), h0]; simp
  have hlow : ∀ j, j < i → (κs0 ++ [.val κ])[j]? = κs0[j]? := fun j hj => by rw [List.getElem?_append_left (by omega)]
  obtain ⟨κs, hl, hlo, hf, hall⟩ := ih (κs0 ++ [.val κ]) (by simp [h0]) (fun j => by have := hos (j + 1); simpa [Nat.add_assoc, Nat.add_comm 1 j] using this)
   (by simp only [ZE, ho, hk0]; rw [pre_congr _ _ i hlow, ← hpre]; rfl)
  refine ⟨κs, by simp [hl]; omega, fun j hj => (hlo j (by omega)).trans (hlow j hj), by rw [hf]; simp [Nat.add_assoc, Nat.add_comm 1], fun j o' h1 h2 h3 => ?_⟩
  by_cases hj : j = i
  ·subst hj
   rw [ho] at h2; injection h2 with h2; subst h2
   refine ⟨.val κ, (hlo j (by omega)).trans hk0, .inr (.inl ⟨κ, k, r, r', rfl, ht, Nat.le_of_ble_eq_true hkl, hr, .inl hg, .inr ⟨d', hp, hsl, ?_⟩⟩)⟩
   rw [pre_congr κs κs0 j (fun q hq => (hlo q (by omega)).trans (hlow q hq)), ← hpre]
   exact hob
  ·exact hall j o' (by omega) h2 (by simp at h3; omega)
theorem ZP {κs : List Ke} {t : Nat} : ∀ (i : Nat) {g : Option (Nat × Bool)} {κ : Ke}, find (ZE l κs i) t = some (g, κ) →
  ∃ j o, j < i ∧ l[j]? = some o ∧ κs[j]? = some κ ∧ o.dst = some t ∧ g = gOf l o.guard
 | 0, _, _, h => by cases h
 | i + 1, g, κ, h => by
  simp only [ZE] at h
  cases ho : l[i]? with
  | none => rw [ho] at h; obtain ⟨j, o, h1, h2⟩ := ZP i h; exact ⟨j, o, by omega, h2⟩
  | some o =>
   cases hk : κs[i]? with
   | none => rw [ho, hk] at h; obtain ⟨j, o, h1, h2⟩ := ZP i h; exact ⟨j, o, by omega, h2⟩
   | some κ' =>
    rw [ho, hk] at h
    simp only [zAd, List.cons_append, List.nil_append] at h
    cases hd : o.dst with
    | none => rw [hd] at h; simp only [find] at h; obtain ⟨j, o, h1, h2⟩ := ZP i h; exact ⟨j, o, by omega, h2⟩
    | some d =>
     rw [hd] at h; simp only [find] at h
     cases e : Nat.beq d t with
     | false => rw [e] at h; obtain ⟨j, o, h1, h2⟩ := ZP i h; exact ⟨j, o, by omega, h2⟩
     | true =>
      rw [e] at h; simp only [cond_true, Option.some.injEq, Prod.mk.injEq] at h
      rw [Nat.beq_eq] at e; subst e
      exact ⟨i, o, by omega, ho, by rw [hk, h.2], hd, h.1.symm⟩
theorem ZQ {κs : List Ke} {t : Nat} : ∀ (i : Nat), find (ZE l κs i) t = none → ∀ j o, j < i → l[j]? = some o → (κs[j]?).isSome → o.dst ≠ some t
 | 0, _, _, _, h, _, _ => by omega
 | i + 1, h, j, o, hj, ho, hk => by
  simp only [ZE] at h
  have rest : find (ZE l κs i) t = none ∧ ∀ o', l[i]? = some o' → (κs[i]?).isSome → o'.dst ≠ some t := by
   cases ho' : l[i]? with
   | none => rw [ho'] at h; exact ⟨h, fun o' e => by cases e⟩
   | some o' =>
    cases hk' : κs[i]? with
    | none => rw [ho', hk'] at h; exact ⟨h, fun _ _ e => by simp at e⟩
    | some κ' =>
     rw [ho', hk'] at h
     simp only [zAd, List.cons_append, List.nil_append] at h
     cases hd : o'.dst with
     | none => rw [hd] at h; simp only [find] at h; exact ⟨h, fun o'' e _ => by injection e with e; subst e; rw [hd]; simp⟩
     | some d =>
      rw [hd] at h; simp only [find] at h
      cases e : Nat.beq d t with
      | true => rw [e] at h; cases h
      | false =>
       rw [e] at h
       refine ⟨h, fun o'' e' _ => ?_⟩
       injection e' with e'; subst e'; rw [hd]
       intro hh; injection hh with hh; subst hh; simp at e
  by_cases hji : j = i
  ·subst hji; exact rest.2 o ho hk
  ·exact ZQ i rest.1 j o (by omega) ho hk
-- the touched resources
theorem lof_set {V : Nat → Value} {S : Nat → Bool} {k : Nat} {r' : Res} : ∀ (tch : Tch) (L : List Res), (∀ x ∈ tch, S x.1 = true → x.2.1 ≠ k) → (Lof V S tch L).set k r' = Lof V S tch (L.set k r')
 | [], _, _ => rfl
 | (s, k0, r0) :: r, L, h => by
  simp only [Lof]
  rw [lof_set r _ (fun x hx => h x (.tail _ hx))]
  cases hS : S s with
  | true =>
   have hne : k0 ≠ k := h _ (.head _) hS
   simp only [if_true]
   rw [List.set_comm _ _ hne]
  | false => rfl
theorem zBN {V V' : Nat → Value} {S S' : Nat → Bool} : ∀ (tch : Tch) (L : List Res), (∀ x ∈ tch, S x.1 = S' x.1 ∧ (S x.1 = true → V x.1 = V' x.1)) → Lof V S tch L = Lof V' S' tch L
 | [], _, _ => rfl
 | (s, k0, r0) :: r, L, h => by
  have h1 := h _ (.head _)
  have e : (if S s then L.set k0 (r0 (V s)) else L) = (if S' s then L.set k0 (r0 (V' s)) else L) := by
   have h11 : S s = S' s := h1.1
   cases hS : S s with
   | true => rw [← h11, hS, h1.2 hS]
   | false => rw [← h11, hS]; rfl
  simp only [Lof]
  rw [e]
  exact zBN r _ (fun x hx => h x (.tail _ hx))
theorem zAF {s k : Nat} {r0 : Value → Res} {r : Tch} (h : zAy l ((s, k, r0) :: r) = true) : (∀ x ∈ r, x.1 ≠ s) ∧ zAy l r = true ∧ s < l.length ∧ ∀ q, nextT r k = some q → zAY l q s = true := by
 simp only [zAy, Bool.and_eq_true, decide_eq_true_eq, List.all_eq_true, bne_iff_ne, ne_eq] at h
 refine ⟨h.1.1.2, h.2, h.1.1.1, fun q hq => ?_⟩
 have := h.1.2
 rw [hq] at this
 exact this
def Shut (l : List Oper) (S : Nat → Bool) : Prop := ∀ q s, zAY l q s = true → S q = true → S s = true
theorem zBh {S : Nat → Bool} (hs : Shut l S) : ∀ (r : Tch) (s k : Nat) (r0 : Value → Res), zAy l ((s, k, r0) :: r) = true → (∃ x ∈ r, x.2.1 = k ∧ S x.1 = true) → S s = true
 | [], _, _, _, _, h => by obtain ⟨x, hx, _⟩ := h; cases hx
 | (q, k', f) :: r, s, k, r0, hc, h => by
  obtain ⟨_, hc', _, hn⟩ := zAF hc
  by_cases hk : k' = k
  ·subst hk
   have hq : S q = true := by
    obtain ⟨x, hx, hxk, hxs⟩ := h
    cases hx with
    | head => exact hxs
    | tail _ hx => exact zBh hs r q k' f hc' ⟨x, hx, hxk, hxs⟩
   exact hs q s (hn q (by simp [nextT])) hq
  ·have hb : Nat.beq k' k = false := by rw [← Bool.not_eq_true, Nat.beq_eq]; exact hk
   refine zBh hs r s k r0 ?_ ?_
   ·obtain ⟨h1, _, h3, _⟩ := zAF hc
    obtain ⟨_, hc2, _, _⟩ := zAF hc'
    simp only [zAy, Bool.and_eq_true, decide_eq_true_eq, List.all_eq_true, bne_iff_ne, ne_eq]
    refine ⟨⟨⟨h3, fun x hx => h1 x (.tail _ hx)⟩, ?_⟩, hc2⟩
    cases hq : nextT r k with
    | none => rfl
    | some q' => exact hn q' (by simp only [nextT, hb, cond_false]; exact hq)
   ·obtain ⟨x, hx, hxk, hxs⟩ := h
    cases hx with
    | head => exact absurd hxk hk
    | tail _ hx => exact ⟨x, hx, hxk, hxs⟩
theorem lof_get {V : Nat → Value} {S : Nat → Bool} {k : Nat} : ∀ (r : Tch) (L : List Res), (∀ x ∈ r, S x.1 = true → x.2.1 ≠ k) → (Lof V S r L)[k]? = L[k]?
 | [], _, _ => rfl
 | (s1, k1, r1) :: r, L, hh => by
  simp only [Lof]
  rw [lof_get r _ (fun y hy => hh y (.tail _ hy))]
  cases hS : S s1 with
  | true => simp only [if_true]; rw [List.getElem?_set_ne (hh _ (.head _) hS)]
  | false => rfl
theorem zFH {V V' : Nat → Value} {S : Nat → Bool} {i k : Nat} {r' : Value → Res} (hs : Shut l S) (hV : ∀ j, j ≠ i → S j = true → V j = V' j) : ∀ (tch : Tch) (L : List Res), zAy l tch = true → Za tch i = some (k, r') → S i = false →
  (Lof V S tch L).set k (r' (V' i)) = Lof V' (fun j => if j = i then true else S j) tch L
 | [], _, _, h, _ => by cases h
 | (s, k0, r0) :: r, L, hc, h, hS => by
  obtain ⟨hr, hc', _, _⟩ := zAF hc
  simp only [Za] at h
  cases e : Nat.beq s i with
  | true =>
   rw [e] at h; simp only [cond_true, Option.some.injEq, Prod.mk.injEq] at h
   rw [Nat.beq_eq] at e; subst e; obtain ⟨rfl, rfl⟩ := h
   have hcg : ∀ L', Lof V S r L' = Lof V' (fun j => if j = s then true else S j) r L' := fun L' => zBN r L' fun x hx => ⟨by rw [if_neg (hr x hx)], hV _ (hr x hx)⟩
   have hno : ∀ x ∈ r, S x.1 = true → x.2.1 ≠ k0 := fun x hx hxs hxk => by
    have := zBh hs r s k0 r0 hc ⟨x, hx, hxk, hxs⟩
    rw [hS] at this; cases this
   simp only [Lof, hS, if_true]
   rw [lof_set r _ hno, ← hcg]; simp
  | false =>
   rw [e] at h; simp only [cond_false] at h
   have hne : s ≠ i := fun hh => by subst hh; simp at e
   have h1 := zFH hs hV r (if S s then L.set k0 (r0 (V s)) else L) hc' h hS
   simp only [Lof]
   rw [h1]; simp only [if_neg hne]
   cases hSs : S s with
   | true => rw [hV s hne hSs]
   | false => rfl
theorem zCq {k : Nat} : ∀ (r : Tch) (i : Nat) (x : Nat × (Value → Res)), zDM r i k (some x) ≠ none
 | [], _, _, h => by cases h
 | (s1, k1, f1) :: r, i, x, h => by
  simp only [zDM] at h
  cases e : Nat.beq s1 i with
  | true => rw [e] at h; cases h
  | false =>
   rw [e] at h; simp only [cond_false] at h
   cases e1 : Nat.beq k1 k with
   | true => rw [e1] at h; exact zCq r i _ h
   | false => rw [e1] at h; exact zCq r i _ h
theorem lof_cur {V : Nat → Value} {S : Nat → Bool} {i k : Nat} {r' : Value → Res} (hs : Shut l S) (hS : S i = false) : ∀ (tch : Tch) (L : List Res) (acc : Option (Nat × (Value → Res))), zAy l tch = true → Za tch i = some (k, r') →
  (∀ p f, acc = some (p, f) → S p = true → L[k]? = some (f (V p)) ∨ L[k]? = none) →
  (∀ p f, zDM tch i k acc = some (p, f) → S p = true → (Lof V S tch L)[k]? = some (f (V p)) ∨ (Lof V S tch L)[k]? = none) ∧ (zDM tch i k acc = none → (Lof V S tch L)[k]? = L[k]?)
 | [], _, _, _, h, _ => by cases h
 | (s, k0, r0) :: r, L, acc, hc, h, ha => by
  obtain ⟨hr, hc', _, _⟩ := zAF hc
  simp only [Za] at h
  cases e : Nat.beq s i with
  | true =>
   rw [e] at h; simp only [cond_true, Option.some.injEq, Prod.mk.injEq] at h
   rw [Nat.beq_eq] at e; subst e; obtain ⟨rfl, rfl⟩ := h
   have hno : ∀ x ∈ r, S x.1 = true → x.2.1 ≠ k0 := fun x hx hxs hxk => by
    have := zBh hs r s k0 r0 hc ⟨x, hx, hxk, hxs⟩
    rw [hS] at this; cases this
   have hg : (Lof V S ((s, k0, r0) :: r) L)[k0]? = L[k0]? := by
    simp only [Lof, hS]; exact lof_get r L hno
   simp only [zDM, show Nat.beq s s = true by simp, cond_true]
   rw [hg]
   exact ⟨ha, fun _ => rfl⟩
  | false =>
   rw [e] at h; simp only [cond_false] at h
   simp only [zDM, e, cond_false]
   simp only [Lof]
   cases hk : Nat.beq k0 k with
   | true =>
    simp only [cond_true]
    rw [Nat.beq_eq] at hk; subst hk
    have := lof_cur hs hS r (if S s then L.set k0 (r0 (V s)) else L) (some (s, r0)) hc' h (fun p f e hp => by
     injection e with e; injection e with e1 e2; subst e1; subst e2
     rw [hp]; simp only [if_true]
     rw [List.getElem?_set]; simp only [if_true]
     split
     ·exact .inl rfl
     ·exact .inr rfl)
    exact ⟨this.1, fun hn => absurd hn (zCq r i _)⟩
   | false =>
    simp only [cond_false]
    have hne : k0 ≠ k := fun hh => by subst hh; simp at hk
    have hL : (if S s = true then L.set k0 (r0 (V s)) else L)[k]? = L[k]? := by
     split
     ·rw [List.getElem?_set_ne hne]
     ·rfl
    have := lof_cur hs hS r (if S s then L.set k0 (r0 (V s)) else L) acc hc' h (fun p f e hp => by rw [hL]; exact ha p f e hp)
    rw [hL] at this
    exact this
theorem lof_pre {V : Nat → Value} {S : Nat → Bool} {i k : Nat} {r' : Value → Res} {o : Oper} {r : Res} (hs : Shut l S) (hS : S i = false) (hi : l[i]? = some o)
  (hready : ∀ e ∈ o.after.toList, Region.binds .any e = true → S e.on = true) {tch : Tch} {L : List Res} (hc : zAy l tch = true) (ht : Za tch i = some (k, r')) {σ : Nat → Value} (hV : V = z3 l σ)
  (hr : zCh l L tch i k σ = some r) : (Lof V S tch L)[k]? = some r ∨ (Lof V S tch L)[k]? = none := by
 obtain ⟨h1, h2⟩ := lof_cur (V := V) hs hS tch L none hc ht (fun _ _ e => by cases e)
 unfold zCh at hr
 cases hp : zDM tch i k none with
 | none => rw [hp] at hr; left; rw [h2 hp]; exact hr
 | some x =>
  obtain ⟨p, f⟩ := x
  rw [hp] at hr
  simp only at hr
  cases he : zAY l i p with
  | false => rw [he] at hr; cases hr
  | true =>
   rw [he] at hr; simp only [cond_true, Option.some.injEq] at hr
   have hSp : S p = true := by
    unfold zAY at he; rw [hi] at he
    unfold ZG at he
    rw [List.any_eq_true] at he
    obtain ⟨e, hem, hb⟩ := he
    simp only [Bool.and_eq_true, beq_iff_eq] at hb
    rw [← hb.2]; exact hready e hem hb.1
   have := h1 p f hp hSp
   rw [hV] at this ⊢
   rw [hr] at this; exact this
theorem zCi {V : Nat → Value} {S : Nat → Bool} : ∀ (tch : Tch) (L : List Res), (Lof V S tch L).length = L.length
 | [], _ => rfl
 | (s, k, f) :: r, L => by
  simp only [Lof]; rw [zCi r]; split <;> simp
theorem zEH {V : Nat → Value} {S : Nat → Bool} : ∀ (tch : Tch) (L : List Res), (∀ x ∈ tch, S x.1 = true) → Lof V S tch L = zDd V tch L
 | [], _, _ => rfl
 | (s, k0, r0) :: r, L, h => by
  simp only [Lof, zDd]
  rw [h _ (.head _)]
  exact zEH r _ (fun x hx => h x (.tail _ hx))
theorem zDA {V : Nat → Value} {S : Nat → Bool} : ∀ (tch : Tch) (L : List Res), (∀ x ∈ tch, S x.1 = false) → Lof V S tch L = L
 | [], _, _ => rfl
 | (s, k0, r0) :: r, L, h => by
  simp only [Lof]
  rw [h _ (.head _)]
  exact zDA r _ (fun x hx => h x (.tail _ hx))
theorem set_beyond {α : Type _} {l : List α} {k : Nat} {x : α} (h : l[k]? = none) : l.set k x = l := by
 rw [List.getElem?_eq_none_iff] at h
 exact List.set_eq_of_length_le h
theorem st_free {w : World} {m : Mem} {k : Nat} {L : List Res} (h : St G0 W mE L w m) : St G0 W mE (L.set k .free) w m := by
 cases e : L[k]? with
 | none => rw [set_beyond e]; exact h
 | some r => exact h.drop_ k e
theorem lkeep_set {i k : Nat} : ∀ (tch : Tch) (L : List Res), (zEy l i tch L).set k .free = zEy l i tch (L.set k .free)
 | [], L => rfl
 | (s, k2, _) :: r, L => by
  simp only [zEy]
  rw [lkeep_set r]
  congr 1
  cases (match l[s]? with | some o => zBa l 8 o i | none => false) with
  | true => rfl
  | false =>
   simp only [cond_false]
   by_cases hk : k2 = k
   ·subst hk; rfl
   ·rw [List.set_comm _ _ hk]
theorem zEf {V : Nat → Value} {S : Nat → Bool} {w : World} {m : Mem} {i : Nat} : ∀ (tch : Tch) (L : List Res), (∀ x ∈ tch, (match l[x.1]? with | some o => zBa l 8 o i | none => false) = true → S x.1 = false) → St G0 W mE (Lof V S tch L) w m → St G0 W mE (zEy l i tch L) w m
 | [], L, _, h => h
 | (s, k, r') :: r, L, hS, h => by
  simp only [Lof] at h
  have h1 := zEf (i := i) r _ (fun x hx => hS x (.tail _ hx)) h
  simp only [zEy]
  have h0 := hS (s, k, r') (.head _)
  simp only at h0
  cases he : (match l[s]? with | some o => zBa l 8 o i | none => false) with
  | true =>
   rw [h0 he] at h1
   simp only [cond_true]
   exact h1
  | false =>
   simp only [cond_false]
   have h2 := st_free (k := k) h1
   rw [lkeep_set] at h2
   split at h2
   ·rw [List.set_set] at h2; exact h2
   ·exact h2
theorem lrest_set {k : Nat} {r' : Res} : ∀ (tch : Tch) (L : List Res), (∃ x ∈ tch, x.2.1 = k) → Z5 tch (L.set k r') = Z5 tch L
 | [], _, h => by obtain ⟨x, hx, _⟩ := h; cases hx
 | (s, k0, r0) :: r, L, h => by
  simp only [Z5]
  by_cases hk : k0 = k
  ·subst hk; rw [List.set_set]
  ·rw [List.set_comm _ _ (fun e => hk e.symm)]
   obtain ⟨x, hx, hxk⟩ := h
   cases hx with
   | head => exact absurd hxk hk
   | tail _ hx => exact lrest_set r _ ⟨x, hx, hxk⟩
theorem zEJ {V : Nat → Value} {S : Nat → Bool} {w : World} {m : Mem} : ∀ (tch : Tch) (L : List Res), St G0 W mE (Lof V S tch L) w m → St G0 W mE (Z5 tch L) w m := by
 have key : ∀ (tch : Tch) (L : List Res), St G0 W mE L w m → St G0 W mE (Z5 tch L) w m := by
  intro tch
  induction tch with
  | nil => intro L h; exact h
  | cons x r ih => intro L h; exact ih _ (st_free h)
 have eq : ∀ (tch : Tch) (L : List Res) (tch' : Tch), (∀ x ∈ tch, ∃ y ∈ tch', y.2.1 = x.2.1) → Z5 tch' (Lof V S tch L) = Z5 tch' L := by
  intro tch
  induction tch with
  | nil => intro L tch' _; rfl
  | cons x r ih =>
   intro L tch' h
   obtain ⟨s, k0, r0⟩ := x
   simp only [Lof]
   rw [ih _ tch' (fun y hy => h y (.tail _ hy))]
   split
   ·obtain ⟨y, hy, hk⟩ := h _ (.head _)
    exact lrest_set tch' _ ⟨y, hy, hk⟩
   ·rfl
 intro tch L h
 rw [← eq tch L tch (fun x hx => ⟨x, hx, rfl⟩)]
 exact key tch _ h
theorem zAC {i : Nat} : ∀ {tch : Tch}, Za tch i = none → ∀ x ∈ tch, x.1 ≠ i
 | [], _, x, hx => by cases hx
 | (s, k0, r0) :: r, h, x, hx => by
  simp only [Za] at h
  cases e : Nat.beq s i with
  | true => rw [e] at h; cases h
  | false =>
   rw [e] at h
   cases hx with
   | head => intro hh; subst hh; simp at e
   | tail _ hx => exact zAC h x hx
structure Inv (l : List Oper) (κs : List Ke) (G0 : List Nat) (W : World) (mE m0 : Mem) (L : List Res) (tch : Tch) (a0 : Act) (S : Nat → Bool) (a : Act) (w : World) (m : Mem) : Prop where
 ctx : Ctx G0 W mE m0 (Lof (z3 l (zV a)) S tch L) w m
 defers : a.defers = a0.defers
 size : a.tmps.size = a0.tmps.size
 same : ∀ t, (∀ j o, l[j]? = some o → o.dst = some t → S j = false) → zV a t = zV a0 t
 fact : ∀ j o t κ, l[j]? = some o → κs[j]? = some κ → S j = true → o.dst = some t →
  ((∀ gd, gOf l o.guard = some gd → zAO (zV a) gd) → κ.holds (zV a) m (zV a t)) ∧ (∀ gd, gOf l o.guard = some gd → ¬ zAO (zV a) gd → zV a t = undef)
 same' : ∀ j o t f, l[j]? = some o → κs[j]? = some (.same t f) → S j = true → ∃ q oq, l[q]? = some oq ∧ oq.dst = some t ∧ S q = true ∧ q ≠ j
 shut : ∀ j o, l[j]? = some o → S j = true → ∀ e ∈ o.after.toList, Region.binds .any e = true → S e.on = true
theorem Z0 {a : Act} {d t : Nat} {v : Value} (hd : d < a.tmps.size) : zV (a.put (some d) v) t = if d = t then v else zV a t := by
 simp only [zV, Act.put]
 by_cases h : d = t
 ·subst h; simp [hd]
 ·rw [if_neg h]
  simp only [Array.getD_eq_getD_getElem?]
  rw [Array.getElem?_setIfInBounds_ne h]
theorem put_size {a : Act} {d : Option Nat} {v : Value} : (a.put d v).tmps.size = a.tmps.size := by cases d <;> simp [Act.put]
theorem zEo {a : Act} {d : Option Nat} {v : Value} : (a.put d v).defers = a.defers := by cases d <;> simp [Act.put]
theorem zAe {ops : Array Oper} {a : Act} {j d : Nat} {o : Oper} (ho : ops[j]? = some o) (hd : o.dst = some d) (b : Bool) : (yielded ops a.tmps j == some b) = true ↔ zV a d = .bool b := by
 simp only [yielded, ho, Option.bind_some, hd, zV, Array.getD_eq_getD_getElem?]
 cases h : a.tmps[d]? with
 | none => simp [undef]
 | some v => cases v <;> simp
theorem chk_at (h : chk l = true) {i : Nat} {o : Oper} (ho : l[i]? = some o) : chk1 l o i = true := by
 unfold chk at h
 rw [List.all_eq_true] at h
 exact h (o, i) (List.mem_zipIdx_iff_getElem?.2 ho)
theorem zu {o : Oper} {j : Nat} (h : ZG o j = true) : ∃ e ∈ o.after.toList, Region.binds .any e = true ∧ e.on = j := by
 unfold ZG at h
 rw [List.any_eq_true] at h
 obtain ⟨e, he, hb⟩ := h
 simp only [Bool.and_eq_true, beq_iff_eq] at hb
 exact ⟨e, he, hb⟩
theorem zCF {l : List Oper} {S : Nat → Bool} {j : Nat} (hsh : ∀ q oq, l[q]? = some oq → S q = true → ∀ ed ∈ oq.after.toList, Region.binds .any ed = true → S ed.on = true) : ∀ (n q : Nat) (oq : Oper), l[q]? = some oq → S q = true → zBa l n oq j = true → S j = true
 | 0, q, oq, hq, hS, h => by
  rw [zBa] at h
  obtain ⟨ed, hed, hb, hon⟩ := zu h
  rw [← hon]; exact hsh q oq hq hS ed hed hb
 | n + 1, q, oq, hq, hS, h => by
  rw [zBa, Bool.or_eq_true] at h
  rcases h with h | h
  ·obtain ⟨ed, hed, hb, hon⟩ := zu h
   rw [← hon]; exact hsh q oq hq hS ed hed hb
  ·rw [List.any_eq_true] at h
   obtain ⟨ed, hed, hp⟩ := h
   rw [Bool.and_eq_true] at hp
   cases ho : l[ed.on]? with
   | none => rw [ho] at hp; cases hp.2
   | some oe => rw [ho] at hp; exact zCF hsh n ed.on oe ho (hsh q oq hq hS ed hed hp.1) hp.2
structure Good (l : List Oper) (o : Oper) (i : Nat) : Prop where
 low : ∀ e ∈ o.after.toList, Region.binds .any e = true → e.on < i
 guard : ∀ j b, o.guard = some (j, b) → ZG o j = true ∧ ∃ oj d, l[j]? = some oj ∧ oj.dst = some d
 uses : ∀ t ∈ Zc l o, ∀ j oj, l[j]? = some oj → oj.dst = some t → j = i ∨ (j < i ∧ link l 12 o j = true) ∨ (i < j ∧ ZG oj i = true)
 once : ∀ j oj d, l[j]? = some oj → o.dst = some d → oj.dst = some d → j = i
theorem Zm (h : chk l = true) {i : Nat} {o : Oper} (ho : l[i]? = some o) : Good l o i := by
 have hc := chk_at h ho
 unfold chk1 at hc
 simp only [Bool.and_eq_true, List.all_eq_true] at hc
 obtain ⟨⟨⟨h1, h2⟩, h3⟩, h4⟩ := hc
 refine ⟨fun e he hb => ?_, fun j b hg => ?_, fun t ht j oj hj hd => ?_, fun j oj d hj hd hd' => ?_⟩
 ·have := h1 e he; rw [hb] at this; simpa using this
 ·rw [hg] at h2
  simp only [Bool.and_eq_true] at h2
  refine ⟨h2.1, ?_⟩
  have h22 := h2.2
  cases hl : l[j]? with
  | none => rw [hl] at h22; cases h22
  | some oj =>
   rw [hl] at h22
   cases hd : oj.dst with
   | none => obtain ⟨d0, op, ty, ps, af, gd⟩ := oj; simp only at hd; subst hd; cases h22
   | some d => exact ⟨oj, d, rfl, hd⟩
 ·have := h3 t ht (oj, j) (List.mem_zipIdx_iff_getElem?.2 hj)
  simp only [hd, beq_self_eq_true, Bool.not_true, Bool.false_or, Bool.or_eq_true, beq_iff_eq] at this
  rcases this with this | this
  ·exact .inl this
  ·split at this
   ·rename_i hlt; exact .inr (.inl ⟨hlt, this⟩)
   ·rename_i hlt
    by_cases e : j = i
    ·exact .inl e
    ·exact .inr (.inr ⟨by omega, this⟩)
 ·have := h4 (oj, j) (List.mem_zipIdx_iff_getElem?.2 hj)
  simp only [hd, hd', Bool.or_eq_true, beq_iff_eq, bne_iff_ne, ne_eq, not_true_eq_false, or_false, reduceCtorEq] at this
  exact this
theorem zBS {j d : Nat} {oj : Oper} (hj : l[j]? = some oj) (hd : oj.dst = some d) : zDS l j = d := by
 obtain ⟨d0, op, ty, ps, af, gd⟩ := oj
 simp only at hd; subst hd
 simp only [zDS, hj]
theorem zDg {κs : List Ke} {a0 : Act} {S : Nat → Bool} {a : Act} {w : World} {m : Mem} (hchk : chk l = true) (hκ : ∀ (j : Nat) (o : Oper), l[j]? = some o → (κs[j]?).isSome)
  (h : Inv l κs G0 W mE m0 L tch a0 S a w m) : ∀ (n : Nat) (g : Option (Nat × Bool)), (∀ j b, g = some (j, b) → S j = true ∧ (∃ oj d, l[j]? = some oj ∧ oj.dst = some d) ∧ zAO (zV a) (zDS l j, b)) →
   ∀ gd ∈ ZI l n g, zAO (zV a) gd
 | 0, _, _, gd, hgd => by cases hgd
 | n + 1, none, _, gd, hgd => by cases hgd
 | n + 1, some (j, b), hg, gd, hgd => by
  obtain ⟨hS, ⟨oj, d, hj, hd⟩, hs⟩ := hg j b rfl
  simp only [ZI, List.mem_cons] at hgd
  rcases hgd with rfl | hgd
  ·exact hs
  ·refine zDg hchk hκ h n _ (fun j' b' e => ?_) gd hgd
   have hgj : oj.guard = some (j', b') := by simpa [guardAt, hj] using e
   obtain ⟨he, oj', d', hj', hd'⟩ := (Zm hchk hj).guard j' b' hgj
   obtain ⟨ed, hed, hb, hon⟩ := zu he
   refine ⟨hon ▸ h.shut j oj hj hS ed hed hb, ⟨oj', d', hj', hd'⟩, ?_⟩
   obtain ⟨κ, hk⟩ := Option.isSome_iff_exists.1 (hκ j oj hj)
   have hf := (h.fact j oj d κ hj hk hS hd).2 (zDS l j', b') (by rw [hgj]; rfl)
   by_cases hh : zAO (zV a) (zDS l j', b')
   ·exact hh
   ·have hu := hf hh
    rw [zBS hj hd] at hs
    unfold zAO at hs
    simp only at hs
    rw [hu] at hs
    cases hs
theorem Z9 {κs : List Ke} {a0 : Act} {S : Nat → Bool} {a : Act} {w : World} {m : Mem} {i : Nat} {o : Oper} {w' : World} {m' : Mem} {v : Value}
  (hchk : chk l = true) (hsz : ∀ (j : Nat) (o : Oper) (d : Nat), l[j]? = some o → o.dst = some d → d < a0.tmps.size)
  (h : Inv l κs G0 W mE m0 L tch a0 S a w m) (hi : l[i]? = some o) (hS : S i = false) (hready : ∀ e ∈ o.after.toList, Region.binds .any e = true → S e.on = true)
  (hle : MLe m m')
  (hctx : Ctx G0 W mE m0 (Lof (z3 l (zV (a.put o.dst v))) (fun j => if j = i then true else S j) tch L) w' m')
  (hlink : ∀ t f, κs[i]? = some (.same t f) → ∃ q oq, l[q]? = some oq ∧ oq.dst = some t ∧ S q = true)
  (hfact : ∀ t κ, κs[i]? = some κ → o.dst = some t → ((∀ gd, gOf l o.guard = some gd → zAO (zV a) gd) → κ.holds (zV a) m' v) ∧ (∀ gd, gOf l o.guard = some gd → ¬ zAO (zV a) gd → v = undef)) :
  Inv l κs G0 W mE m0 L tch a0 (fun j => if j = i then true else S j) (a.put o.dst v) w' m' := by
 have hgi := Zm hchk hi
 have hother : ∀ t, o.dst ≠ some t → zV (a.put o.dst v) t = zV a t := fun t ht => by
  cases hd : o.dst with
  | none => rfl
  | some d =>
   rw [Z0 (by rw [h.size]; exact hsz i o d hi hd), if_neg (fun e => ht (by rw [hd, e]))]
 have hself : ∀ t, o.dst = some t → zV (a.put o.dst v) t = v := fun t ht => by
  rw [ht, Z0 (by rw [h.size]; exact hsz i o t hi ht), if_pos rfl]
 have hne' : ∀ q oq u, l[q]? = some oq → oq.dst = some u → S q = true → zV (a.put o.dst v) u = zV a u := fun q oq u hq hqd hSq =>
  hother u fun hh => by
   have := hgi.once q oq u hq hh hqd
   subst this; rw [hS] at hSq; cases hSq
 have hks : ∀ (κ : Ke) (m : Mem) (v' : Value), (∀ u f, κ = .same u f → zV (a.put o.dst v) u = zV a u) → κ.holds (zV a) m v' → κ.holds (zV (a.put o.dst v)) m v' := fun κ m v' hu hh => by
  cases κ with
  | val κ => exact hh
  | same u f => exact hh.trans (congrArg f (hu u f rfl).symm)
 have hkm : ∀ (κ : Ke) (v' : Value), κ.holds (zV a) m v' → κ.holds (zV a) m' v' := fun κ v' hh => by
  cases κ with
  | val κ => exact Kn.mono hle hh
  | same u f => exact hh
 have hgd : ∀ j oj, l[j]? = some oj → (j = i ∨ S j = true) → ∀ gd, gOf l oj.guard = some gd → (zAO (zV (a.put o.dst v)) gd ↔ zAO (zV a) gd) := by
  intro j oj hj hjS gd e
  cases hg : oj.guard with
  | none => rw [hg] at e; cases e
  | some jb =>
   obtain ⟨jg, b⟩ := jb
   rw [hg] at e; simp only [gOf, Option.some.injEq] at e; subst e
   obtain ⟨he, og, dg, hjg, hdg⟩ := (Zm hchk hj).guard jg b hg
   unfold zAO
   simp only
   rw [zBS hjg hdg]
   have hne : jg ≠ i := by
    rintro rfl
    obtain ⟨ed, hed, hb, hon⟩ := zu he
    rcases hjS with rfl | hjS
    ·have := (Zm hchk hj).low ed hed hb; omega
    ·have := h.shut j oj hj hjS ed hed hb; rw [hon, hS] at this; cases this
   rw [hother dg (fun hh => hne (hgi.once jg og dg hjg hh hdg))]
 refine ⟨hctx, zEo.trans h.defers, put_size.trans h.size, fun t ht => ?_, fun j oj t κ hj hk hSj hd => ?_, fun j oj t f hj hk hSj => ?_, fun j oj hj hSj e he hb => ?_⟩
 ·rw [hother t (fun hh => by have := ht i o hi hh; simp at this)]
  exact h.same t fun j oj hj hd => by
   have this : (if j = i then true else S j) = false := ht j oj hj hd
   split at this
   ·cases this
   ·exact this
 ·have hSj : (if j = i then true else S j) = true := hSj
  by_cases hji : j = i
  ·subst hji
   rw [hi] at hj; injection hj with hj; subst hj
   obtain ⟨f1, f2⟩ := hfact t κ hk hd
   rw [hself t hd]
   exact ⟨fun hg => hks κ m' v (fun u f hu => by subst hu; obtain ⟨q, oq, hq, hqd, hSq⟩ := hlink u f hk; exact hne' q oq u hq hqd hSq) <| f1 fun gd e => (hgd j o hi (.inl rfl) gd e).1 (hg gd e), fun gd e hn => f2 gd e fun hh => hn ((hgd j o hi (.inl rfl) gd e).2 hh)⟩
  ·rw [if_neg hji] at hSj
   obtain ⟨f1, f2⟩ := h.fact j oj t κ hj hk hSj hd
   rw [hother t (fun hh => hji (hgi.once j oj t hj hh hd))]
   exact ⟨fun hg => hks κ m' _ (fun u f hu => by subst hu; obtain ⟨q, oq, hq, hqd, hSq, _⟩ := h.same' j oj u f hj hk hSj; exact hne' q oq u hq hqd hSq) <| hkm κ _ (f1 fun gd e => (hgd j oj hj (.inr hSj) gd e).1 (hg gd e)), fun gd e hn => f2 gd e fun hh => hn ((hgd j oj hj (.inr hSj) gd e).2 hh)⟩
 ·have hSj : (if j = i then true else S j) = true := hSj
  by_cases hji : j = i
  ·subst hji
   obtain ⟨q, oq, hq, hqd, hSq⟩ := hlink t f hk
   exact ⟨q, oq, hq, hqd, by rw [hSq]; split <;> rfl, fun e => by subst e; rw [hS] at hSq; cases hSq⟩
  ·rw [if_neg hji] at hSj
   obtain ⟨q, oq, hq, hqd, hSq, hne⟩ := h.same' j oj t f hj hk hSj
   exact ⟨q, oq, hq, hqd, by rw [hSq]; split <;> rfl, hne⟩
 ·have hSj : (if j = i then true else S j) = true := hSj
  show (if e.on = i then true else S e.on) = true
  split
  ·rfl
  ·by_cases hji : j = i
   ·subst hji
    rw [hi] at hj; injection hj with hj; subst hj
    exact hready e he hb
   ·rw [if_neg hji] at hSj
    exact h.shut j oj hj hSj e he hb
theorem zAh {S : Nat → Bool} (hsh : ∀ (j : Nat) (o : Oper), l[j]? = some o → S j = true → ∀ e ∈ o.after.toList, Region.binds .any e = true → S e.on = true) : ∀ (n : Nat) (o : Oper) (j : Nat), (∀ e ∈ o.after.toList, Region.binds .any e = true → S e.on = true) → link l n o j = true → S j = true
 | 0, o, j, hr, h => by
  obtain ⟨ed, hed, hb, hon⟩ := zu h
  exact hon ▸ hr ed hed hb
 | n + 1, o, j, hr, h => by
  simp only [link, Bool.or_eq_true] at h
  rcases h with h | h
  ·obtain ⟨ed, hed, hb, hon⟩ := zu h
   exact hon ▸ hr ed hed hb
  ·cases hg : o.guard with
   | none => rw [hg] at h; cases h
   | some gb =>
    obtain ⟨g, b⟩ := gb
    rw [hg] at h
    simp only [Bool.and_eq_true] at h
    obtain ⟨h1, h2⟩ := h
    obtain ⟨ed, hed, hb, hon⟩ := zu h1
    have hSg : S g = true := hon ▸ hr ed hed hb
    cases hl : l[g]? with
    | none => rw [hl] at h2; cases h2
    | some og =>
     rw [hl] at h2
     exact zAh hsh n og j (hsh g og hl hSg) h2
theorem stTmp_uses {o : Oper} {t : Nat} (h : zBP o.op = some t) : t ∈ Zc l o := by
 obtain ⟨d0, op, ty, ps, af, gd⟩ := o
 unfold zBP at h
 simp only at h
 split at h <;> first
  | (injection h with h; subst h; refine List.mem_append_left _ ?_; simp [opTmps, zAk]; done)
  | (rename_i t y; injection h with h; subst h; refine List.mem_append_left _ ?_; cases Nat.ble t y <;> simp [opTmps, zAk]; done)
  | cases h
theorem zEl {i j : Nat} {o : Oper} {S : Nat → Bool} (hchk : chk l = true) (hi : l[i]? = some o) (hsh : ∀ (j : Nat) (o : Oper), l[j]? = some o → S j = true → ∀ e ∈ o.after.toList, Region.binds .any e = true → S e.on = true) (hSi : S i = false) (hSj : S j = true) (hne : j ≠ i) :
  ∀ d, zAA l j = some d → o.dst ≠ some d := by
 intro d hd hod
 unfold zAA at hd
 cases hj : l[j]? with
 | none => rw [hj] at hd; cases hd
 | some oj =>
  rw [hj] at hd
  simp only at hd
  cases ht : zBP oj.op with
  | none =>
   rw [ht] at hd
   exact hne ((Zm hchk hi).once j _ d hj hod hd)
  | some t =>
   rw [ht] at hd
   simp only at hd
   cases hany : (l.take j).any (fun x => x.dst == some t) with
   | false => rw [hany] at hd; cases hd
   | true =>
    rw [hany] at hd; simp only [cond_true, Option.some.injEq] at hd; subst hd
    rcases (Zm hchk hj).uses t (stTmp_uses ht) i o hi hod with h1 | ⟨_, h1⟩ | ⟨h1, _⟩
    ·exact hne h1.symm
    ·have := zAh hsh 12 oj i (hsh j oj hj hSj) h1
     rw [hSi] at this; cases this
    ·rw [List.any_eq_true] at hany
     obtain ⟨x, hx, hxd⟩ := hany
     obtain ⟨p, hp, hpx⟩ := List.mem_iff_getElem.1 hx
     rw [List.length_take] at hp
     rw [List.getElem_take] at hpx
     have hlp : l[p]? = some x := by rw [List.getElem?_eq_getElem (by omega), hpx]
     have := (Zm hchk hi).once p x t hlp hod (by simpa using hxd)
     omega
theorem rowV_at {j d' : Nat} {oj : Oper} (h : rowV l j oj = some d') : ∃ q, ZG oj q = true ∧ q < j ∧ zAA l q = some d' := by
 unfold rowV at h
 split at h
 ·cases h
 ·split at h
  ·cases h
  ·split at h
   ·cases h
   ·rename_i b _
    obtain ⟨q, hq, h2⟩ := List.exists_of_findSome?_eq_some h
    refine ⟨q, ?_⟩
    split at h2
    ·cases h2
    ·rename_i oq _
     cases he : isApp oq.op && oq.dst == some b && ZG oj q with
     | false => rw [he] at h2; cases h2
     | true =>
      rw [he] at h2
      simp only [Bool.and_eq_true] at he
      exact ⟨he.2, List.mem_range.1 hq, h2⟩
theorem prevV_at {j d' : Nat} (h : zBT l j = some d') : ∃ q oj, l[j]? = some oj ∧ ZG oj q = true ∧ q < j ∧ zAA l q = some d' := by
 unfold zBT at h
 cases hj : l[j]? with
 | none => rw [hj] at h; cases h
 | some oj =>
  rw [hj] at h
  simp only at h
  split at h
  ·cases h
  ·split at h
   ·rename_i b hb
    injection h with h; subst h
    obtain ⟨q, h1, h2, h3⟩ := rowV_at hb
    exact ⟨q, oj, rfl, h1, h2, h3⟩
   ·obtain ⟨q, hq, h2⟩ := List.exists_of_findSome?_eq_some h
    refine ⟨q, oj, rfl, ?_⟩
    split at h2
    ·cases h2
    ·split at h2
     ·cases h2
     ·cases he : ZG oj q with
      | false => rw [he] at h2; cases h2
      | true => rw [he] at h2; exact ⟨rfl, List.mem_range.1 hq, h2⟩
theorem zBR {a : Act} {i j : Nat} {o : Oper} {v : Value} {S : Nat → Bool} (hchk : chk l = true) (hi : l[i]? = some o) (hsz : ∀ d, o.dst = some d → d < a.tmps.size) (hsh : ∀ (j : Nat) (o : Oper), l[j]? = some o → S j = true → ∀ e ∈ o.after.toList, Region.binds .any e = true → S e.on = true) (hSi : S i = false) (hSj : S j = true) (hne : j ≠ i) :
  z3 l (zV a) j = z3 l (zV (a.put o.dst v)) j := by
 have same : ∀ d, o.dst ≠ some d → zV a d = zV (a.put o.dst v) d := fun d hd => by
  cases ho : o.dst with
  | none => rfl
  | some d' =>
   rw [Z0 (hsz d' ho), if_neg]
   rintro rfl
   exact hd ho
 unfold z3
 cases hs : zAA l j with
 | none => rfl
 | some d =>
  simp only
  have h1 := same d (zEl hchk hi hsh hSi hSj hne d hs)
  cases hp : zBT l j with
  | none => exact h1
  | some d' =>
   simp only
   obtain ⟨q, oj, hj, he, hq, hsq⟩ := prevV_at hp
   obtain ⟨ed, hed, hb, hon⟩ := zu he
   have hSq : S q = true := hon ▸ hsh j oj hj hSj ed hed hb
   have hqi : q ≠ i := fun e => by subst e; rw [hSi] at hSq; cases hSq
   rw [h1, same d' (zEl hchk hi hsh hSi hSq hqi d' hsq)]
theorem val_self0 {κs : List Ke} {a : Act} {i : Nat} {o : Oper} {v : Value} (hchk : chk l = true) (hκ : ∀ (j : Nat) (o : Oper), l[j]? = some o → (κs[j]?).isSome) (hi : l[i]? = some o) (hsz : ∀ d, o.dst = some d → d < a.tmps.size) :
  (match zAA l i with | some d => zV (a.put o.dst v) d | none => undef) = Z1 (ZE l κs i) o (zV a) v := by
 unfold zAA Z1
 rw [hi]
 simp only
 cases ht : zBP o.op with
 | none =>
  simp only
  cases hd : o.dst with
  | none => rfl
  | some d => simp only [keepV]; rw [Z0 (hsz d hd), if_pos rfl]
 | some t =>
  simp only
  cases hany : (l.take i).any (fun x => x.dst == some t) with
  | false =>
   simp only [cond_false]
   cases hf : find (ZE l κs i) t with
   | none => rfl
   | some x =>
    obtain ⟨g, κ⟩ := x
    obtain ⟨j, oj, hlt, hj, _, hd, _⟩ := ZP i hf
    have : (l.take i).any (fun x => x.dst == some t) = true := by
     rw [List.any_eq_true]
     exact ⟨oj, List.mem_of_getElem? (i := j) (by rw [List.getElem?_take_of_lt hlt]; exact hj), by simp [hd]⟩
    rw [hany] at this; cases this
  | true =>
   simp only [cond_true]
   rw [List.any_eq_true] at hany
   obtain ⟨x, hx, hxd⟩ := hany
   obtain ⟨p, hp, hpx⟩ := List.mem_iff_getElem.1 hx
   rw [List.length_take] at hp
   rw [List.getElem_take] at hpx
   have hlp : l[p]? = some x := by rw [List.getElem?_eq_getElem (by omega), hpx]
   have hxd : x.dst = some t := by simpa using hxd
   have hod : o.dst ≠ some t := fun e => by
    have := (Zm hchk hi).once p x t hlp e hxd
    omega
   cases hf : find (ZE l κs i) t with
   | none => exact absurd hxd (ZQ i hf p x (by omega) hlp (hκ p x hlp))
   | some x =>
    simp only
    cases hd : o.dst with
    | none => rfl
    | some d => rw [Z0 (hsz d hd), if_neg]; rintro rfl; exact hod hd
theorem zEN {κs : List Ke} {a : Act} {i : Nat} {o : Oper} {v : Value} (hchk : chk l = true) (hκ : ∀ (j : Nat) (o : Oper), l[j]? = some o → (κs[j]?).isSome) (hi : l[i]? = some o) (hsz : ∀ d, o.dst = some d → d < a.tmps.size) (hp : zBT l i = none) :
  z3 l (zV (a.put o.dst v)) i = Z1 (ZE l κs i) o (zV a) v := by
 rw [← val_self0 hchk hκ hi hsz]
 unfold z3
 rw [hp]
theorem zDb {κs : List Ke} {a : Act} {i d' : Nat} {o : Oper} {v : Value} {S : Nat → Bool} (hchk : chk l = true) (hκ : ∀ (j : Nat) (o : Oper), l[j]? = some o → (κs[j]?).isSome) (hi : l[i]? = some o) (hsz : ∀ d, o.dst = some d → d < a.tmps.size) (hp : zBT l i = some d') (hsl : (zAA l i).isSome = true) :
  z3 l (zV (a.put o.dst v)) i = .tuple #[Z1 (ZE l κs i) o (zV a) v, zV a d'] := by
 have h0 := val_self0 (v := v) hchk hκ hi hsz
 unfold z3
 rw [hp]
 obtain ⟨d, hd⟩ := Option.isSome_iff_exists.1 hsl
 rw [hd] at h0 ⊢
 simp only at h0 ⊢
 rw [h0]
 obtain ⟨q, oj, hj, he, hq, hsq⟩ := prevV_at hp
 have hdst : o.dst ≠ some d' := by
  obtain ⟨oq, hoq⟩ : ∃ oq, l[q]? = some oq := by
   cases h : l[q]? with
   | none => unfold zAA at hsq; rw [h] at hsq; cases hsq
   | some oq => exact ⟨oq, rfl⟩
  intro hod
  have hvo : valSt o.op ≠ none := by
   intro e
   unfold zBT at hp
   rw [hi] at hp
   simp only [e] at hp
   cases hp
  -- the slot that is written before is not this one's
  unfold zAA at hsq
  rw [hoq] at hsq
  simp only at hsq
  cases ht : zBP oq.op with
  | none =>
   rw [ht] at hsq
   have := (Zm hchk hi).once q oq d' hoq hod hsq
   omega
  | some t =>
   rw [ht] at hsq
   simp only at hsq
   cases hany : (l.take q).any (fun x => x.dst == some t) with
   | false => rw [hany] at hsq; cases hsq
   | true =>
    rw [hany] at hsq; simp only [cond_true, Option.some.injEq] at hsq; subst hsq
    rw [List.any_eq_true] at hany
    obtain ⟨x, hx, hxd⟩ := hany
    obtain ⟨p, hp', hpx⟩ := List.mem_iff_getElem.1 hx
    rw [List.length_take] at hp'
    rw [List.getElem_take] at hpx
    have hlp : l[p]? = some x := by rw [List.getElem?_eq_getElem (by omega), hpx]
    have := (Zm hchk hi).once p x t hlp hod (by simpa using hxd)
    omega
 have h2 : zV (a.put o.dst v) d' = zV a d' := by
  cases ho : o.dst with
  | none => rfl
  | some d0 => rw [Z0 (hsz d0 ho), if_neg]; rintro rfl; exact hdst ho
 rw [h2]
theorem inv_step {Q : Exit → Act → World → Prop} {κs : List Ke} {a0 : Act} {S : Nat → Bool} {a : Act} {w : World} {m : Mem} {i : Nat} {o : Oper}
  (hchk : chk l = true) (htch : zAy l tch = true) (hsz : ∀ (j : Nat) (o : Oper) (d : Nat), l[j]? = some o → o.dst = some d → d < a0.tmps.size)
  (hob : ∀ (j : Nat) (o : Oper), l[j]? = some o → ∃ κ, κs[j]? = some κ ∧ zFM P l G0 W mE m0 L tch T j (ZE l κs j) o κ)
  (hT : ∀ t v, look T t = some v → zV a0 t = v) 
  (h : Inv l κs G0 W mE m0 L tch a0 S a w m) (hi : l[i]? = some o) (hS : S i = false) (hready : ∀ e ∈ o.after.toList, Region.binds .any e = true → S e.on = true) :
  wpOpIn (z4 rd) 0 P l.toArray Q i (fun a' w' => ∃ m', Inv l κs G0 W mE m0 L tch a0 (fun j => if j = i then true else S j) a' w' m') a w := by
 have hgi := Zm hchk hi
 have hκ : ∀ j o, l[j]? = some o → (κs[j]?).isSome := fun j o hj => by obtain ⟨κ, hk, _⟩ := hob j o hj; rw [hk]; rfl
 have hoi : (l.toArray)[i]? = some o := by simpa using hi
 obtain ⟨κ, hk, hobl⟩ := hob i o hi
 -- what its guard says
 have hwanted : Region.wanted o (yielded l.toArray a.tmps) = true → ∀ j b, o.guard = some (j, b) → S j = true ∧ (∃ oj d, l[j]? = some oj ∧ oj.dst = some d) ∧ zAO (zV a) (zDS l j, b) := by
  intro hw j b hg
  obtain ⟨he, oj, d, hj, hd⟩ := hgi.guard j b hg
  obtain ⟨ed, hed, hb, hon⟩ := zu he
  refine ⟨hon ▸ hready ed hed hb, ⟨oj, d, hj, hd⟩, ?_⟩
  simp only [Region.wanted, hg] at hw
  have := (zAe (ops := l.toArray) (a := a) (by simpa using hj) hd b).1 hw
  unfold zAO
  simp only
  rw [zBS hj hd]; exact this
 have hunwanted : Region.wanted o (yielded l.toArray a.tmps) ≠ true → (∃ gd, gOf l o.guard = some gd) ∧ ∀ gd, gOf l o.guard = some gd → ¬ zAO (zV a) gd := by
  intro hw
  cases hg : o.guard with
  | none => exact absurd (by simp [Region.wanted, hg]) hw
  | some jb =>
   obtain ⟨j, b⟩ := jb
   obtain ⟨he, oj, d, hj, hd⟩ := hgi.guard j b hg
   refine ⟨⟨_, rfl⟩, fun gd e => ?_⟩
   simp only [gOf, Option.some.injEq] at e; subst e
   intro hh
   unfold zAO at hh
   simp only at hh
   rw [zBS hj hd] at hh
   exact hw (by simp only [Region.wanted, hg]; exact (zAe (ops := l.toArray) (a := a) (by simpa using hj) hd b).2 hh)
 have hknow : Region.wanted o (yielded l.toArray a.tmps) = true → Know (zV a) m (Zc l o) (ZI l 12 o.guard) (ZE l κs i) T := by
  intro hw
  refine ⟨fun t v ht hf hl => ?_, fun t g κ' ht hf hg => ?_, zDg hchk hκ h 12 _ (hwanted hw)⟩
  ·rw [h.same t fun j oj hj hd => ?_]
   ·exact hT t v hl
   ·rcases hgi.uses t ht j oj hj hd with rfl | ⟨hlt, _⟩ | ⟨hlt, he⟩
    ·exact hS
    ·exact absurd hd (ZQ i hf j oj hlt hj (hκ j oj hj))
    ·obtain ⟨ed, hed, hb, hon⟩ := zu he
     cases hSj : S j with
     | false => rfl
     | true => have := h.shut j oj hj hSj ed hed hb; rw [hon, hS] at this; cases this
  ·obtain ⟨j, oj, hlt, hj, hkj, hd, rfl⟩ := ZP i hf
   rcases hgi.uses t ht j oj hj hd with rfl | ⟨_, he⟩ | ⟨hlt', _⟩
   ·omega
   ·exact (h.fact j oj t κ' hj hkj (zAh h.shut 12 o j hready he) hd).1 hg
   ·omega
 unfold wpOpIn
 rw [hoi]
 show if Region.wanted o (yielded l.toArray a.tmps) = true then _ else _
 have hlink : ∀ t f, κs[i]? = some (.same t f) → ∃ q oq, l[q]? = some oq ∧ oq.dst = some t ∧ S q = true := fun t f ht => by
  rw [hk] at ht; injection ht with ht; subst ht
  rcases hobl with ⟨_, e, _⟩ | ⟨_, _, _, _, e, _⟩ | ⟨t', f', e, _, hh, _⟩
  ·cases e
  ·cases e
  ·injection e with e e'; subst e
   unfold zCA at hh
   simp only [Bool.and_eq_true, List.any_eq_true] at hh
   obtain ⟨_, x, hx, hd, he⟩ := hh
   obtain ⟨ed, hed, hb, hon⟩ := zu he
   exact ⟨x.2, x.1, List.mem_zipIdx_iff_getElem?.1 hx, by simpa using hd, hon ▸ hready ed hed hb⟩
 rcases hobl with ⟨κ', rfl, ht, hO⟩ | ⟨κ', k, r, r', rfl, ht, hkl, hr, hg, hO⟩ | ⟨t0, f0, rfl, ht, hh, hN⟩
 ·have hctx : ∀ v w' m', ExtG [] w m w' m' → Ctx G0 W mE m0 (Lof (z3 l (zV (a.put o.dst v))) (fun j => if j = i then true else S j) tch L) w' m' := fun v w' m' hE => by
   rw [← zBN (V := z3 l (zV a)) (S := S) tch L (fun x hx => ⟨by rw [if_neg (zAC ht x hx)], fun hSx => zBR hchk hi (fun d hd => by rw [h.size]; exact hsz i o d hi hd) h.shut hS hSx (zAC ht x hx)⟩)]
   exact ⟨h.ctx.st.keep hE, h.ctx.le.trans hE.le⟩
  split
  ·rename_i hw
   refine (ZU (hO (zV a) w m ?_ (hknow hw)) fun v w' ⟨m', hE, hh⟩ => ⟨m', Z9 hchk hsz h hi hS hready hE.le (hctx v w' m' hE) hlink fun t κ' hk' _ => ?_⟩)
   ·unfold Lsel
    refine ⟨zEf tch L (fun x hx he => ?_) h.ctx.st, h.ctx.le⟩
    cases hs : l[x.1]? with
    | none => rw [hs] at he; cases he
    | some os =>
     rw [hs] at he
     cases hSs : S x.1 with
     | false => rfl
     | true => have := zCF h.shut 8 x.1 os hs hSs he; rw [hS] at this; cases this
   ·rw [hk] at hk'; injection hk' with hk'; subst hk'
    refine ⟨fun _ => hh, fun gd e hn => absurd ?_ hn⟩
    cases hg : o.guard with
    | none => rw [hg] at e; cases e
    | some jb =>
     obtain ⟨j, b⟩ := jb
     rw [hg] at e; simp only [gOf, Option.some.injEq] at e; subst e
     exact (hwanted hw j b hg).2.2
  ·rename_i hw
   obtain ⟨⟨gd0, hgd0⟩, hns⟩ := hunwanted hw
   exact ⟨fun _ _ => trivial, m, Z9 hchk hsz h hi hS hready (MLe.refl _) (hctx undef w m (ExtG.refl [] h.ctx.agree)) hlink fun t κ' _ _ =>
    ⟨fun hall => absurd (hall gd0 hgd0) (hns gd0 hgd0), fun _ _ _ => rfl⟩⟩
 ·have hw : Region.wanted o (yielded l.toArray a.tmps) = true := by
   rcases hg with hg | ⟨s, b, c, hgo, hf, hcb⟩
   ·simp [Region.wanted, hg]
   ·apply Classical.byContradiction
    intro hn
    refine (hunwanted hn).2 _ hgo ?_
    obtain ⟨p, op, hp, hlp, hkp, hdp, hgp⟩ := ZP i hf
    have hu : s ∈ Zc l o := by
     unfold Zc
     refine List.mem_append_right _ (List.mem_map.2 ⟨(s, b), ?_, rfl⟩)
     cases hog : o.guard with
     | none => rw [hog] at hgo; cases hgo
     | some jb =>
      rw [hog] at hgo; simp only [gOf, Option.some.injEq] at hgo
      show (s, b) ∈ ZI l 12 (some jb)
      unfold ZI; rw [← hgo]; exact .head _
    have he : link l 12 o p = true := by
     rcases hgi.uses s hu p op hlp hdp with rfl | ⟨_, he⟩ | ⟨hlt', _⟩
     ·omega
     ·exact he
     ·omega
    have hh := (h.fact p op s _ hlp hkp (zAh h.shut 12 o p hready he) hdp).1 (fun gd e => by rw [← hgp] at e; cases e)
    unfold zAO
    subst hcb
    exact hh
  have hgn : ∀ gd, gOf l o.guard = some gd → zAO (zV a) gd := fun gd e => by
   cases hg : o.guard with
   | none => rw [hg] at e; cases e
   | some jb =>
    obtain ⟨j, b⟩ := jb
    rw [hg] at e; simp only [gOf, Option.some.injEq] at e; subst e
    exact (hwanted hw j b hg).2.2
  rw [if_pos hw]
  have hsz' : ∀ d, o.dst = some d → d < a.tmps.size := fun d hd => by rw [h.size]; exact hsz i o d hi hd
  have hshut : Shut l S := fun q s he hq => by
   unfold zAY at he
   cases hlq : l[q]? with
   | none => rw [hlq] at he; cases he
   | some oq =>
    rw [hlq] at he
    obtain ⟨ed, hed, hb, hon⟩ := zu he
    rw [← hon]; exact h.shut q oq hlq hq ed hed hb
  have hst := fun v => zFH (V := z3 l (zV a)) (V' := z3 l (zV (a.put o.dst v))) (S := S) hshut (fun j hj hSj => zBR hchk hi hsz' h.shut hS hSj hj) tch L htch ht hS
  have hrk : (Lof (z3 l (zV a)) S tch L)[k]? = some (r (zV a)) := by
   rcases lof_pre (V := z3 l (zV a)) hshut hS hi hready htch ht rfl (hr (zV a)) with h1 | h1
   ·exact h1
   ·rw [List.getElem?_eq_none_iff, zCi] at h1; omega
  rcases hO with ⟨hp, hO⟩ | ⟨d', hp, hsl, hO⟩
  ·refine (ZU (hO (zV a) w m ⟨zEJ tch L h.ctx.st, h.ctx.le⟩ (h.ctx.st.loc.at_ hrk) (hknow hw)) fun v w' ⟨m', hT', hh⟩ => ⟨m', ?_⟩)
   refine Z9 hchk hsz h hi hS hready hT'.ext.le ?_ hlink fun t κ' hk' _ => ?_
   ·rw [← hst v, zEN hchk hκ hi hsz' hp]
    exact ⟨h.ctx.st.touch hrk hT', h.ctx.le.trans hT'.ext.le⟩
   ·rw [hk] at hk'; injection hk' with hk'; subst hk'
    exact ⟨fun _ => hh, fun gd e hn => absurd (hgn gd e) hn⟩
  ·refine (ZU (hO (zV a) w m ⟨zEJ tch L h.ctx.st, h.ctx.le⟩ (h.ctx.st.loc.at_ hrk) (hknow hw)) fun v w' ⟨m', hT', hh⟩ => ⟨m', ?_⟩)
   refine Z9 hchk hsz h hi hS hready hT'.ext.le ?_ hlink fun t κ' hk' _ => ?_
   ·rw [← hst v, zDb (S := S) hchk hκ hi hsz' hp hsl]
    exact ⟨h.ctx.st.touch hrk hT', h.ctx.le.trans hT'.ext.le⟩
   ·rw [hk] at hk'; injection hk' with hk'; subst hk'
    exact ⟨fun _ => hh, fun gd e hn => absurd (hgn gd e) hn⟩
 ·have hctx : Ctx G0 W mE m0 (Lof (z3 l (zV (a.put o.dst (f0 (zV a t0))))) (fun j => if j = i then true else S j) tch L) w m := by
   rw [← zBN (V := z3 l (zV a)) (S := S) tch L (fun x hx => ⟨by rw [if_neg (zAC ht x hx)], fun hSx => zBR hchk hi (fun d hd => by rw [h.size]; exact hsz i o d hi hd) h.shut hS hSx (zAC ht x hx)⟩)]
   exact ⟨h.ctx.st, h.ctx.le⟩
  have hg : o.guard = none := by
   unfold zCA at hh; simp only [Bool.and_eq_true] at hh
   cases hg : o.guard with
   | none => rfl
   | some x => rw [hg] at hh; cases hh.1.1
  have hw : Region.wanted o (yielded l.toArray a.tmps) = true := by simp [Region.wanted, hg]
  rw [if_pos hw]
  refine (ZU (hN (zV a) w m (hknow hw)) fun v w' hv => ⟨m, ?_⟩)
  obtain ⟨rfl, rfl⟩ := hv
  refine Z9 hchk hsz h hi hS hready (MLe.refl _) hctx hlink fun t κ' hk' _ => ?_
  rw [hk] at hk'; injection hk' with hk'; subst hk'
  exact ⟨fun _ => rfl, fun gd e hn => by rw [hg] at e; cases e⟩
structure FrN where
 n : Nat
 ds : List Deferred := []
def zEz (n : FrN) (l : List Oper) : Bool := l.all fun o => match o.dst with | some d => decide (d < n.n) | none => true
structure Fr (n : FrN) (T : List (Nat × Value)) (a : Act) : Prop where
 defers : a.defers = n.ds
 size : a.tmps.size = n.n
 at_ : ∀ t v, look T t = some v → zV a t = v
structure FinK (n : FrN) (fin : List Ent) (T : List (Nat × Value)) (a : Act) (m : Mem) : Prop where
 defers : a.defers = n.ds
 size : a.tmps.size = n.n
 old : ∀ t v, find fin t = none → look T t = some v → zV a t = v
 ent : ∀ t g κ, find fin t = some (g, κ) → (∀ gd, g = some gd → zAO (zV a) gd) → κ.holds (zV a) m (zV a t)
theorem all_ready {S : Nat → Bool} (hchk : chk l = true) (h : ∀ i o, l[i]? = some o → S i = false → ∃ e ∈ o.after.toList, Region.binds .any e = true ∧ S e.on = false) : ∀ i, i < l.length → S i = true := by
 intro i
 induction i using Nat.strongRecOn with
 | _ i ih =>
  intro hi
  cases hS : S i with
  | true => rfl
  | false =>
   have ho : l[i]? = some l[i] := List.getElem?_eq_getElem hi
   obtain ⟨e, he, hb, hn⟩ := h i _ ho hS
   have hlt := (Zm hchk ho).low e he hb
   rw [ih e.on hlt (by omega)] at hn
   cases hn
theorem zBm : ∀ (xs : List Bool) (i n : Nat), xs[i]? = some false → xs.countP (fun b => !b) = n + 1 → (xs.set i true).countP (fun b => !b) = n
 | [], i, _, h, _ => by simp at h
 | b :: xs, 0, n, h, hc => by simp at h; subst h; simpa using hc
 | true :: xs, i + 1, n, h, hc => by
  simp at h
  have := zBm xs i n h (by simpa using hc)
  simpa using this
 | false :: xs, i + 1, 0, h, hc => by
  simp at h hc
  exact absurd (List.mem_of_getElem? h) hc
 | false :: xs, i + 1, n + 1, h, hc => by
  simp at h
  have := zBm xs i n h (by simpa using hc)
  simpa using this
theorem zDx {Q : Exit → Act → World → Prop} {κs : List Ke} {a0 : Act} {w0 : World} {m1 : Mem}
  (hchk : chk l = true) (htch : zAy l tch = true) (hsz : ∀ (j : Nat) (o : Oper) (d : Nat), l[j]? = some o → o.dst = some d → d < a0.tmps.size)
  (hob : ∀ (j : Nat) (o : Oper), l[j]? = some o → ∃ κ, κs[j]? = some κ ∧ zFM P l G0 W mE m0 L tch T j (ZE l κs j) o κ)
  (hT : ∀ t v, look T t = some v → zV a0 t = v) 
  (h0 : Inv l κs G0 W mE m0 L tch a0 (fun _ => false) a0 w0 m1)
  (cont : ∀ a w m S, (∀ i, i < l.length → S i = true) → Inv l κs G0 W mE m0 L tch a0 S a w m → Q .normal a w) :
  wpOpsIn (z4 rd) 0 P l.toArray Q (List.range l.toArray.size) a0 w0 := by
 have step := @inv_step rd P l G0 W mE m0 L tch T Q κs a0
 have key : ∀ (n k : Nat), k + n = l.length → ∀ a w m, Inv l κs G0 W mE m0 L tch a0 (fun j => decide (j < k)) a w m → wpOpsIn (z4 rd) 0 P l.toArray Q (List.range' k n) a w := by
  intro n
  induction n with
  | zero =>
   intro k hk a w m h
   simp only [List.range'_zero, wpOpsIn]
   exact cont a w m _ (fun i hi => by simp; omega) h
  | succ n ih =>
   intro k hk a w m h
   rw [List.range'_succ, wpOpsIn_cons]
   have hk' : k < l.length := by omega
   have ho : l[k]? = some l[k] := List.getElem?_eq_getElem hk'
   have hs := step hchk htch hsz hob hT h ho (by simp) fun e he hb => by
    have := (Zm hchk ho).low e he hb; simpa using this
   refine wpOpIn_mono (fun a' w' ⟨m', h'⟩ => ih (k + 1) (by omega) a' w' m' ?_) hs
   ·have : (fun j => if j = k then true else decide (j < k)) = fun j => decide (j < k + 1) := by
     funext j; by_cases hj : j = k
     ·subst hj; simp
     ·simp [hj]; omega
    rwa [this] at h'
 have := key l.length 0 (by omega) a0 w0 m1 (by
  have : (fun j => decide (j < 0)) = fun _ : Nat => false := by funext j; simp
  rw [this]; exact h0)
 rw [List.range_eq_range']
 simpa using this
theorem region_core {Q : Exit → Act → World → Prop} {κs : List Ke} {a0 : Act} {id : Nat} {draw : Bool} {w0 : World} {m1 : Mem}
  (hm : draw = true → P.follows .mixedOrders = true)
  (hchk : chk l = true) (htch : zAy l tch = true) (hsz : ∀ (j : Nat) (o : Oper) (d : Nat), l[j]? = some o → o.dst = some d → d < a0.tmps.size)
  (hob : ∀ (j : Nat) (o : Oper), l[j]? = some o → ∃ κ, κs[j]? = some κ ∧ zFM P l G0 W mE m0 L tch T j (ZE l κs j) o κ)
  (hT : ∀ t v, look T t = some v → zV a0 t = v) 
  (h0 : Inv l κs G0 W mE m0 L tch a0 (fun _ => false) a0 w0 m1) (h0' : Inv l κs G0 W mE m0 L tch a0 (fun _ => false) a0 { w0 with drawn := w0.drawn + 1 } m1)
  (cont : ∀ a w m S, (∀ i, i < l.length → S i = true) → Inv l κs G0 W mE m0 L tch a0 S a w m → Q .normal a w) :
  (Code.region id l.toArray draw).wpIn (z4 rd) 0 P Q a0 w0 := by
 have step := @inv_step rd P l G0 W mE m0 L tch T Q κs a0
 cases draw with
 | false =>
  refine wpIn_region ?_
  have key : ∀ (n k : Nat), k + n = l.length → ∀ a w m, Inv l κs G0 W mE m0 L tch a0 (fun j => decide (j < k)) a w m → wpOpsIn (z4 rd) 0 P l.toArray Q (List.range' k n) a w := by
   intro n
   induction n with
   | zero =>
    intro k hk a w m h
    simp only [List.range'_zero, wpOpsIn]
    exact cont a w m _ (fun i hi => by simp; omega) h
   | succ n ih =>
    intro k hk a w m h
    rw [List.range'_succ, wpOpsIn_cons]
    have hk' : k < l.length := by omega
    have ho : l[k]? = some l[k] := List.getElem?_eq_getElem hk'
    have hs := step hchk htch hsz hob hT h ho (by simp) fun e he hb => by
     have := (Zm hchk ho).low e he hb; simpa using this
    refine wpOpIn_mono (fun a' w' ⟨m', h'⟩ => ih (k + 1) (by omega) a' w' m' ?_) hs
    ·have : (fun j => if j = k then true else decide (j < k)) = fun j => decide (j < k + 1) := by
      funext j; by_cases hj : j = k
      ·subst hj; simp
      ·simp [hj]; omega
     rwa [this] at h'
  have := key l.length 0 (by omega) a0 w0 m1 (by
   have : (fun j => decide (j < 0)) = fun _ : Nat => false := by funext j; simp
   rw [this]; exact h0)
  rw [List.range_eq_range']
  simpa using this
 | true =>
  refine wpIn_region_any (hm rfl) ?_
  have key : ∀ (fuel : Nat) (listed : Array Bool) (a : Act) (w : World) (m : Mem), listed.size = l.length → (listed.toList.countP (fun b => !b)) = fuel →
    Inv l κs G0 W mE m0 L tch a0 (fun j => listed.getD j false) a w m → wpAnyIn (z4 rd) 0 P .any l.toArray Q fuel listed a w := by
   intro fuel
   have hreadyall : ∀ (listed : Array Bool), listed.size = l.length → Region.ready .any l.toArray listed = [] → ∀ i, i < l.length → listed.getD i false = true := by
    intro listed hl hr
    refine all_ready hchk fun i o ho hS => ?_
    have hi : i < l.length := (List.getElem?_eq_some_iff.1 ho).1
    have hni : i ∉ Region.ready .any l.toArray listed := by rw [hr]; simp
    simp only [Region.ready, List.mem_filter, List.mem_range, not_and, List.size_toArray] at hni
    have h1 := hni hi
    have hS' : listed.getD i true = false := by
     simp only [Array.getD_eq_getD_getElem?] at hS ⊢
     rw [Array.getElem?_eq_getElem (by omega)] at hS ⊢; exact hS
    have hoi : (l.toArray)[i]? = some o := by simpa using ho
    simp only [hS', hoi, Bool.not_false, Bool.true_and, Option.map_some, Option.getD_some, Bool.not_eq_true] at h1
    rw [← Array.all_toList] at h1
    rw [List.all_eq_false] at h1
    obtain ⟨e, he, hb⟩ := h1
    simp only [Bool.or_eq_true, Bool.not_eq_true', not_or, Bool.not_eq_false, Bool.not_eq_true] at hb
    exact ⟨e, he, hb.1, hb.2⟩
   induction fuel with
   | zero =>
    intro listed a w m hl hc h
    have hall : ∀ i, i < l.length → listed.getD i false = true := by
     intro i hi
     rw [List.countP_eq_zero] at hc
     have := hc (listed[i]'(by omega)) (by simp)
     simp only [Array.getD_eq_getD_getElem?]
     rw [Array.getElem?_eq_getElem (by omega)]
     simpa using this
    refine ⟨?_, cont a w m _ hall h⟩
    simp only [Region.ready, List.filter_eq_nil_iff, List.mem_range, List.size_toArray]
    intro i hi
    have := hall i hi
    simp only [Array.getD_eq_getD_getElem?] at this ⊢
    rw [Array.getElem?_eq_getElem (by omega)] at this ⊢
    simp only [Option.getD_some] at this ⊢
    simp [this]
   | succ fuel ih =>
    intro listed a w m hl hc h
    refine ⟨fun hr => cont a w m _ (hreadyall listed hl hr) h, fun i hi => ?_⟩
    simp only [Region.ready, List.mem_filter, List.mem_range, List.size_toArray, Bool.and_eq_true, Bool.not_eq_true'] at hi
    obtain ⟨hil, hun, hed⟩ := hi
    have ho : l[i]? = some l[i] := List.getElem?_eq_getElem hil
    have hoi : (l.toArray)[i]? = some l[i] := by simp
    have hun' : listed[i]? = some false := by
     simp only [Array.getD_eq_getD_getElem?] at hun
     rw [Array.getElem?_eq_getElem (by omega)] at hun ⊢
     simpa using hun
    have hs := step hchk htch hsz hob hT h ho (by simp [Array.getD_eq_getD_getElem?, hun']) fun e he hb => by
     rw [hoi] at hed
     simp only [Option.map_some, Option.getD_some, ← Array.all_toList, List.all_eq_true, Bool.or_eq_true, Bool.not_eq_true'] at hed
     rcases hed e he with h1 | h1
     ·rw [hb] at h1; cases h1
     ·exact h1
    refine wpOpIn_mono (fun a' w' ⟨m', h'⟩ => ih (listed.setIfInBounds i true) a' w' m' (by simpa using hl) ?_ ?_) hs
    ·have hset : (listed.setIfInBounds i true).toList = listed.toList.set i true := Array.toList_setIfInBounds ..
     rw [hset]
     exact zBm _ i fuel (by simpa using hun') hc
    ·have : (fun j => if j = i then true else listed.getD j false) = fun j => (listed.setIfInBounds i true).getD j false := by
      funext j
      simp only [Array.getD_eq_getD_getElem?, Array.getElem?_setIfInBounds]
      by_cases hj : j = i
      ·subst hj; simp [hl, hil]
      ·rw [if_neg hj, if_neg (fun e => hj e.symm)]
     rwa [this] at h'
  have hrep : (List.replicate l.length false).countP (fun b => !b) = l.length := by rw [List.countP_replicate]; rfl
  have := key l.length (Array.replicate l.length false) a0 { w0 with drawn := w0.drawn + 1 } m1 (by simp) (by simpa using hrep) (by
   have : (fun j => (Array.replicate l.length false).getD j false) = fun _ : Nat => false := by
    funext j; simp only [Array.getD_eq_getD_getElem?, Array.getElem?_replicate]; split <;> rfl
   rw [this]; exact h0')
  simpa using this
inductive FinL (V : Nat → Value) : Tch → List Res → List Res → Prop where
 | nil {L : List Res} : FinL V [] L L
 | cons {s k : Nat} {f : Value → Res} {r : Tch} {L L' : List Res} {v : Value} (h : V s = v) (hs : FinL V r (L.set k (f v)) L') : FinL V ((s, k, f) :: r) L L'
theorem St.fin {V : Nat → Value} {tch : Tch} {L L' : List Res} {w : World} {m : Mem} (h : St G0 W mE (zDd V tch L) w m) (hf : FinL V tch L L') : St G0 W mE L' w m := by
 induction hf with
 | nil => exact h
 | cons hv _ ih => subst hv; exact ih h
theorem zc {Q : Exit → Act → World → Prop} {n : FrN} {id : Nat} {draw : Bool} {a : Act} {w : World} {m : Mem} {fin : List Ent} {W : World} {mE : Mem} {G0 : List Nat} {L : List Res} {tch : Tch}
  (hm : draw = true → P.follows .mixedOrders = true) (hst : St G0 W mE L w m) (hfr : Fr n T a)
  (hchk : chk l = true) (htch : zAy l tch = true) (hd : zEz n l = true)
  (hob : zBJ P l G0 W mE m L tch T 0 [] l fin)
  (cont : ∀ (a' : Act) (w' : World) (m' : Mem), St G0 W mE (zDd (z3 l (zV a')) tch L) w' m' → MLe m m' → FinK n fin T a' m' → Q .normal a' w') :
  (Code.region id l.toArray draw).wpIn (z4 rd) 0 P Q a w := by
 obtain ⟨κs, hlen, _, hfin, hall⟩ := obls_at hob [] rfl (fun j => by simp) rfl
 simp only [Nat.zero_add] at hlen hfin hall
 have hob' : ∀ (j : Nat) (o : Oper), l[j]? = some o → ∃ κ, κs[j]? = some κ ∧ zFM P l G0 W mE m L tch T j (ZE l κs j) o κ :=
  fun j o ho => hall j o (by omega) ho (List.getElem?_eq_some_iff.1 ho).1
 have hlof : Lof (z3 l (zV a)) (fun _ => false) tch L = L := zDA tch L fun _ _ => rfl
 have hinv : ∀ w1 : World, St G0 W mE L w1 m → Inv l κs G0 W mE m L tch a (fun _ => false) a w1 m := fun w1 hst1 =>
  ⟨⟨by rw [hlof]; exact hst1, MLe.refl _⟩, rfl, rfl, (fun _ _ => rfl), fun _ _ _ _ _ _ h => (Bool.noConfusion h), fun _ _ _ _ _ _ h => (Bool.noConfusion h), fun _ _ _ h => (Bool.noConfusion h)⟩
 have hst' : St G0 W mE L { w with drawn := w.drawn + 1 } m := hst.keep ⟨rfl, rfl, rfl, Nat.le_refl _, fun _ _ _ => rfl, ⟨hst.agree.cell, hst.agree.map⟩, MLe.refl _, fun _ _ _ => ⟨rfl, rfl⟩⟩
 refine region_core hm hchk htch (fun j o d ho hdst => ?_) hob' hfr.at_ (hinv w hst) (hinv _ hst') fun a' w' m' S hS h => ?_
 ·rw [hfr.size]
  unfold zEz at hd
  rw [List.all_eq_true] at hd
  have := hd o (List.mem_of_getElem? ho)
  rw [hdst] at this
  simpa using this
 ·have htl : ∀ x ∈ tch, S x.1 = true := by
   have : ∀ tc : Tch, zAy l tc = true → ∀ x ∈ tc, x.1 < l.length := by
    intro tc
    induction tc with
    | nil => intro _ x hx; cases hx
    | cons y tc ih =>
     obtain ⟨s, k, r⟩ := y
     intro ht x hx
     obtain ⟨_, h2, h3, _⟩ := zAF ht
     cases hx with
     | head => exact h3
     | tail _ hx => exact ih h2 x hx
   exact fun x hx => hS _ (this tch htch x hx)
  have hl' : Lof (z3 l (zV a')) S tch L = zDd (z3 l (zV a')) tch L := zEH tch L htl
  refine cont a' w' m' (by rw [← hl']; exact h.ctx.st) h.ctx.le ⟨h.defers.trans hfr.defers, h.size.trans hfr.size, fun t v hf hl => ?_, fun t g κ hf hg => ?_⟩
  ·rw [hfin] at hf
   rw [h.same t fun j o ho hdst => ?_]
   ·exact hfr.at_ t v hl
   ·have hj := (List.getElem?_eq_some_iff.1 ho).1
    obtain ⟨κ, hk, _⟩ := hob' j o ho
    exact absurd hdst (ZQ _ hf j o hj ho (by rw [hk]; rfl))
  ·rw [hfin] at hf
   obtain ⟨j, o, hj, ho, hk, hdst, rfl⟩ := ZP _ hf
   exact (h.fact j o t κ ho hk (hS j hj) hdst).1 hg
theorem zEZ {Q : Exit → Act → World → Prop} {n : FrN} {a : Act} {w : World} {m : Mem} {fin : List Ent} {W : World} {mE : Mem} {G0 : List Nat} {L : List Res} {tch : Tch}
  (hst : St G0 W mE L w m) (hfr : Fr n T a)
  (hchk : chk l = true) (htch : zAy l tch = true) (hd : zEz n l = true)
  (hob : zBJ P l G0 W mE m L tch T 0 [] l fin)
  (cont : ∀ (a' : Act) (w' : World) (m' : Mem), St G0 W mE (zDd (z3 l (zV a')) tch L) w' m' → MLe m m' → FinK n fin T a' m' → Q .normal a' w') :
  wpOpsIn (z4 rd) 0 P l.toArray Q (List.range l.toArray.size) a w := by
 obtain ⟨κs, hlen, _, hfin, hall⟩ := obls_at hob [] rfl (fun j => by simp) rfl
 simp only [Nat.zero_add] at hlen hfin hall
 have hob' : ∀ (j : Nat) (o : Oper), l[j]? = some o → ∃ κ, κs[j]? = some κ ∧ zFM P l G0 W mE m L tch T j (ZE l κs j) o κ :=
  fun j o ho => hall j o (by omega) ho (List.getElem?_eq_some_iff.1 ho).1
 have hlof : Lof (z3 l (zV a)) (fun _ => false) tch L = L := zDA tch L fun _ _ => rfl
 have hinv : ∀ w1 : World, St G0 W mE L w1 m → Inv l κs G0 W mE m L tch a (fun _ => false) a w1 m := fun w1 hst1 =>
  ⟨⟨by rw [hlof]; exact hst1, MLe.refl _⟩, rfl, rfl, (fun _ _ => rfl), fun _ _ _ _ _ _ h => (Bool.noConfusion h), fun _ _ _ _ _ _ h => (Bool.noConfusion h), fun _ _ _ h => (Bool.noConfusion h)⟩
 have hst' : St G0 W mE L { w with drawn := w.drawn + 1 } m := hst.keep ⟨rfl, rfl, rfl, Nat.le_refl _, fun _ _ _ => rfl, ⟨hst.agree.cell, hst.agree.map⟩, MLe.refl _, fun _ _ _ => ⟨rfl, rfl⟩⟩
 refine zDx hchk htch (fun j o d ho hdst => ?_) hob' hfr.at_ (hinv w hst) fun a' w' m' S hS h => ?_
 ·rw [hfr.size]
  unfold zEz at hd
  rw [List.all_eq_true] at hd
  have := hd o (List.mem_of_getElem? ho)
  rw [hdst] at this
  simpa using this
 ·have htl : ∀ x ∈ tch, S x.1 = true := by
   have : ∀ tc : Tch, zAy l tc = true → ∀ x ∈ tc, x.1 < l.length := by
    intro tc
    induction tc with
    | nil => intro _ x hx; cases hx
    | cons y tc ih =>
     obtain ⟨s, k, r⟩ := y
     intro ht x hx
     obtain ⟨_, h2, h3, _⟩ := zAF ht
     cases hx with
     | head => exact h3
     | tail _ hx => exact ih h2 x hx
   exact fun x hx => hS _ (this tch htch x hx)
  have hl' : Lof (z3 l (zV a')) S tch L = zDd (z3 l (zV a')) tch L := zEH tch L htl
  refine cont a' w' m' (by rw [← hl']; exact h.ctx.st) h.ctx.le ⟨h.defers.trans hfr.defers, h.size.trans hfr.size, fun t v hf hl => ?_, fun t g κ hf hg => ?_⟩
  ·rw [hfin] at hf
   rw [h.same t fun j o ho hdst => ?_]
   ·exact hfr.at_ t v hl
   ·have hj := (List.getElem?_eq_some_iff.1 ho).1
    obtain ⟨κ, hk, _⟩ := hob' j o ho
    exact absurd hdst (ZQ _ hf j o hj ho (by rw [hk]; rfl))
  ·rw [hfin] at hf
   obtain ⟨j, o, hj, ho, hk, hdst, rfl⟩ := ZP _ hf
   exact (h.fact j o t κ ho hk (hS j hj) hdst).1 hg
def zBG (l : List Oper) : List Oper := l.zipIdx.map fun x => { x.1 with after := ((List.range x.2).map fun j => ⟨j, .data⟩).toArray }
theorem seqd_get (l : List Oper) (i : Nat) : (zBG l)[i]? = (l[i]?).map fun o => { o with after := ((List.range i).map fun j => ⟨j, .data⟩).toArray } := by
 unfold zBG
 rw [List.getElem?_map, List.getElem?_zipIdx]
 cases l[i]? <;> simp
theorem wpOp_seqd (l : List Oper) (Q : Exit → Act → World → Prop) (i : Nat) (K : Act → World → Prop) (a : Act) (w : World) : wpOpIn (z4 rd) 0 P (zBG l).toArray Q i K a w ↔ wpOpIn (z4 rd) 0 P l.toArray Q i K a w := by
 have hy : ∀ tmps, yielded (zBG l).toArray tmps = yielded l.toArray tmps := fun tmps => by
  funext j
  unfold yielded
  simp only [List.getElem?_toArray, seqd_get]
  cases l[j]? <;> rfl
 unfold wpOpIn
 simp only [List.getElem?_toArray, seqd_get, hy]
 cases l[i]? with
 | none => exact Iff.rfl
 | some o => obtain ⟨d0, op, ty, ps, af, gd⟩ := o; exact Iff.rfl
theorem zCr (l : List Oper) (Q : Exit → Act → World → Prop) : ∀ (ks : List Nat) (a : Act) (w : World), wpOpsIn (z4 rd) 0 P (zBG l).toArray Q ks a w → wpOpsIn (z4 rd) 0 P l.toArray Q ks a w
 | [], _, _, h => h
 | k :: ks, a, w, h => by
  rw [wpOpsIn_cons] at h ⊢
  exact wpOpIn_mono (fun a' w' h' => zCr l Q ks a' w' h') ((wpOp_seqd l Q k _ a w).1 h)
theorem region_seq {Q : Exit → Act → World → Prop} {n : FrN} {id : Nat} {a : Act} {w : World} {m : Mem} {fin : List Ent} {W : World} {mE : Mem} {G0 : List Nat} {L : List Res} {tch : Tch} {l : List Oper}
  (hst : St G0 W mE L w m) (hfr : Fr n T a)
  (hchk : chk (zBG l) = true) (htch : zAy (zBG l) tch = true) (hd : zEz n (zBG l) = true)
  (hob : zBJ P (zBG l) G0 W mE m L tch T 0 [] (zBG l) fin)
  (cont : ∀ (a' : Act) (w' : World) (m' : Mem), St G0 W mE (zDd (z3 (zBG l) (zV a')) tch L) w' m' → MLe m m' → FinK n fin T a' m' → Q .normal a' w') :
  (Code.region id l.toArray false).wpIn (z4 rd) 0 P Q a w := by
 have h := zEZ (rd := rd) hst hfr hchk htch hd hob cont
 have hs : (zBG l).toArray.size = l.toArray.size := by simp [zBG]
 rw [hs] at h
 exact wpIn_region (zCr l Q _ a w h)
inductive zEA (fin : List Ent) (T : List (Nat × Value)) : List (Nat × Value) → Prop where
 | nil : zEA fin T []
 | new {t : Nat} {v : Value} {T' : List (Nat × Value)} (h : find fin t = some (none, .val (.eq v))) (hs : zEA fin T T') : zEA fin T ((t, v) :: T')
 | old {t : Nat} {v : Value} {T' : List (Nat × Value)} (h : find fin t = none) (h' : look T t = some v) (hs : zEA fin T T') : zEA fin T ((t, v) :: T')
theorem zEA.o {fin : List Ent} {T T' : List (Nat × Value)} (t : Nat) {v : Value} (hs : zEA fin T T') (h : find fin t = none := by exact rfl) (h' : look T t = some v := by exact rfl) : zEA fin T ((t, v) :: T') := .old h h' hs
theorem zEA.n {fin : List Ent} {T T' : List (Nat × Value)} (t : Nat) {v : Value} (hs : zEA fin T T') (h : find fin t = some (none, .val (.eq v)) := by exact rfl) : zEA fin T ((t, v) :: T') := .new h hs
theorem Fr.cons {n : FrN} {t : Nat} {v : Value} {a : Act} (h : Fr n T a) (hv : zV a t = v) : Fr n ((t, v) :: T) a := by
 refine ⟨h.defers, h.size, fun t' v' e => ?_⟩
 simp only [look] at e
 cases hb : Nat.beq t t' with
 | true => rw [hb] at e; simp only [cond_true, Option.some.injEq] at e; rw [Nat.beq_eq] at hb; subst hb; exact hv.trans e
 | false => rw [hb] at e; exact h.at_ t' v' e
theorem FinK.fr {n : FrN} {fin : List Ent} {T' : List (Nat × Value)} {a : Act} {m : Mem} (h : FinK n fin T a m) (hk : zEA fin T T') : Fr n T' a := by
 induction hk with
 | nil => exact ⟨h.defers, h.size, fun t v e => by cases e⟩
 | new h1 _ ih => exact ih.cons (h.ent _ _ _ h1 (fun _ e => by cases e))
 | old h1 h2 _ ih => exact ih.cons (h.old _ _ h1 h2)
theorem FinK.same {n : FrN} {fin : List Ent} {a : Act} {m : Mem} (h : FinK n fin T a m) (t : Nat) {u : Nat} {v : Value} (hf : find fin t = some (none, .same u id)) (hv : zV a u = v) : zV a t = v :=
 (h.ent t _ _ hf (fun _ e => by cases e)).trans hv
theorem FinK.made {n : FrN} {fin : List Ent} {a : Act} {m : Mem} (h : FinK n fin T a m) (t : Nat) {u : Nat} {f : Value → Value} {v : Value} (hf : find fin t = some (none, .same u f)) (hv : zV a u = v) : zV a t = f v :=
 (h.ent t _ _ hf (fun _ e => by cases e)).trans (congrArg f hv)
theorem FinK.ex {n : FrN} {fin : List Ent} {a : Act} {m : Mem} (h : FinK n fin T a m) (t : Nat) {φ : MP} (hf : find fin t = some (none, .val (.ex φ))) : φ.p m (zV a t) :=
 h.ent t _ _ hf (fun _ e => by cases e)
end proof
end Go.Proofs.Ytnppknioifgdfaa
namespace Go.Proofs.Ytnppknioifgdfaa
set_option linter.all false
open Go.RowKit
class KC (K : World → Mem → Prop) (m0 : outParam Mem) (L : outParam (List Res)) : Prop where
 agree : ∀ {w : World} {m : Mem}, K w m → Agree w m
 le : ∀ {w : World} {m : Mem}, K w m → MLe m0 m
 at_ : ∀ {w : World} {m : Mem} {k : Nat} {r : Res}, K w m → L[k]? = some r → r.holds w m
instance {G0 : List Nat} {W : World} {mE m0 : Mem} {L : List Res} : KC (Ctx G0 W mE m0 L) m0 L := ⟨fun h => h.agree, fun h => h.le, fun h e => h.st.loc.at_ e⟩
def KAnd (K : World → Mem → Prop) (p : Mem → Prop) : World → Mem → Prop := fun w m => K w m ∧ p m
instance {K : World → Mem → Prop} {p : Mem → Prop} {m0 : Mem} {L : List Res} [h : KC K m0 L] : KC (KAnd K p) m0 L := ⟨fun x => h.agree x.1, fun x => h.le x.1, fun x e => h.at_ x.1 e⟩
def CellsAt (m : Mem) (p : Addr) (vs : List Value) : Prop := p.spot = none ∧ ∀ i v, vs[i]? = some v → m p.block (p.off + i) = some v
theorem CellsAt.mono {m m' : Mem} {p : Addr} {vs : List Value} (h : CellsAt m p vs) (hm : MLe m m') : CellsAt m' p vs := ⟨h.1, fun i v e => hm.cell _ _ _ (h.2 i v e)⟩
theorem zCV (p : Addr) (k : Nat) : (p.add k).block = p.block := by unfold Addr.add; split <;> rfl
theorem zEC (p : Addr) (k : Nat) : (p.add k).off = p.off + k := by unfold Addr.add; split <;> simp_all
theorem add_spot {p : Addr} (h : p.spot = none) (k : Nat) : (p.add k).spot = none := by unfold Addr.add; split <;> simp_all
theorem zAs (p : Addr) (i j : Nat) : (p.add i).add j = p.add (i + j) := by
 unfold Addr.add
 by_cases hi : i = 0 <;> by_cases hj : j = 0 <;> simp [hi, hj, Nat.add_assoc]
theorem ZM {w : World} {m : Mem} (ha : Agree w m) {p : Addr} {vs : List Value} (h : CellsAt m p vs) {k : Nat} {v : Value} (hv : vs[k]? = some v) : w.cell? (p.add k) = some v := by
 have h1 := ha.cell _ _ _ (h.2 k v hv)
 have e : p.add k = ⟨p.block, p.off + k, none⟩ := by
  have h1 := zCV p k; have h2 := zEC p k; have h3 := add_spot h.1 k
  cases hq : p.add k; simp_all
 rw [e]; exact h1
theorem CellsAt.drop {m : Mem} {p : Addr} {vs : List Value} (h : CellsAt m p vs) (k : Nat) : CellsAt m (p.add k) (vs.drop k) :=
 ⟨add_spot h.1 k, fun i v e => by rw [zCV, zEC, Nat.add_assoc]; exact h.2 (k + i) v (by rw [List.getElem?_drop] at e; exact e)⟩
theorem CellsAt.take {m : Mem} {p : Addr} {vs : List Value} (h : CellsAt m p vs) (k : Nat) : CellsAt m p (vs.take k) :=
 ⟨h.1, fun i v e => h.2 i v (by rw [List.getElem?_take] at e; split at e; exact e; cases e)⟩
theorem zAE {w : World} {m : Mem} (cs : List Value) : CellsAt (m.add w.heap.size cs.toArray) ⟨w.heap.size, 0, none⟩ cs :=
 ⟨rfl, fun i v e => by simp [Mem.add, e]⟩
theorem zBE {P : Program} {w : World} {a : Addr} : ∀ (n i : Nat) (acc : Array Value) (vs : List Value), vs.length = n → (∀ j v, vs[j]? = some v → w.cell? (a.add (i + j)) = some v) →
  (loadCellsFrom a i n acc).run P w = .ok (acc ++ vs.toArray) w
 | 0, i, acc, vs, h, _ => by have := List.eq_nil_of_length_eq_zero h; subst this; simp [loadCellsFrom]
 | n + 1, i, acc, vs, h, hc => by
  match vs, h with
  | v :: vs, h =>
   have h0 := hc 0 v rfl
   simp only [Nat.add_zero] at h0
   have hs : (loadCellsFrom a i (n + 1) acc).run P w = (loadCellsFrom a (i + 1) n (acc.push v)).run P w := by simp [loadCellsFrom, h0]
   rw [hs, zBE n (i + 1) (acc.push v) vs (by simpa using h) (fun j u e => by rw [Nat.add_assoc, Nat.add_comm 1 j]; exact hc (j + 1) u e)]
   simp
theorem Z4 {P : Program} {w : World} {a : Addr} {vs : List Value} (hc : ∀ j v, vs[j]? = some v → w.cell? (a.add j) = some v) : (loadCells a vs.length).run P w = .ok vs.toArray w := by
 unfold loadCells
 rw [zBE vs.length 0 #[] vs rfl (fun j v e => by simpa using hc j v e)]
 simp
section
variable {P : Program} {K : World → Mem → Prop} {m0 : Mem} {L : List Res} {us : List Nat} {ch : List (Nat × Bool)} {pre : List Ent} {T : List (Nat × Value)}
variable {dst : Option Nat} {ty : TypeId} {pos : String} {af : Array Edge} {gd : Option (Nat × Bool)}
theorem ZZ [hK : KC K m0 L] {o : Oper} {v : Value} (h : ∀ σ w m, K w m → Know σ m us ch pre T → (execOp (zy σ) o).run P w = .ok (.value v) w) : Ob P K us ch pre T o (.eq v) := fun σ w m hk hn => by
 unfold Does
 rw [h σ w m hk hn]
 exact ⟨m, ExtG.refl _ (hK.agree hk), rfl⟩
theorem zF {o : Oper} {κ : Kn} {c b : Bool} (s : Nat) (hg : gok ch (some (s, b)) = true) (hs : evT us ch pre T s = some (.bool c)) (h : c = b → Ob P K us ch pre T o κ) : Ob P K us ch pre T o κ := fun σ w m hk hn => by
 have h1 := hn.gds _ (gok_mem hg)
 have h2 := hn.evT hs
 unfold zAO at h1
 simp only at h1
 rw [h2] at h1
 injection h1 with h1
 exact h h1 σ w m hk hn
theorem zC [KC K m0 L] {x : Operand} {v : Value} (hx : ev us ch pre T x = some v) : Ob P K us ch pre T ⟨dst, .move x, ty, pos, af, gd⟩ (.eq v) :=
 ZZ fun σ w m _ hn => by simp only [execOp, hn.ev hx]; rfl
theorem zD [KC K m0 L] {x : Operand} {v : Value} (hx : ev us ch pre T x = some v) : Ob P K us ch pre T ⟨dst, .assign x, ty, pos, af, gd⟩ (.eq v) :=
 ZZ fun σ w m _ hn => by simp only [execOp, hn.ev hx]; rfl
theorem ob_fieldAddr [KC K m0 L] {s : TypeId} {x : Operand} {i : Nat} {p : Addr} {fs : Array Field} {f : Field} {sz : Nat} (hx : ev us ch pre T x = some (.pointer (some p)))
  (hs : P.underlying s = some (.struct fs)) (hf : fs[i]? = some f) (hz : ∀ w, (sizeOf f.type).run P w = .ok sz w) (h0 : Nat.beq sz 0 = false) :
  Ob P K us ch pre T ⟨dst, .fieldAddr s x i, ty, pos, af, gd⟩ (.eq (.pointer (some (p.add f.offset)))) :=
 ZZ fun σ w m _ hn => by
  have h0' : sz ≠ 0 := fun e => by subst e; cases h0
  simp [execOp, hn.ev hx, Instr.fieldAt, Instr.sureAddr, fieldPlace, run_underlying hs, hf, hz, h0']
theorem zA [KC K m0 L] {s : TypeId} {x : Operand} {i : Nat} {p : Addr} {fs : Array Field} {f : Field} {sz : Nat} {off : Nat} (hx : ev us ch pre T x = some (.pointer (some p)))
  (hs : P.underlying s = some (.struct fs)) (hf : fs[i]? = some f) (ho : f.offset = off) (hz : ∀ w, (sizeOf f.type).run P w = .ok sz w) (h0 : Nat.beq sz 0 = false) :
  Ob P K us ch pre T ⟨dst, .fieldAddr s x i, ty, pos, af, gd⟩ (.eq (.pointer (some (p.add off)))) := by
 subst ho; exact ob_fieldAddr hx hs hf hz h0
theorem zL [KC K m0 L] {x : Operand} {p : Addr} (hx : ev us ch pre T x = some (.pointer (some p))) : Ob P K us ch pre T ⟨dst, .nilCheck x, ty, pos, af, gd⟩ (.eq (.pointer (some p))) :=
 ZZ fun σ w m _ hn => by simp only [execOp, hn.ev hx]; rfl
theorem zJ [hK : KC K m0 L] {t : TypeId} {x : Operand} {p : Addr} {k : Nat} {vs : List Value} {v : Value} (hx : ev us ch pre T x = some (.pointer (some (p.add k)))) (hc : CellsAt m0 p vs)
  (ha : ∀ w, (isAgg t).run P w = .ok false w) (hv : vs[k]? = some v) : Ob P K us ch pre T ⟨dst, .load t x, ty, pos, af, gd⟩ (.eq v) :=
 ZZ fun σ w m hk hn => by
  have hcell := ZM (hK.agree hk) (hc.mono (hK.le hk)) hv
  simp [execOp, hn.ev hx, Instr.loadAt, Instr.sureAddr, loadVar, ha, run_load, hcell]
theorem addr_add0 (p : Addr) : p.add 0 = p := rfl
theorem zk [hK : KC K m0 L] {t : TypeId} {x : Operand} {p : Addr} {vs : List Value} {v : Value} (hx : ev us ch pre T x = some (.pointer (some p))) (hc : CellsAt m0 p vs)
  (ha : ∀ w, (isAgg t).run P w = .ok false w) (hv : vs[0]? = some v) : Ob P K us ch pre T ⟨dst, .load t x, ty, pos, af, gd⟩ (.eq v) := zJ (k := 0) hx hc ha hv
theorem Zk [hK : KC K m0 L] {t : TypeId} {x : Operand} {p : Addr} {k n : Nat} {vs us' : List Value} (hx : ev us ch pre T x = some (.pointer (some (p.add k)))) (hc : CellsAt m0 p vs)
  (ha : ∀ w, (isAgg t).run P w = .ok true w) (hz : ∀ w, (sizeOf t).run P w = .ok n w) (hv : (vs.drop k).take n = us') (hn' : us'.length = n) : Ob P K us ch pre T ⟨dst, .load t x, ty, pos, af, gd⟩ (.eq (.agg us'.toArray)) :=
 ZZ fun σ w m hk hn => by
  have hl := Z4 (P := P) (w := w) (a := p.add k) (vs := us') fun j v e => by
   have hc' := ((hc.mono (hK.le hk)).drop k).take n
   rw [hv] at hc'
   exact ZM (hK.agree hk) hc' e
  rw [hn'] at hl
  simp [execOp, hn.ev hx, Instr.loadAt, Instr.sureAddr, loadVar, ha, hz, hl]
theorem zY [hK : KC K m0 L] {t : TypeId} {x : Operand} {p : Addr} {n : Nat} {vs us' : List Value} (hx : ev us ch pre T x = some (.pointer (some p))) (hc : CellsAt m0 p vs)
  (ha : ∀ w, (isAgg t).run P w = .ok true w) (hz : ∀ w, (sizeOf t).run P w = .ok n w) (hv : vs.take n = us') (hn' : us'.length = n) : Ob P K us ch pre T ⟨dst, .load t x, ty, pos, af, gd⟩ (.eq (.agg us'.toArray)) :=
 Zk (k := 0) hx hc ha hz hv hn'
theorem zf {w : World} {m : Mem} {g : Nat} {o : Obj} (h : (Res.blk (.pointer (some ⟨g, 0, none⟩)) o).holds w m) : w.heap[g]? = some o := by
 obtain ⟨g', e, hh, _⟩ := h
 injection e with e; injection e with e; injection e with e; subst e; exact hh
theorem zCM {w : World} {g : Nat} {cs : List Value} {e : TypeId} {fz : Nat × Nat} (h : w.heap[g]? = some (.cells cs.toArray e fz)) {k : Nat} {v : Value} (hv : cs[k]? = some v) : w.cell? ((⟨g, 0, none⟩ : Addr).add k) = some v := by
 have e1 : (⟨g, 0, none⟩ : Addr).add k = ⟨g, k, none⟩ := by unfold Addr.add; split <;> simp_all
 rw [e1]; unfold World.cell?; simp only [h]; simpa using hv
theorem zK [hK : KC K m0 L] {t e : TypeId} {x : Operand} {k j g : Nat} {cs : List Value} {fz : Nat × Nat} {v : Value} (hx : ev us ch pre T x = some (.pointer (some ((⟨g, 0, none⟩ : Addr).add k))))
  (hL : L[j]? = some (.blk (.pointer (some ⟨g, 0, none⟩)) (.cells cs.toArray e fz))) (ha : ∀ w, (isAgg t).run P w = .ok false w) (hv : cs[k]? = some v) : Ob P K us ch pre T ⟨dst, .load t x, ty, pos, af, gd⟩ (.eq v) :=
 ZZ fun σ w m hk hn => by
  have hcell := zCM (zf (hK.at_ hk hL)) hv
  simp [execOp, hn.ev hx, Instr.loadAt, Instr.sureAddr, loadVar, ha, run_load, hcell]
theorem ZJ [hK : KC K m0 L] {t e : TypeId} {x : Operand} {j g : Nat} {cs : List Value} {fz : Nat × Nat} {v : Value} (hx : ev us ch pre T x = some (.pointer (some ⟨g, 0, none⟩)))
  (hL : L[j]? = some (.blk (.pointer (some ⟨g, 0, none⟩)) (.cells cs.toArray e fz))) (ha : ∀ w, (isAgg t).run P w = .ok false w) (hv : cs[0]? = some v) : Ob P K us ch pre T ⟨dst, .load t x, ty, pos, af, gd⟩ (.eq v) := zK (k := 0) hx hL ha hv
theorem zz [hK : KC K m0 L] {t e : TypeId} {x : Operand} {k n j g : Nat} {cs us' : List Value} {fz : Nat × Nat} (hx : ev us ch pre T x = some (.pointer (some ((⟨g, 0, none⟩ : Addr).add k))))
  (hL : L[j]? = some (.blk (.pointer (some ⟨g, 0, none⟩)) (.cells cs.toArray e fz))) (ha : ∀ w, (isAgg t).run P w = .ok true w) (hz : ∀ w, (sizeOf t).run P w = .ok n w) (hv : (cs.drop k).take n = us') (hn' : us'.length = n) :
  Ob P K us ch pre T ⟨dst, .load t x, ty, pos, af, gd⟩ (.eq (.agg us'.toArray)) :=
 ZZ fun σ w m hk hn => by
  have hl := Z4 (P := P) (w := w) (a := (⟨g, 0, none⟩ : Addr).add k) (vs := us') fun i v e => by
   rw [zAs]
   refine zCM (zf (hK.at_ hk hL)) ?_
   rw [← hv, List.getElem?_take, List.getElem?_drop] at e
   split at e
   ·exact e
   ·cases e
  rw [hn'] at hl
  simp [execOp, hn.ev hx, Instr.loadAt, Instr.sureAddr, loadVar, ha, hz, hl]
theorem ob_loadLS' [hK : KC K m0 L] {t e : TypeId} {x : Operand} {n j g : Nat} {cs us' : List Value} {fz : Nat × Nat} (hx : ev us ch pre T x = some (.pointer (some ⟨g, 0, none⟩)))
  (hL : L[j]? = some (.blk (.pointer (some ⟨g, 0, none⟩)) (.cells cs.toArray e fz))) (ha : ∀ w, (isAgg t).run P w = .ok true w) (hz : ∀ w, (sizeOf t).run P w = .ok n w) (hv : cs.take n = us') (hn' : us'.length = n) :
  Ob P K us ch pre T ⟨dst, .load t x, ty, pos, af, gd⟩ (.eq (.agg us'.toArray)) := zz (k := 0) hx hL ha hz hv hn'
def MP.any : MP := ⟨Value, fun v => v, fun _ _ => True, fun _ h => h⟩
theorem newRow_run (w : World) (t : TypeId) (cs : Array Value) : (newRow t cs).run P w = .ok ⟨w.heap.size, 0, none⟩ (w.alloc (.cells cs t)) := rfl
def MP.box (cs : List Value) : MP := MP.mem (fun g => .pointer (some ⟨g, 0, none⟩)) (fun g m => CellsAt m ⟨g, 0, none⟩ cs) fun hm h => h.mono hm
theorem zr [hK : KC K m0 L] {e : TypeId} {x : Operand} {v : Value} {cs : List Value} (hx : ev us ch pre T x = some v) (hv : v.cells = cs.toArray) : Ob P K us ch pre T ⟨dst, .box e x, ty, pos, af, gd⟩ (.ex (MP.box cs)) := fun σ w m hk hn => by
 have hr : (execOp (zy σ) ⟨dst, .box e x, ty, pos, af, gd⟩).run P w = .ok (.value (.pointer (some ⟨w.heap.size, 0, none⟩))) (w.alloc (.cells cs.toArray e)) := by
  simp only [execOp, hn.ev hx, Instr.box, newVar, hv]; rfl
 unfold Does; rw [hr]
 exact ⟨_, ext_add (hK.agree hk) cs.toArray e, _, rfl, zAE cs⟩
def MP.ptr : MP := MP.mem (fun g => .pointer (some ⟨g, 0, none⟩)) (fun _ _ => True) fun _ h => h
theorem touch_new {w : World} {m : Mem} (ha : Agree w m) (cs : List Value) (e : TypeId) : ZR .free (.blk (.pointer (some ⟨w.heap.size, 0, none⟩)) (.cells cs.toArray e)) w m (w.alloc (.cells cs.toArray e)) m :=
 ⟨(zBV ha _).mono (by simp), ⟨w.heap.size, rfl, heap_alloc_new w _, fun o => zBZ ha (Nat.le_refl _) o⟩, by simp [Res.blocks, zn], by simp [Res.blocks, zn]⟩
theorem zEB [hK : KC K m0 L] {d : Nat} {e : TypeId} {x : Operand} {v : Value} {cs : List Value} (hx : ev us ch pre T x = some v) (hv : v.cells = cs.toArray) :
  ObT P K us ch pre T (fun _ => .free) (fun v => .blk v (.cells cs.toArray e)) ⟨some d, .box e x, ty, pos, af, gd⟩ (.ex MP.ptr) := fun σ w m hk _ hn => by
 have hr : (execOp (zy σ) ⟨some d, .box e x, ty, pos, af, gd⟩).run P w = .ok (.value (.pointer (some ⟨w.heap.size, 0, none⟩))) (w.alloc (.cells cs.toArray e)) := by
  simp only [execOp, hn.ev hx, Instr.box, newVar, hv]; rfl
 unfold Does; rw [hr]
 exact ⟨m, touch_new (hK.agree hk) cs e, _, rfl, trivial⟩
theorem zP [hK : KC K m0 L] {d : Nat} {e : TypeId} {z : Value} {cs : List Value} (hz : ∀ w, (zeroValue e).run P w = .ok z w) (hv : z.cells = cs.toArray) :
  ObT P K us ch pre T (fun _ => .free) (fun v => .blk v (.cells cs.toArray e)) ⟨some d, .alloc e, ty, pos, af, gd⟩ (.ex MP.ptr) := fun σ w m hk _ hn => by
 have hr : (execOp (zy σ) ⟨some d, .alloc e, ty, pos, af, gd⟩).run P w = .ok (.value (.pointer (some ⟨w.heap.size, 0, none⟩))) (w.alloc (.cells cs.toArray e)) := by
  simp [execOp, Instr.alloc, hz, newVar, hv, newRow_run]
 unfold Does; rw [hr]
 exact ⟨m, touch_new (hK.agree hk) cs e, _, rfl, trivial⟩
theorem zAn {P : Program} {g : Nat} {e : TypeId} : ∀ (vs : List Value) (w : World) (cs : List Value) (k i : Nat), w.heap[g]? = some (.cells cs.toArray e (0, 0)) → k + i + vs.length ≤ cs.length → (∀ v ∈ vs, v.oneCell' = true) →
  ∃ w', (storeCells ((⟨g, 0, none⟩ : Addr).add k) vs i).run P w = .ok () w' ∧ w'.heap[g]? = some (.cells (cs.take (k + i) ++ vs ++ cs.drop (k + i + vs.length)).toArray e (0, 0)) ∧
   w'.os = w.os ∧ w'.tape = w.tape ∧ w'.output = w.output ∧ w'.heap.size = w.heap.size ∧ ∀ b, b ≠ g → w'.heap[b]? = w.heap[b]?
 | [], w, cs, k, i, h, _, _ => ⟨w, by simp [storeCells], by simpa using h, rfl, rfl, rfl, rfl, fun _ _ => rfl⟩
 | v :: vs, w, cs, k, i, h, hl, h1 => by
  have e1 : ((⟨g, 0, none⟩ : Addr).add k).add i = ⟨g, k + i, none⟩ := by
   rw [zAs]; unfold Addr.add; split <;> simp_all
  simp only [List.length_cons] at hl
  have hlt : k + i < cs.length := by omega
  have hcell : w.cell? ⟨g, k + i, none⟩ = some cs[k + i] := by unfold World.cell?; simp [h, hlt]
  have hfz : w.frozen? ⟨g, k + i, none⟩ = false := by unfold World.frozen?; simp [h]
  have hset : (w.setCell ⟨g, k + i, none⟩ v).heap[g]? = some (.cells (cs.set (k + i) v).toArray e (0, 0)) := by
   simp [World.setCell, Array.getElem?_modify, h]
  obtain ⟨w', r1, r2, r3, r4, r5, r6, r7⟩ := zAn (P := P) vs (w.setCell ⟨g, k + i, none⟩ v) (cs.set (k + i) v) k (i + 1) hset (by simp; omega) (fun u hu => h1 u (.tail _ hu))
  refine ⟨w', ?_, ?_, r3, r4, r5, by rw [r6]; simp [World.setCell], fun b hb => by rw [r7 b hb]; exact Below.heap_setCell _ _ _ _ hb⟩
  ·simp only [storeCells]
   rw [Sem.run_bind, e1, run_store P w _ v .plain (h1 v (.head _))]
   simp only [hcell, hfz]
   exact r1
  ·rw [r2]
   congr 3
   rw [List.take_set, List.drop_set]
   have e2 : k + (i + 1) = k + i + 1 := by omega
   rw [e2, List.take_succ_eq_append_getElem hlt]
   have e3 : k + i + 1 + vs.length = k + i + (vs.length + 1) := by omega
   rw [e3, if_pos (by omega)]
   rw [List.set_append_right _ _ (by simp; omega)]
   simp [Nat.min_eq_left (Nat.le_of_lt hlt)]
theorem z1 [hK : KC K m0 L] {t e : TypeId} {x y : Operand} {k g : Nat} {cs vs : List Value} {v : Value} {n : Nat} (hx : ev us ch pre T x = some (.pointer (some ((⟨g, 0, none⟩ : Addr).add k)))) (hy : ev us ch pre T y = some v)
  (hv : v.cells = vs.toArray) (hz : ∀ w, (sizeOf t).run P w = .ok n w) (hn : Nat.beq vs.length n = true) (hl : Nat.ble (k + n) cs.length = true) (h1 : vs.all (·.oneCell') = true) :
  ObT P K us ch pre T (fun _ => .blk (.pointer (some ⟨g, 0, none⟩)) (.cells cs.toArray e)) (fun _ => .blk (.pointer (some ⟨g, 0, none⟩)) (.cells (cs.take k ++ vs ++ cs.drop (k + vs.length)).toArray e)) ⟨none, .store t x y, ty, pos, af, gd⟩ (.ex MP.any) := fun σ w m hk hr hkn => by
 obtain ⟨g', e1, hh, hm⟩ := hr
 injection e1 with e1; injection e1 with e1; injection e1 with e1; subst e1
 rw [Nat.beq_eq] at hn
 have hl' := Nat.le_of_ble_eq_true hl
 obtain ⟨w', r1, r2, r3, r4, r5, r6, r7⟩ := zAn (P := P) vs w cs k 0 hh (by omega) (fun u hu => List.all_eq_true.1 h1 u hu)
 have hrun : (execOp (zy σ) ⟨none, .store t x y, ty, pos, af, gd⟩).run P w = .ok .skip w' := by
  simp only [execOp, hkn.ev hx, hkn.ev hy]
  rw [Sem.run_bind]
  have : (Instr.storeAt t (.pointer (some ((⟨g, 0, none⟩ : Addr).add k))) v).run P w = .ok () w' := by
   simp [Instr.storeAt, Instr.sureAddr, storeVar, hz, hv, hn, r1]
  rw [this]; rfl
 unfold Does; rw [hrun]
 refine ⟨m, ⟨⟨r3, r4, r5, by omega, fun b _ hb => r7 b (fun e => hb (by subst e; simp [Res.blocks, zn])), ⟨fun b o u hu => ?_, fun b es e => ?_⟩, MLe.refl _, fun _ _ _ => ⟨rfl, rfl⟩⟩, ⟨g, rfl, by simpa using r2, hm⟩, by simp [Res.blocks, zn], by simp [Res.blocks, zn]⟩, _, rfl, trivial⟩
 ·have hb : b ≠ g := fun e => by subst e; rw [hm o] at hu; cases hu
  rw [World.cell?_of_block (r7 b hb)]
  exact (hK.agree hk).cell b o u hu
 ·have h1 := (hK.agree hk).map b es e
  have hb : b ≠ g := fun e => by subst e; rw [hh] at h1; cases h1
  exact (r7 b hb).trans h1
theorem ze [hK : KC K m0 L] {t e : TypeId} {x y : Operand} {g : Nat} {cs vs : List Value} {v : Value} {n : Nat} (hx : ev us ch pre T x = some (.pointer (some ⟨g, 0, none⟩))) (hy : ev us ch pre T y = some v)
  (hv : v.cells = vs.toArray) (hz : ∀ w, (sizeOf t).run P w = .ok n w) (hn : Nat.beq vs.length n = true) (hl : Nat.ble (0 + n) cs.length = true) (h1 : vs.all (·.oneCell') = true) :
  ObT P K us ch pre T (fun _ => .blk (.pointer (some ⟨g, 0, none⟩)) (.cells cs.toArray e)) (fun _ => .blk (.pointer (some ⟨g, 0, none⟩)) (.cells (cs.take 0 ++ vs ++ cs.drop (0 + vs.length)).toArray e)) ⟨none, .store t x y, ty, pos, af, gd⟩ (.ex MP.any) :=
 z1 (k := 0) hx hy hv hz hn hl h1
theorem za [hK : KC K m0 L] {t e : TypeId} {p : Nat} {y : Operand} {g : Nat} {cs vs : List Value} {v : Value} {n : Nat} (hst : zBP (.store t (.tmp p) y) = some p) (hf : (find pre p).isSome = true) (hx : evT us ch pre T p = some (.pointer (some ⟨g, 0, none⟩))) (hy : ev us ch pre T y = some v)
  (hv : v.cells = vs.toArray) (hz : ∀ w, (sizeOf t).run P w = .ok n w) (hn : Nat.beq vs.length n = true) (hl : Nat.ble (0 + n) cs.length = true) (h1 : vs.all (·.oneCell') = true) :
  ObT P K us ch pre T (fun σ => .blk (σ p) (.cells cs.toArray e)) (fun x => .blk x (.cells (cs.take 0 ++ vs ++ cs.drop (0 + vs.length)).toArray e)) ⟨none, .store t (.tmp p) y, ty, pos, af, gd⟩ (.ex MP.any) := fun σ w m hk hr hkn => by
 have e1 : σ p = _ := hkn.evT hx
 have h2 := ze (P := P) (K := K) (us := us) (ch := ch) (pre := pre) (T := T) (ty := ty) (pos := pos) (af := af) (gd := gd) (x := .tmp p) (e := e) hx hy hv hz hn hl h1 σ w m hk (by simp only [e1] at hr; exact hr) hkn
 have e2 : ∀ v, Z1 pre ⟨none, .store t (.tmp p) y, ty, pos, af, gd⟩ σ v = .pointer (some ⟨g, 0, none⟩) := fun v => by
  rw [← e1]
  obtain ⟨z, hz⟩ := Option.isSome_iff_exists.1 hf
  unfold Z1
  simp only [hst, hz]
 simp only [e2, e1]
 exact h2
theorem zAj [hK : KC K m0 L] {t e : TypeId} {p y : Nat} {k g : Nat} {cs : List Value} {v : Value} {n : Nat} (hst : zBP (.store t (.tmp p) (.tmp y)) = some y) (hf : (find pre y).isSome = true) (hx : evT us ch pre T p = some (.pointer (some ((⟨g, 0, none⟩ : Addr).add k)))) (hy : evT us ch pre T y = some v)
  (hv : v.cells = [v].toArray) (hz : ∀ w, (sizeOf t).run P w = .ok n w) (hn : Nat.beq [v].length n = true) (hl : Nat.ble (k + n) cs.length = true) (h1 : [v].all (·.oneCell') = true) :
  ObT P K us ch pre T (fun _ => .blk (.pointer (some ⟨g, 0, none⟩)) (.cells cs.toArray e)) (fun u => .blk (.pointer (some ⟨g, 0, none⟩)) (.cells (cs.take k ++ [u] ++ cs.drop (k + 1)).toArray e)) ⟨none, .store t (.tmp p) (.tmp y), ty, pos, af, gd⟩ (.ex MP.any) := fun σ w m hk hr hkn => by
 have e1 : σ y = _ := hkn.evT hy
 have h2 := z1 (P := P) (K := K) (us := us) (ch := ch) (pre := pre) (T := T) (ty := ty) (pos := pos) (af := af) (gd := gd) (x := .tmp p) (y := .tmp y) (e := e) (cs := cs) (vs := [v]) hx hy hv hz hn hl h1 σ w m hk hr hkn
 have e2 : ∀ v', Z1 pre ⟨none, .store t (.tmp p) (.tmp y), ty, pos, af, gd⟩ σ v' = v := fun v' => by
  rw [← e1]
  obtain ⟨z, hz⟩ := Option.isSome_iff_exists.1 hf
  unfold Z1
  simp only [hst, hz]
 simp only [e2]
 exact h2
def pv1 : Value → Value
 | .tuple a => a.getD 0 undef
 | v => v
def pv2 : Value → Value
 | .tuple a => a.getD 1 undef
 | v => v
theorem pair_eq {x y u v : Value} (h1 : x = u) (h2 : y = v) : Value.tuple #[x, y] = .tuple #[u, v] := by rw [h1, h2]
theorem ob_two {d' : Nat} {r : (Nat → Value) → Res} {R : Res} {o : Oper} {κ : Kn} (h : ObT P K us ch pre T r (fun _ => R) o κ) : ObT2 P K us ch pre T d' r (fun _ => R) o κ := fun σ w m hk hr hn => h σ w m hk hr hn
end
end Go.Proofs.Ytnppknioifgdfaa
namespace Go.Proofs.Ytnppknioifgdfaa
set_option linter.all false
open Go.RowKit
abbrev Str := List UInt8
@[reducible] def S (l : Str) : Value := .string ⟨l.toArray⟩
theorem S_toList (l : Str) : (⟨l.toArray⟩ : ByteArray).toList = l := by rw [ByteArray.toList_eq]
theorem S_size (l : Str) : (⟨l.toArray⟩ : ByteArray).size = l.length := by simp [ByteArray.size]
def zBz : Nat → List Value → List (Nat × Value)
 | _, [] => []
 | i, v :: r => (i, v) :: zBz (i + 1) r
theorem zBK : ∀ (vs : List Value) (i t : Nat) (v : Value), look (zBz i vs) t = some v → i ≤ t ∧ vs[t - i]? = some v
 | [], _, _, _, h => by cases h
 | u :: vs, i, t, v, h => by
  simp only [zBz, look] at h
  cases e : Nat.beq i t with
  | true => rw [e] at h; rw [Nat.beq_eq] at e; subst e; simp at h; simp [h]
  | false =>
   rw [e] at h
   obtain ⟨h1, h2⟩ := zBK vs (i + 1) t v h
   refine ⟨by omega, ?_⟩
   have : t - i = (t - (i + 1)) + 1 := by omega
   rw [this, List.getElem?_cons_succ]; exact h2
section
variable {P : Program} {rd : Option Nat}
theorem zW {G0 : List Nat} {w : World} {m : Mem} {L : List Res} (ha : Agree w m) (hL : Loc G0 w.heap.size L w m) : St G0 w m L w m := ⟨ExtG.refl _ ha, hL⟩
theorem zg (G0 : List Nat) (B0 : Nat) (w : World) (m : Mem) : Loc G0 B0 [] w m := ⟨by simp, List.nodup_nil, by simp⟩
abbrev Post (P : Program) (fn : Func) (G0 : List Nat) (w : World) (m : Mem) (φ : World → Mem → Value → Prop) : Exit → Act → World → Prop :=
 bodyPost P fn fun e w' => ∃ v m', e = .returned v ∧ ExtG G0 w m w' m' ∧ φ w' m' v
theorem zZ {f : FuncId} {fn : Func} {c : Code} {n : Nat} {vs : List Value} {G0 : List Nat} {w : World} {m : Mem} {φ : World → Mem → Value → Prop} (hf : P.funcs[f]? = some fn) (hb : fn.body = some c) (hn : fn.ntmps = n)
  (hlen : Nat.ble vs.length n = true) (h : ∀ a, Fr ⟨n, []⟩ (zBz 0 vs) a → c.wpIn (z4 none) 0 P (Post P fn G0 w m φ) a w) : FnG P f vs.toArray G0 w m φ := by
 have hl : vs.length ≤ n := Nat.le_of_ble_eq_true hlen
 refine (callsIn_wide (n := 0)).1 (callsIn_of_wp hf hb trivial (h _ ⟨rfl, by simp [hn]; omega, fun t v e => ?_⟩))
 obtain ⟨_, h2⟩ := zBK vs 0 t v e
 simp only [Nat.sub_zero] at h2
 have hlt : t < vs.length := (List.getElem?_eq_some_iff.1 h2).1
 simp only [zV, Array.getD_eq_getD_getElem?]
 rw [Array.getElem?_append_left (by simpa using hlt)]
 simp [h2]
inductive zCE (P : Program) (w : World) (T : List (Nat × Value)) : List ResultVar → List Value → Prop where
 | nil : zCE P w T [] []
 | tmp {t : Nat} {v : Value} {rs : List ResultVar} {vs : List Value} (h : look T t = some v) (hs : zCE P w T rs vs) : zCE P w T (.tmp t :: rs) (v :: vs)
 | cell {t : Nat} {ty : TypeId} {p : Addr} {v : Value} {rs : List ResultVar} {vs : List Value} (h : look T t = some (.pointer (some p))) (hv : (loadVar ty p).run P w = .ok v w) (hs : zCE P w T rs vs) : zCE P w T (.cell t ty :: rs) (v :: vs)
def ZS : List Value → Value
 | [v] => v
 | vs => .tuple vs.toArray
theorem mapM_res {T : List (Nat × Value)} {w : World} {F : ResultVar → Sem Value} (h1 : ∀ t v, look T t = some v → (F (.tmp t)).run P w = .ok v w)
  (h2 : ∀ t ty p v, look T t = some (.pointer (some p)) → (loadVar ty p).run P w = .ok v w → (F (.cell t ty)).run P w = .ok v w) {rs : List ResultVar} {vs : List Value} (h : zCE P w T rs vs) :
  (rs.mapM F).run P w = .ok vs w := by
 induction h with
 | nil => simp
 | tmp h _ ih => rw [List.mapM_cons, Sem.run_bind, h1 _ _ h]; simp [ih]
 | cell h hv _ ih => rw [List.mapM_cons, Sem.run_bind, h2 _ _ _ _ h hv]; simp [ih]
theorem bundle_eq (vs : List Value) : (if h : vs.toArray.size = 1 then vs.toArray[0] else Value.tuple vs.toArray) = ZS vs := by
 match vs with
 | [] => rfl
 | [v] => rfl
 | v :: u :: r => simp [ZS]
theorem zBB {fn : Func} {T : List (Nat × Value)} {n : FrN} {a : Act} {w : World} {rs : List ResultVar} {vs : List Value} (hr : fn.results = rs.toArray) (hfr : Fr n T a) (h : zCE P w T rs vs) :
  (results fn a.tmps).run P w = .ok (ZS vs) w := by
 unfold results
 rw [hr, Sem.run_bind, List.mapM_toArray]
 have key := fun (F : ResultVar → Sem Value) h1 h2 => mapM_res (P := P) (F := F) h1 h2 h
 rw [← bundle_eq vs]
 generalize hF : (fun x => _ : ResultVar → Sem Value) = F
 have k := key F (fun t v e => ?_) (fun t ty p v e hv => ?_)
 ·simp [k]
 ·have := hfr.at_ _ _ e
  simp only [zV] at this
  rw [← hF]; simp only [this]; rfl
 ·have := hfr.at_ _ _ e
  simp only [zV] at this
  rw [← hF]; simp only [this, asAddr]; simp [hv]
theorem zO {fn : Func} {G0 : List Nat} {W : World} {mE : Mem} {L : List Res} {φ : World → Mem → Value → Prop} {T : List (Nat × Value)} {n : Nat} {a : Act} {w : World} {m : Mem} {rs : List ResultVar} {vs : List Value}
  (hst : St G0 W mE L w m) (hfr : Fr ⟨n, []⟩ T a) (hr : fn.results = rs.toArray) (h : zCE P w T rs vs) (hφ : φ w m (ZS vs)) : Post P fn G0 W mE φ .ret a w :=
 ⟨hfr.defers, _, zBB hr hfr h, _, m, rfl, hst.ext, hφ⟩
theorem fn_end {fn : Func} {G0 : List Nat} {W : World} {mE : Mem} {L : List Res} {φ : World → Mem → Value → Prop} {T : List (Nat × Value)} {n : Nat} {a : Act} {w : World} {m : Mem} {rs : List ResultVar} {vs : List Value}
  (hst : St G0 W mE L w m) (hfr : Fr ⟨n, []⟩ T a) (hr : fn.results = rs.toArray) (h : zCE P w T rs vs) (hφ : φ w m (ZS vs)) : Post P fn G0 W mE φ .normal a w :=
 ⟨hfr.defers, _, zBB hr hfr h, _, m, rfl, hst.ext, hφ⟩
theorem zi {w : World} {g : Nat} {t e : TypeId} {cs : List Value} {fz : Nat × Nat} (h : w.heap[g]? = some (.cells cs.toArray e fz)) (ha : ∀ w, (isAgg t).run P w = .ok true w)
  (hz : ∀ w, (sizeOf t).run P w = .ok cs.length w) : (loadVar t ⟨g, 0, none⟩).run P w = .ok (.agg cs.toArray) w := by
 have hl := Z4 (P := P) (w := w) (a := ⟨g, 0, none⟩) (vs := cs) fun j v e => zCM h e
 simp [loadVar, ha, hz, hl]
theorem zAG {w : World} {g : Nat} {t e : TypeId} {v : Value} {cs : List Value} {fz : Nat × Nat} (h : w.heap[g]? = some (.cells cs.toArray e fz)) (hv : cs[0]? = some v) (ha : ∀ w, (isAgg t).run P w = .ok false w) : (loadVar t ⟨g, 0, none⟩).run P w = .ok v w := by
 have hl := zCM h hv
 rw [addr_add0] at hl
 simp [loadVar, ha, hl]
theorem zAJ {Q : Exit → Act → World → Prop} {n : FrN} {id : Nat} {draw : Bool} {l : List Oper} {T : List (Nat × Value)} {a : Act} {w : World} {m : Mem} {fin : List Ent} {W : World} {mE : Mem} {G0 : List Nat} {L : List Res}
  (hm : draw = true → P.follows .mixedOrders = true) (hst : St G0 W mE L w m) (hfr : Fr n T a) (hchk : chk l = true) (hd : zEz n l = true)
  (hob : zBJ P l G0 W mE m L [] T 0 [] l fin)
  (cont : ∀ (a' : Act) (w' : World) (m' : Mem), St G0 W mE L w' m' → MLe m m' → FinK n fin T a' m' → Q .normal a' w') :
  (Code.region id l.toArray draw).wpIn (z4 rd) 0 P Q a w := zc (tch := []) hm hst hfr hchk rfl hd hob cont
theorem rp0 {Q : Exit → Act → World → Prop} {n : FrN} {id : Nat} {l : List Oper} {T : List (Nat × Value)} {a : Act} {w : World} {m : Mem} {fin : List Ent} {W : World} {mE : Mem} {G0 : List Nat} {L : List Res}
  (hst : St G0 W mE L w m) (hfr : Fr n T a) (hob : zBJ P l G0 W mE m L [] T 0 [] l fin)
  (cont : ∀ (a' : Act) (w' : World) (m' : Mem), St G0 W mE L w' m' → MLe m m' → FinK n fin T a' m' → Q .normal a' w') (hchk : chk l = true := by kernel_rfl) (hd : zEz n l = true := by kernel_rfl) :
  (Code.region id l.toArray false).wpIn (z4 rd) 0 P Q a w := zc (tch := []) (fun h => by cases h) hst hfr hchk rfl hd hob cont
theorem ra0 {Q : Exit → Act → World → Prop} {n : FrN} {id : Nat} {l : List Oper} {T : List (Nat × Value)} {a : Act} {w : World} {m : Mem} {fin : List Ent} {W : World} {mE : Mem} {G0 : List Nat} {L : List Res} {tch : Tch}
  (hst : St G0 W mE L w m) (hfr : Fr n T a) (hob : zBJ P l G0 W mE m L tch T 0 [] l fin)
  (cont : ∀ (a' : Act) (w' : World) (m' : Mem), St G0 W mE (zDd (z3 l (zV a')) tch L) w' m' → MLe m m' → FinK n fin T a' m' → Q .normal a' w') (hchk : chk l = true := by kernel_rfl) (htch : zAy l tch = true := by kernel_rfl) (hd : zEz n l = true := by kernel_rfl) :
  (Code.region id l.toArray false).wpIn (z4 rd) 0 P Q a w := zc (fun h => by cases h) hst hfr hchk htch hd hob cont
theorem zN {Q : Exit → Act → World → Prop} {a : Act} {w : World} (h : Q .ret a w) : Code.ret.wpIn (z4 rd) 0 P Q a w := wpIn_ret h
theorem zR {Q : Exit → Act → World → Prop} {a : Act} {w : World} (h : Q .normal a w) : Code.skip.wpIn (z4 rd) 0 P Q a w := wpIn_skip h
theorem zv {id : Nat} {Q : Exit → Act → World → Prop} {a : Act} {w : World} (h : Q (.exit id) a w) : (Code.exit id).wpIn (z4 rd) 0 P Q a w := wpIn_exit h
theorem zT {id : Nat} {c : Code} {Q : Exit → Act → World → Prop} {a : Act} {w : World} (h : c.wpIn (z4 rd) 0 P (Exit.inBlock id Q) a w) : (Code.block id c).wpIn (z4 rd) 0 P Q a w := wpIn_block h
theorem zH {K : Act → World → Prop} {Q : Exit → Act → World → Prop} {a : Act} {w : World} (h : Q .ret a w) : Exit.then K Q .ret a w := h
theorem Zi {j : Nat} {K : Act → World → Prop} {Q : Exit → Act → World → Prop} {a : Act} {w : World} (h : Q (.exit j) a w) : Exit.then K Q (.exit j) a w := h
theorem ZT {i : Nat} {Q : Exit → Act → World → Prop} {a : Act} {w : World} (h : Q .normal a w) : Exit.inBlock i Q (.exit i) a w := by
 show (if i = i then Q .normal a w else Q (.exit i) a w); rw [if_pos rfl]; exact h
theorem ZD {i : Nat} {Q : Exit → Act → World → Prop} {a : Act} {w : World} (h : Q .normal a w) : Exit.inBlock i Q .normal a w := h
theorem zG {i : Nat} {Q : Exit → Act → World → Prop} {a : Act} {w : World} (h : Q .ret a w) : Exit.inBlock i Q .ret a w := h
theorem zB {x y : Code} {Q : Exit → Act → World → Prop} {a : Act} {w : World} (h : ∀ K : Act → World → Prop, (∀ a w, y.wpIn (z4 rd) 0 P Q a w → K a w) → x.wpIn (z4 rd) 0 P (Exit.then K Q) a w) : (Code.seq x y).wpIn (z4 rd) 0 P Q a w := wpIn_seq_k h
theorem zE {n : FrN} {T : List (Nat × Value)} {c : Operand} {t : Nat} {x y : Code} {b : Bool} {Q : Exit → Act → World → Prop} {a : Act} {w : World} (hfr : Fr n T a) (hc : c = .tmp t) (hb : look T t = some (.bool b))
  (h1 : b = true → x.wpIn (z4 rd) 0 P Q a w) (h2 : b = false → y.wpIn (z4 rd) 0 P Q a w) : (Code.cond c x y).wpIn (z4 rd) 0 P Q a w :=
 wpIn_cond_split (by subst hc; exact hfr.at_ t _ hb) h1 h2
variable {K : World → Mem → Prop} {m0 : Mem} {L : List Res} {us : List Nat} {ch : List (Nat × Bool)} {pre : List Ent} {T : List (Nat × Value)}
variable {dst : Option Nat} {ty : TypeId} {pos : String} {af : Array Edge} {gd : Option (Nat × Bool)}
-- calls
inductive Evs (us : List Nat) (ch : List (Nat × Bool)) (pre : List Ent) (T : List (Nat × Value)) : List Operand → List Value → Prop where
 | nil : Evs us ch pre T [] []
 | cons {x : Operand} {v : Value} {xs : List Operand} {vs : List Value} (h : ev us ch pre T x = some v) (hs : Evs us ch pre T xs vs) : Evs us ch pre T (x :: xs) (v :: vs)
theorem Evs.map {σ : Nat → Value} {m : Mem} {xs : List Operand} {vs : List Value} (h : Evs us ch pre T xs vs) (hn : Know σ m us ch pre T) : xs.map (zy σ) = vs := by
 induction h with
 | nil => rfl
 | cons h1 _ ih => simp [hn.ev h1, ih]
theorem zFD {σ : Nat → Value} {w : World} {m : Mem} {f : Operand} {fid : FuncId} {cap : List Value} {xs : List Operand} {vs : List Value} {ats : Array TypeId} (hn : Know σ m us ch pre T) (hf : ev us ch pre T f = some (.func (.func fid) #[] cap.toArray))
  (hxs : Evs us ch pre T xs vs) (hc : ∀ args w, (callFunc fid args).run P w = .ok (.enter fid args) w) :
  (execOp (zy σ) ⟨dst, .call { callee := .value f, args := xs.toArray, argTypes := ats }, ty, pos, af, gd⟩).run P w = .ok (.enter fid (vs ++ cap).toArray) w := by
 simp [execOp, resolve, Deferred.ofValue, hn.ev hf, hxs.map hn, invoke, hc]
theorem zm {f : Operand} {fid : FuncId} {cap : List Value} {xs : List Operand} {vs : List Value} {ats : Array TypeId} {φ : MP} (hf : ev us ch pre T f = some (.func (.func fid) #[] cap.toArray))
  (hxs : Evs us ch pre T xs vs) (hc : ∀ args w, (callFunc fid args).run P w = .ok (.enter fid args) w) (h : ∀ w m, K w m → FnV P fid (vs ++ cap).toArray w m fun _ => φ.p) :
  Ob P K us ch pre T ⟨dst, .call { callee := .value f, args := xs.toArray, argTypes := ats }, ty, pos, af, gd⟩ (.ex φ) := fun σ w m hk hn => by
 unfold Does
 rw [zFD hn hf hxs hc]
 exact Calls.mono (h w m hk) fun e w' ⟨v, m', e1, hE, hv⟩ => ⟨v, e1, m', hE, hv⟩
theorem zX {f : Operand} {fid : FuncId} {cap : List Value} {xs : List Operand} {vs : List Value} {ats : Array TypeId} {c : Value} (hf : ev us ch pre T f = some (.func (.func fid) #[] cap.toArray))
  (hxs : Evs us ch pre T xs vs) (hc : ∀ args w, (callFunc fid args).run P w = .ok (.enter fid args) w) (h : ∀ w m, K w m → FnV P fid (vs ++ cap).toArray w m fun _ _ v => v = c) :
  Ob P K us ch pre T ⟨dst, .call { callee := .value f, args := xs.toArray, argTypes := ats }, ty, pos, af, gd⟩ (.eq c) := fun σ w m hk hn => by
 unfold Does
 rw [zFD hn hf hxs hc]
 exact Calls.mono (h w m hk) fun e w' ⟨v, m', e1, hE, hv⟩ => ⟨v, e1, m', hE, hv⟩
theorem zj {f : Operand} {fid : FuncId} {cap : List Value} {xs : List Operand} {vs : List Value} {ats : Array TypeId} {κ : Kn} {r : (Nat → Value) → Res} {r' : Value → Res} (hf : ev us ch pre T f = some (.func (.func fid) #[] cap.toArray))
  (hxs : Evs us ch pre T xs vs) (hc : ∀ args w, (callFunc fid args).run P w = .ok (.enter fid args) w)
  (h : ∀ σ w m, K w m → (r σ).holds w m → Know σ m us ch pre T → Calls P fid (vs ++ cap).toArray w fun e w' => ∃ v m', e = .returned v ∧ ZR (r σ) (r' (keepV dst v)) w m w' m' ∧ κ.holds m' v) :
  ObT P K us ch pre T r r' ⟨dst, .call { callee := .value f, args := xs.toArray, argTypes := ats }, ty, pos, af, gd⟩ κ := fun σ w m hk hr hn => by
 unfold Does
 rw [zFD hn hf hxs hc]
 exact Calls.mono (h σ w m hk hr hn) fun e w' ⟨v, m', e1, hE, hv⟩ => ⟨v, e1, m', hE, hv⟩
section img
theorem zAi {σ : Nat → Value} {m : Mem} {t : Nat} {c : Value} (hn : Know σ m us ch pre T) (hc : σ t = c) : Know σ m us ch ((some t, none, .val (.eq c)) :: pre) T := by
 refine ⟨fun t' v ht hf hl => ?_, fun t' g κ ht hf hg => ?_, hn.gds⟩
 ·simp only [find] at hf
  cases e : Nat.beq t t' with
  | true => rw [e] at hf; cases hf
  | false => rw [e] at hf; exact hn.old t' v ht hf hl
 ·simp only [find] at hf
  cases e : Nat.beq t t' with
  | true =>
   rw [e] at hf; simp only [cond_true, Option.some.injEq, Prod.mk.injEq] at hf
   rw [Nat.beq_eq] at e; subst e; rw [← hf.2]; exact hc
  | false => rw [e] at hf; exact hn.ent t' g κ ht hf hg
variable {φ : MP} {g : Option (Nat × Bool)}
theorem zAf {o : Oper} {κ : Kn} (t : Nat) (hu : has us t = true) (hf : find pre t = some (g, .val (.ex φ))) (hg : gok ch g = true)
  (h : ∀ y, Ob P (KAnd K (φ.r y)) us ch ((some t, none, .val (.eq (φ.f y))) :: pre) T o κ) : Ob P K us ch pre T o κ := fun σ w m hk hn => by
 obtain ⟨y, e, hy⟩ : φ.p m (σ t) := hn.ent t g _ (Z8 hu) hf (hn.gd hg)
 exact h y σ w m ⟨hk, hy⟩ (zAi hn e)
theorem zAI {o : Oper} {κ : φ.α → Value} (t : Nat) (hu : has us t = true) (hf : find pre t = some (g, .val (.ex φ))) (hg : gok ch g = true)
  (h : ∀ y, Ob P (KAnd K (φ.r y)) us ch ((some t, none, .val (.eq (φ.f y))) :: pre) T o (.eq (κ y))) : Ob P K us ch pre T o (.ex ⟨φ.α, κ, φ.r, φ.mono'⟩) := fun σ w m hk hn => by
 obtain ⟨y, e, hy⟩ : φ.p m (σ t) := hn.ent t g _ (Z8 hu) hf (hn.gd hg)
 exact Does.mono (h y σ w m ⟨hk, hy⟩ (zAi hn e)) fun v w' ⟨m', hE, hv⟩ => ⟨m', hE, y, hv, φ.mono' hE.le hy⟩
theorem zBA {o : Oper} {ψ : φ.α → MP} (t : Nat) (hu : has us t = true) (hf : find pre t = some (g, .val (.ex φ))) (hg : gok ch g = true)
  (h : ∀ y, Ob P (KAnd K (φ.r y)) us ch ((some t, none, .val (.eq (φ.f y))) :: pre) T o (.ex (ψ y))) :
  Ob P K us ch pre T o (.ex ⟨(y : φ.α) × (ψ y).α, fun z => (ψ z.1).f z.2, fun z m => φ.r z.1 m ∧ (ψ z.1).r z.2 m, fun hm hz => ⟨φ.mono' hm hz.1, (ψ _).mono' hm hz.2⟩⟩) := fun σ w m hk hn => by
 obtain ⟨y, e, hy⟩ : φ.p m (σ t) := hn.ent t g _ (Z8 hu) hf (hn.gd hg)
 exact Does.mono (h y σ w m ⟨hk, hy⟩ (zAi hn e)) fun v w' ⟨m', hE, z, hv, hz⟩ => ⟨m', hE, ⟨y, z⟩, hv, φ.mono' hE.le hy, hz⟩
theorem zb {o : Oper} {κ : Kn} {r : (Nat → Value) → Res} {r' : Value → Res} (t : Nat) (hu : has us t = true) (hf : find pre t = some (g, .val (.ex φ))) (hg : gok ch g = true)
  (h : ∀ y, ObT P (KAnd K (φ.r y)) us ch ((some t, none, .val (.eq (φ.f y))) :: pre) T r r' o κ) : ObT P K us ch pre T r r' o κ := fun σ w m hk hr hn => by
 obtain ⟨y, e, hy⟩ : φ.p m (σ t) := hn.ent t g _ (Z8 hu) hf (hn.gd hg)
 have := h y σ w m ⟨hk, hy⟩ hr (zAi hn e)
 simp only [zFC hf] at this
 exact this
theorem z8 {o : Oper} {κ : Kn} {r : (Nat → Value) → Res} {v : Value → Value} {e : TypeId} {C : φ.α → List Value} (t : Nat) (hu : has us t = true) (hf : find pre t = some (g, .val (.ex φ))) (hg : gok ch g = true)
  (h : ∀ y, ObT P (KAnd K (φ.r y)) us ch ((some t, none, .val (.eq (φ.f y))) :: pre) T r (fun x => .blk (v x) (.cells (C y).toArray e)) o κ) : ObT P K us ch pre T r (fun x => .blkx (v x) e ⟨φ.α, fun y => .agg (C y).toArray, φ.r, φ.mono'⟩) o κ := fun σ w m hk hr hn => by
 obtain ⟨y, e, hy⟩ : φ.p m (σ t) := hn.ent t g _ (Z8 hu) hf (hn.gd hg)
 refine Does.mono (h y σ w m ⟨hk, hy⟩ hr (zAi hn e)) fun v w' ⟨m', hT, hv⟩ => ?_
 rw [zFC hf] at hT
 refine ⟨m', ⟨hT.ext, ?_, hT.nodup, hT.where_⟩, hv⟩
 obtain ⟨g, e, hh, hm⟩ := hT.now
 exact ⟨g, _, e, hh, hm, y, rfl, φ.mono' hT.ext.le hy⟩
end img
theorem St.unx {G0 : List Nat} {W : World} {mE : Mem} {L : List Res} {w : World} {m : Mem} {k : Nat} {v : Value} {e : TypeId} {ψ : MP} {C : ψ.α → List Value}
  (h : St G0 W mE L w m) (hk : L[k]? = some (.blkx v e ψ)) (hC : ∀ y, ψ.f y = .agg (C y).toArray) : ∃ y, ψ.r y m ∧ St G0 W mE (L.set k (.blk v (.cells (C y).toArray e))) w m := by
 obtain ⟨g, cs, rfl, hh, hm, y, hcs, hy⟩ := h.loc.at_ hk
 rw [hC] at hcs
 injection hcs with hcs; subst hcs
 refine ⟨y, hy, h.touch hk ⟨ExtG.refl _ h.agree, ⟨g, rfl, hh, hm⟩, by simp [Res.blocks, zn], fun g hg => .inl hg⟩⟩
-- numbers
def zo (x : Int) : Prop := -9223372036854775808 ≤ x ∧ x ≤ 9223372036854775807
theorem zDE {x : Int} (h : zo x) : IntKind.i64.wrap x = x := by
 obtain ⟨h1, h2⟩ := h
 rw [IntKind.wrap_i64]; omega
theorem Zl [KC K m0 L] {op : BinOp} {t yt : TypeId} {x y : Operand} {a b v : Value} (hx : ev us ch pre T x = some a) (hy : ev us ch pre T y = some b)
  (hr : ∀ w, (do eqGuard op t x y a b; binOp op t a b : Sem Value).run P w = .ok v w) : Ob P K us ch pre T ⟨dst, .binOp op t x y yt, ty, pos, af, gd⟩ (.eq v) :=
 ZZ fun σ w m _ hn => by
  have := hr w
  simp only [execOp, hn.ev hx, hn.ev hy]
  rw [Sem.run_bind, this]; rfl
theorem z6 [KC K m0 L] {t yt : TypeId} {x y : Operand} {a b : Int} (hx : ev us ch pre T x = some (.int .i64 a)) (hy : ev us ch pre T y = some (.int .i64 b)) (h : zo (a + b)) :
  Ob P K us ch pre T ⟨dst, .binOp .add t x y yt, ty, pos, af, gd⟩ (.eq (.int .i64 (a + b))) := Zl hx hy fun w => by simp [eqGuard, binOp, Op.intArith, zDE h]
theorem zAZ [KC K m0 L] {t yt : TypeId} {x y : Operand} {a b : Int} (hx : ev us ch pre T x = some (.int .i64 a)) (hy : ev us ch pre T y = some (.int .i64 b)) (h : zo (a - b)) :
  Ob P K us ch pre T ⟨dst, .binOp .sub t x y yt, ty, pos, af, gd⟩ (.eq (.int .i64 (a - b))) := Zl hx hy fun w => by simp [eqGuard, binOp, Op.intArith, zDE h]
theorem ob_addW [KC K m0 L] {t yt : TypeId} {x y : Operand} {k : IntKind} {a b : Int} (hx : ev us ch pre T x = some (.int k a)) (hy : ev us ch pre T y = some (.int k b)) :
  Ob P K us ch pre T ⟨dst, .binOp .add t x y yt, ty, pos, af, gd⟩ (.eq (.int k (k.wrap (a + b)))) := Zl hx hy fun w => by simp [eqGuard, binOp, Op.intArith]
theorem ob_subW [KC K m0 L] {t yt : TypeId} {x y : Operand} {k : IntKind} {a b : Int} (hx : ev us ch pre T x = some (.int k a)) (hy : ev us ch pre T y = some (.int k b)) :
  Ob P K us ch pre T ⟨dst, .binOp .sub t x y yt, ty, pos, af, gd⟩ (.eq (.int k (k.wrap (a - b)))) := Zl hx hy fun w => by simp [eqGuard, binOp, Op.intArith]
theorem ob_mulW [KC K m0 L] {t yt : TypeId} {x y : Operand} {k : IntKind} {a b : Int} (hx : ev us ch pre T x = some (.int k a)) (hy : ev us ch pre T y = some (.int k b)) :
  Ob P K us ch pre T ⟨dst, .binOp .mul t x y yt, ty, pos, af, gd⟩ (.eq (.int k (k.wrap (a * b)))) := Zl hx hy fun w => by simp [eqGuard, binOp, Op.intArith]
theorem ob_quoW [KC K m0 L] {t yt : TypeId} {x y : Operand} {k : IntKind} {a b : Int} (hx : ev us ch pre T x = some (.int k a)) (hy : ev us ch pre T y = some (.int k b)) (hb : b ≠ 0) :
  Ob P K us ch pre T ⟨dst, .binOp .quo t x y yt, ty, pos, af, gd⟩ (.eq (.int k (k.wrap (a.tdiv b)))) := Zl hx hy fun w => by simp [eqGuard, binOp, Op.intDiv, hb]
theorem zS [KC K m0 L] {t yt : TypeId} {x y : Operand} {k : IntKind} {a b : Int} (hx : ev us ch pre T x = some (.int k a)) (hy : ev us ch pre T y = some (.int k b)) :
  Ob P K us ch pre T ⟨dst, .binOp .eql t x y yt, ty, pos, af, gd⟩ (.eq (.bool (decide (a = b)))) := Zl hx hy fun w => by simp [eqGuard, binOp, Op.intCmp]; rfl
theorem Zs [KC K m0 L] {t yt : TypeId} {x y : Operand} {k : IntKind} {a b : Int} (hx : ev us ch pre T x = some (.int k a)) (hy : ev us ch pre T y = some (.int k b)) :
  Ob P K us ch pre T ⟨dst, .binOp .neq t x y yt, ty, pos, af, gd⟩ (.eq (.bool (!decide (a = b)))) := Zl hx hy fun w => by simp [eqGuard, binOp, Op.intCmp]; rfl
theorem ZA [KC K m0 L] {t yt : TypeId} {x y : Operand} {k : IntKind} {a b : Int} (hx : ev us ch pre T x = some (.int k a)) (hy : ev us ch pre T y = some (.int k b)) :
  Ob P K us ch pre T ⟨dst, .binOp .lss t x y yt, ty, pos, af, gd⟩ (.eq (.bool (decide (a < b)))) := Zl hx hy fun w => by simp [eqGuard, binOp, Op.intCmp]
theorem ob_leq [KC K m0 L] {t yt : TypeId} {x y : Operand} {k : IntKind} {a b : Int} (hx : ev us ch pre T x = some (.int k a)) (hy : ev us ch pre T y = some (.int k b)) :
  Ob P K us ch pre T ⟨dst, .binOp .leq t x y yt, ty, pos, af, gd⟩ (.eq (.bool (decide (a ≤ b)))) := Zl hx hy fun w => by simp [eqGuard, binOp, Op.intCmp]
theorem zFI [KC K m0 L] {t yt : TypeId} {x y : Operand} {k : IntKind} {a b : Int} (hx : ev us ch pre T x = some (.int k a)) (hy : ev us ch pre T y = some (.int k b)) :
  Ob P K us ch pre T ⟨dst, .binOp .gtr t x y yt, ty, pos, af, gd⟩ (.eq (.bool (decide (b < a)))) := Zl hx hy fun w => by simp [eqGuard, binOp, Op.intCmp]
theorem zDi [KC K m0 L] {t yt : TypeId} {x y : Operand} {k : IntKind} {a b : Int} (hx : ev us ch pre T x = some (.int k a)) (hy : ev us ch pre T y = some (.int k b)) :
  Ob P K us ch pre T ⟨dst, .binOp .geq t x y yt, ty, pos, af, gd⟩ (.eq (.bool (decide (b ≤ a)))) := Zl hx hy fun w => by simp [eqGuard, binOp, Op.intCmp]
-- strings
theorem zd [KC K m0 L] {t yt : TypeId} {x y : Operand} {a b : Str} (hx : ev us ch pre T x = some (S a)) (hy : ev us ch pre T y = some (S b)) :
  Ob P K us ch pre T ⟨dst, .binOp .eql t x y yt, ty, pos, af, gd⟩ (.eq (.bool (decide (a = b)))) := Zl hx hy fun w => by
 simp only [eqGuard, binOp, Op.stringOp, S_toList]; rw [show (a == b) = decide (a = b) from by rw [Bool.eq_iff_iff]; simp]; rfl
theorem ob_sneq [KC K m0 L] {t yt : TypeId} {x y : Operand} {a b : Str} (hx : ev us ch pre T x = some (S a)) (hy : ev us ch pre T y = some (S b)) :
  Ob P K us ch pre T ⟨dst, .binOp .neq t x y yt, ty, pos, af, gd⟩ (.eq (.bool (!decide (a = b)))) := Zl hx hy fun w => by
 simp only [eqGuard, binOp, Op.stringOp, S_toList]; rw [show (a == b) = decide (a = b) from by rw [Bool.eq_iff_iff]; simp]; rfl
-- bools
theorem ob_beql [KC K m0 L] {t yt : TypeId} {x y : Operand} {a b : Bool} (hx : ev us ch pre T x = some (.bool a)) (hy : ev us ch pre T y = some (.bool b)) (ht : P.underlying t = some .bool) :
  Ob P K us ch pre T ⟨dst, .binOp .eql t x y yt, ty, pos, af, gd⟩ (.eq (.bool (a == b))) := Zl hx hy fun w => by
 rw [Sem.run_bind, show (eqGuard .eql t x y (.bool a) (.bool b)).run P w = .ok () w from by simp [eqGuard]]; exact run_eql_bool w t a b ht
theorem z2 [KC K m0 L] {t : TypeId} {x : Operand} {a : Bool} (hx : ev us ch pre T x = some (.bool a)) : Ob P K us ch pre T ⟨dst, .unOp .not t x, ty, pos, af, gd⟩ (.eq (.bool !a)) :=
 ZZ fun σ w m _ hn => by simp only [execOp, hn.ev hx]; rfl
theorem zU [hK : KC K m0 L] {sc ta : Nat} {x y : Bool} (hc : evT us ch pre T sc = some (.bool x)) (hu : has us ta = true) (ha : find pre ta = some (some (sc, true), .val (.eq (.bool y)))) :
  Ob P K us ch pre T ⟨dst, .pick (.tmp sc) (.tmp ta) (.const (.bool false)), ty, pos, af, gd⟩ (.eq (.bool (x && y))) :=
 ZZ fun σ w m _ hn => by
  have h1 := hn.evT hc
  cases x with
  | false => simp [execOp, zy, h1, asBool]
  | true =>
   have h2 : σ ta = .bool y := hn.ent ta _ _ (Z8 hu) ha (fun gd e => by injection e with e; subst e; exact h1)
   simp [execOp, zy, h1, h2, asBool]
theorem Zd [hK : KC K m0 L] {sc ta : Nat} {x y : Bool} (hc : evT us ch pre T sc = some (.bool x)) (hu : has us ta = true) (ha : find pre ta = some (some (sc, false), .val (.eq (.bool y)))) :
  Ob P K us ch pre T ⟨dst, .pick (.tmp sc) (.const (.bool true)) (.tmp ta), ty, pos, af, gd⟩ (.eq (.bool (x || y))) :=
 ZZ fun σ w m _ hn => by
  have h1 := hn.evT hc
  cases x with
  | true => simp [execOp, zy, h1, asBool]
  | false =>
   have h2 : σ ta = .bool y := hn.ent ta _ _ (Z8 hu) ha (fun gd e => by injection e with e; subst e; exact h1)
   simp [execOp, zy, h1, h2, asBool]
-- pointers and nil
theorem ob_pnil [KC K m0 L] {t e yt : TypeId} {x : Operand} {o : Option Addr} (hx : ev us ch pre T x = some (.pointer o)) (ht : P.underlying t = some (.pointer e)) :
  Ob P K us ch pre T ⟨dst, .binOp .eql t x (.const (.pointer none)) yt, ty, pos, af, gd⟩ (.eq (.bool o.isNone)) := Zl hx (y := .const (.pointer none)) rfl fun w => by
 rw [Sem.run_bind, show (eqGuard .eql t x (.const (.pointer none)) (.pointer o) (.pointer none)).run P w = .ok () w from by simp [eqGuard]]; exact run_eql_pointer_nil w t o (by simp [Program.pointee, ht])
theorem zBU [KC K m0 L] {t e yt : TypeId} {x : Operand} {o : Option Addr} (hx : ev us ch pre T x = some (.pointer o)) (ht : P.underlying t = some (.pointer e)) :
  Ob P K us ch pre T ⟨dst, .binOp .neq t x (.const (.pointer none)) yt, ty, pos, af, gd⟩ (.eq (.bool !o.isNone)) := Zl hx (y := .const (.pointer none)) rfl fun w => by
 rw [Sem.run_bind, show (eqGuard .neq t x (.const (.pointer none)) (.pointer o) (.pointer none)).run P w = .ok () w from by simp [eqGuard]]; exact run_neq_pointer_nil w t o (by simp [Program.pointee, ht])
-- parts of values
theorem zM [KC K m0 L] {x : Operand} {i : Nat} {vs : List Value} {v : Value} (hx : ev us ch pre T x = some (.tuple vs.toArray)) (hv : vs[i]? = some v) : Ob P K us ch pre T ⟨dst, .extract x i, ty, pos, af, gd⟩ (.eq v) :=
 ZZ fun σ w m _ hn => by simp [execOp, hn.ev hx, Instr.extract, hv]
theorem ZN [KC K m0 L] {fn : Fn} {xs : List Operand} {vs : List Value} (hxs : Evs us ch pre T xs vs) : Ob P K us ch pre T ⟨dst, .makeFunc fn #[] xs.toArray, ty, pos, af, gd⟩ (.eq (.func fn #[] vs.toArray)) :=
 ZZ fun σ w m _ hn => by simp [execOp, Instr.makeFunc, hxs.map hn]
inductive EvPs (us : List Nat) (ch : List (Nat × Bool)) (pre : List Ent) (T : List (Nat × Value)) : List (Nat × Operand) → List (Nat × Value) → Prop where
 | nil : EvPs us ch pre T [] []
 | cons {i : Nat} {x : Operand} {v : Value} {xs : List (Nat × Operand)} {vs : List (Nat × Value)} (h : ev us ch pre T x = some v) (hs : EvPs us ch pre T xs vs) : EvPs us ch pre T ((i, x) :: xs) ((i, v) :: vs)
theorem EvPs.map {σ : Nat → Value} {m : Mem} {xs : List (Nat × Operand)} {vs : List (Nat × Value)} (h : EvPs us ch pre T xs vs) (hn : Know σ m us ch pre T) : (xs.map fun x => (x.1, zy σ x.2)) = vs := by
 induction h with
 | nil => rfl
 | cons h1 _ ih => simp [hn.ev h1, ih]
theorem ob_build [KC K m0 L] {t : TypeId} {xs : List (Nat × Operand)} {vs : List (Nat × Value)} {cs : List Value} (hxs : EvPs us ch pre T xs vs) (hr : ∀ w, (Instr.build t vs.toArray).run P w = .ok (.agg cs.toArray) w) :
  Ob P K us ch pre T ⟨dst, .build t xs.toArray, ty, pos, af, gd⟩ (.eq (.agg cs.toArray)) :=
 ZZ fun σ w m _ hn => by
  have : (xs.toArray.map fun (i, x) => (i, zy σ x)) = vs.toArray := by rw [← hxs.map hn]; simp
  simp only [execOp, this]
  rw [Sem.run_bind, hr]; rfl
end
end Go.Proofs.Ytnppknioifgdfaa
namespace Go.Proofs.Ytnppknioifgdfaa
set_option linter.all false
open Go.RowKit
-- values that are put together
def putL : List Value → Nat → List Value → List Value
 | cs, _, [] => cs
 | cs, off, v :: r => putL (cs.set off v) (off + 1) r
def zDP (place : Nat → Option (Nat × Nat)) : List Value → List (Nat × Value) → Option (List Value)
 | cs, [] => some cs
 | cs, (i, v) :: r => match place i with
  | none => none
  | some (off, sz) => bif !(Nat.beq v.cells.toList.length sz) || !(Nat.ble (off + v.cells.toList.length) cs.length) then none else zDP place (putL cs off v.cells.toList) r
theorem putL_fold : ∀ (l : List Value) (k off : Nat) (cs : Array Value), ((l.zipIdx k).foldl (fun cs (c, j) => cs.setIfInBounds (off + j) c) cs).toList = putL cs.toList (off + k) l
 | [], _, _, _ => rfl
 | v :: l, k, off, cs => by
  simp only [List.zipIdx_cons, List.foldl_cons]
  rw [putL_fold l (k + 1) off]
  simp [putL, Nat.add_assoc]
theorem fill_eq {place : Nat → Option (Nat × Nat)} : ∀ (ps : List (Nat × Value)) (cs : List Value) (out : List Value), zDP place cs ps = some out → Instr.fill place cs.toArray ps = some out.toArray
 | [], cs, out, h => by simp [zDP] at h; subst h; rfl
 | (i, v) :: ps, cs, out, h => by
  simp only [zDP] at h
  unfold Instr.fill
  split at h
  ·cases h
  ·rename_i off sz hp
   cases hc : (!(Nat.beq v.cells.toList.length sz) || !(Nat.ble (off + v.cells.toList.length) cs.length)) with
   | true => rw [hc] at h; cases h
   | false =>
    rw [hc] at h; simp only [cond_false] at h
    simp only [Bool.or_eq_false_iff, Bool.not_eq_false', Nat.beq_eq, Nat.ble_eq] at hc
    rw [hp]
    simp only
    have h1 : v.cells.size = sz := by simpa using hc.1
    have h2 : off + v.cells.size ≤ cs.length := by simpa using hc.2
    rw [if_neg (by simp [h1]; rw [← h1]; omega)]
    rw [← fill_eq ps _ out h]
    congr 1
    have e := putL_fold v.cells.toList 0 off cs.toArray
    simp only [Nat.add_zero] at e
    rw [← Array.toArray_toList (xs := Array.foldl _ _ _)]
    congr 1
    rw [← e, ← Array.foldl_toList, Array.toList_zipIdx]
inductive zDh (P : Program) : List Field → List (Nat × Nat) → Prop where
 | nil : zDh P [] []
 | cons {f : Field} {fs : List Field} {sz : Nat} {ps : List (Nat × Nat)} (h : ∀ w, (sizeOf f.type).run P w = .ok sz w) (hs : zDh P fs ps) : zDh P (f :: fs) ((f.offset, sz) :: ps)
theorem places_run {P : Program} {fs : List Field} {ps : List (Nat × Nat)} (h : zDh P fs ps) (w : World) : (fs.mapM (m := Sem) fun f => do pure (f.offset, ← sizeOf f.type)).run P w = .ok ps w := by
 induction h with
 | nil => simp
 | cons h1 _ ih => simp at ih; rw [List.mapM_cons, Sem.run_bind]; simp [h1, ih]
theorem build_run {P : Program} {t : TypeId} {fs : List Field} {zero cs : List Value} {ps : List (Nat × Nat)} {vs : List (Nat × Value)} (hs : P.underlying t = some (.struct fs.toArray)) (hz : ∀ w, (zeroValue t).run P w = .ok (.agg zero.toArray) w)
  (hp : zDh P fs ps) (hf : zDP (fun i => ps[i]?) zero vs = some cs) (w : World) : (Instr.build t vs.toArray).run P w = .ok (.agg cs.toArray) w := by
 have h1 := fill_eq vs zero cs hf
 have h2 := places_run hp w
 simp at h2
 simp [Instr.build, hz, run_underlying hs, Value.cells, h2, h1]
section
variable {P : Program} {K : World → Mem → Prop} {m0 : Mem} {L : List Res} {us : List Nat} {ch : List (Nat × Bool)} {pre : List Ent} {T : List (Nat × Value)}
variable {dst : Option Nat} {ty : TypeId} {pos : String} {af : Array Edge} {gd : Option (Nat × Bool)}
theorem zQ [KC K m0 L] {t : TypeId} {xs : List (Nat × Operand)} {vs : List (Nat × Value)} {fs : List Field} {zero cs : List Value} {ps : List (Nat × Nat)} (hxs : EvPs us ch pre T xs vs)
  (hs : P.underlying t = some (.struct fs.toArray)) (hz : ∀ w, (zeroValue t).run P w = .ok (.agg zero.toArray) w) (hp : zDh P fs ps) (hf : zDP (fun i => ps[i]?) zero vs = some cs) :
  Ob P K us ch pre T ⟨dst, .build t xs.toArray, ty, pos, af, gd⟩ (.eq (.agg cs.toArray)) := ob_build hxs (build_run hs hz hp hf)
-- slices
def RowAt (m : Mem) (o : Option Addr) (cs : List Value) : Prop := cs = [] ∨ ∃ p, o = some p ∧ CellsAt m p cs
theorem RowAt.mono {m m' : Mem} {o : Option Addr} {cs : List Value} (h : RowAt m o cs) (hm : MLe m m') : RowAt m' o cs := h.imp id fun ⟨p, e, hc⟩ => ⟨p, e, hc.mono hm⟩
def MP.row (n : Nat) (cs : List Value) : MP := MP.mem (fun g => .slice (some ⟨g, 0, none⟩) n n) (fun g m => CellsAt m ⟨g, 0, none⟩ cs) fun hm h => h.mono hm
theorem Zb [hK : KC K m0 L] {t e : TypeId} {n sz : Nat} {xs : List (Nat × Operand)} {vs : List (Nat × Value)} {z : Value} {zero cs : List Value} (hxs : EvPs us ch pre T xs vs) (ht : P.underlying t = some (.slice e))
  (hsz : ∀ w, (sizeOf e).run P w = .ok sz w) (hz : ∀ w, (zeroValue e).run P w = .ok z w) (hzc : z.cells = zero.toArray) (hn : Nat.ble (n * sz) 16777216 = true) (h0 : Nat.beq (n * sz) 0 = false)
  (hf : zDP (fun i => some (i * sz, sz)) ((List.range (n * sz)).map fun i => zero.toArray[i % zero.toArray.size]!) vs = some cs) :
  Ob P K us ch pre T ⟨dst, .buildSlice t n xs.toArray, ty, pos, af, gd⟩ (.ex (MP.row n cs)) := fun σ w m hk hn' => by
 have hxe : (xs.toArray.map fun (i, x) => (i, zy σ x)) = vs.toArray := by rw [← hxs.map hn']; simp
 have hff := fill_eq vs _ cs hf
 have hle := Nat.le_of_ble_eq_true hn
 have h0' : ¬ n * sz = 0 := fun e => by rw [e] at h0; cases h0
 have hrun : (execOp (zy σ) ⟨dst, .buildSlice t n xs.toArray, ty, pos, af, gd⟩).run P w = .ok (.value (.slice (some ⟨w.heap.size, 0, none⟩) n n)) (w.alloc (.cells cs.toArray e)) := by
  have hr : (Array.range (n * sz)).map (fun i => zero.toArray[i % zero.toArray.size]!) = ((List.range (n * sz)).map fun i => zero.toArray[i % zero.toArray.size]!).toArray := by simp [← Array.toList_inj]
  have : (Instr.buildSlice t n vs.toArray).run P w = .ok (.slice (some ⟨w.heap.size, 0, none⟩) n n) (w.alloc (.cells cs.toArray e)) := by
   unfold Instr.buildSlice
   simp only [Sem.run_bind, run_underlying ht, Result.andThen_ok, hsz]
   rw [if_neg (by omega), if_neg h0']
   simp only [Sem.run_bind, hz, Result.andThen_ok, Sem.run_pure, hzc]
   rw [hr]
   simp only [hff]
   rfl
  simp only [execOp, hxe]
  rw [Sem.run_bind, this]; rfl
 unfold Does; rw [hrun]
 exact ⟨_, ext_add (hK.agree hk) cs.toArray e, _, rfl, zAE cs⟩
-- append
theorem row_new {w : World} {m : Mem} {e : TypeId} {size n cap : Nat} {xs : List Value} {cur : Array Value} (hlen : xs.length = n * size) (hnc : n ≤ cap) (hcm : cap ≤ maxLen) (hcs : cur.size = cap * size) (ht : cur.toList.take (n * size) = xs) (ha : Agree w m) :
  ZR .free (.row (.slice (some ⟨w.heap.size, 0, none⟩) n cap) n size e xs) w m (w.alloc (.cells cur e)) (m.add w.heap.size xs.toArray) := by
 have hE := zBV ha (.cells cur e)
 have hag : Agree (w.alloc (.cells cur e)) (m.add w.heap.size xs.toArray) := ⟨fun b o u hu => by
  change (if b = w.heap.size then xs.toArray[o]? else m b o) = some u at hu
  split at hu
  ·rename_i hb; subst hb
   have hh : (w.alloc (.cells cur e)).heap[w.heap.size]? = some (.cells cur e (0, 0)) := heap_alloc_new w _
   unfold World.cell?; simp only [hh]
   rw [← ht] at hu
   simp only [List.getElem?_toArray, List.getElem?_take] at hu
   split at hu
   ·simpa using hu
   ·cases hu
  ·exact hE.agree.cell b o u hu, fun b es e => hE.agree.map b es e⟩
 refine ⟨⟨hE.os, hE.tape, hE.output, hE.size, fun b hb hg => hE.block b hb (by simp), hag, Mem.le_add ha _, fun b hb _ => ⟨by funext o; show (if b = w.heap.size then xs.toArray[o]? else m b o) = m b o; rw [if_neg (by omega)], rfl⟩⟩, ⟨hlen, .inr ⟨w.heap.size, cap, cur, rfl, heap_alloc_new w _, hnc, hcm, hcs, ht, fun o u hu => ?_, fun off ho => ?_⟩⟩, by simp [Res.blocks, ZC], by simp [Res.blocks, ZC]⟩
 ·simp [Mem.add, hu]
 ·simp only [Mem.add, if_true, List.getElem?_toArray]; exact List.getElem?_eq_none (by omega)
theorem zCt {r r' : Res} {w w' : World} {m m' : Mem} (h : ZR r r' w.drew m w' m') : ZR r r' w m w' m' :=
 ⟨⟨h.ext.os, h.ext.tape, h.ext.output, h.ext.size, h.ext.block, h.ext.agree, h.ext.le, h.ext.old⟩, h.now, h.nodup, h.where_⟩
theorem Zv {r0 r r' : Res} {w w' : World} {m m' : Mem} (h : ZR r r' w m w' m') (hb : ∀ g ∈ r.blocks, g ∈ r0.blocks) : ZR r0 r' w m w' m' :=
 ⟨h.ext.mono hb, h.now, h.nodup, fun g hg => (h.where_ g hg).imp (hb g) id⟩
theorem zDR {w : World} {m : Mem} {t ty e : TypeId} {i : TypeInfo} {z : Value} {size bytes n k c : Nat} {v : Value} {A : Option Addr} {olds news : List Value} (ht : P.underlying t = some (.slice e)) (hi : P.info? e = some i) (hz : i.zero = some z)
  (hsize : i.size = size) (hby : i.bytes = bytes) (hzs : z.cells.size = size) (ha : Agree w m) (hr : (Res.row v n size e olds).holds w m)
  (hx : RowAt m A news) (hl : news.length = k * size) (hsz : 0 < size) (h1 : ∀ u ∈ news, u.oneCell' = true) (h63 : n + k ≤ maxLen) (hbytes : (n + k) * bytes ≤ 140737488355328) :
  ∃ o cap w' m', (Builtin.append_ #[t, t] ty #[v, .slice A k c]).run P w = .ok (.slice o (n + k) cap) w' ∧ ZR (.row v n size e olds) (.row (.slice o (n + k) cap) (n + k) size e (olds ++ news)) w m w' m' ∧ RowAt m' o (olds ++ news) ∧ n + k ≤ cap := by
 subst hsize; subst hby
 obtain ⟨hlo, hr⟩ := hr
 have hsmall : n + k ≤ 9223372036854775807 := by simp only [maxLen] at h63; omega
 have hlen : (olds ++ news).length = (n + k) * i.size := by rw [List.length_append, hlo, hl, Nat.add_mul]
 have fresh : ∀ old, old < n + k → ZR .free (.row (.slice (some ⟨w.heap.size, 0, none⟩) (n + k) (grownCap w (n + k) old e)) (n + k) i.size e (olds ++ news)) w m
   (w.drew.alloc (.cells (olds.toArray ++ news.toArray ++ Builtin.zeroCells z.cells (grownCap w (n + k) old e - (n + k))) e)) (m.add w.heap.size (olds ++ news).toArray) := fun old ho => by
  have hge := grownCap_ge w (n + k) old e
  refine zCt (row_new (w := w.drew) hlen hge (grownCap_le_maxLen w (n + k) old e h63) ?_ ?_ ⟨ha.cell, ha.map⟩)
  ·simp only [Array.size_append, List.size_toArray, size_zeroCells, hzs, hlo, hl, ← Nat.add_mul]
   congr 1; omega
  ·simp only [Array.toList_append, List.append_assoc]
   rw [← List.append_assoc, ← hlen]
   exact List.take_left
 have newrow : ∀ _ : Nat, RowAt (m.add w.heap.size (olds ++ news).toArray) (some ⟨w.heap.size, 0, none⟩) (olds ++ news) := fun _ => .inr ⟨_, rfl, zAE _⟩
 have same : k = 0 → news = [] := fun hk => List.eq_nil_of_length_eq_zero (by rw [hl, hk]; simp)
 by_cases hk : k = 0
 ·have hn := same hk
  subst hk; subst hn
  rcases hr with ⟨rfl, h0⟩ | ⟨g, cap, cur, rfl, hh, hnc, hcm, hcs, htk, hin, hout⟩
  ·subst h0
   have ho : olds = [] := List.eq_nil_of_length_eq_zero (by simpa using hlo)
   subst ho
   refine ⟨none, 0, w, m, ?_, ⟨ExtG.refl _ ha, ⟨by simp, .inl ⟨rfl, rfl⟩⟩, by simp [Res.blocks, ZC], fun g hg => by cases hg⟩, .inl rfl, Nat.le_refl _⟩
   cases A <;> simp [Builtin.append_, run_underlying ht, sizeOf, typeInfo, hi, Builtin.lenOf, Builtin.firstCells, loadCells, loadCellsFrom]
  ·refine ⟨some ⟨g, 0, none⟩, cap, w, m, ?_, ⟨ExtG.refl _ ha, ⟨by simpa using hlo, .inr ⟨g, cap, cur, rfl, hh, hnc, hcm, hcs, by simpa using htk, fun o u hu => hin o u (by simpa using hu), hout⟩⟩, by simp [Res.blocks, ZC], fun g' hg => .inl hg⟩, ?_, hnc⟩
   ·cases A <;> simp [Builtin.append_, run_underlying ht, sizeOf, typeInfo, hi, Builtin.lenOf, Builtin.firstCells, loadCells, loadCellsFrom, hnc, storeCells]
   ·exact .inr ⟨_, rfl, rfl, fun o u hu => by rw [Nat.zero_add]; exact hin o u (by simpa using hu)⟩
 ·have hne : news ≠ [] := fun hh => by
   rw [hh, List.length_nil] at hl
   have := Nat.mul_pos (Nat.pos_of_ne_zero hk) hsz; omega
  obtain ⟨ad, rfl, hcell⟩ : ∃ p, A = some p ∧ CellsAt m p news := by
   rcases hx with h | h
   ·exact absurd h hne
   ·exact h
  have hnews : ∀ j u, news[j]? = some u → w.cell? (ad.add j) = some u := fun j u e => ZM ha hcell e
  rcases hr with ⟨rfl, h0⟩ | ⟨g, cap, cur, rfl, hh, hnc, hcm, hcs, htk, hin, hout⟩
  ·subst h0
   have ho : olds = [] := List.eq_nil_of_length_eq_zero (by simpa using hlo)
   subst ho
   have hrun := run_append_nil (P := P) w t ty e i z ht hi hz ad k c news hl hnews (by omega) (by omega) (by simp only [Nat.zero_add] at hbytes; omega)
   have hf := fresh 0 (by omega)
   have hge := grownCap_ge w k 0 e
   simp only [Nat.zero_add, List.nil_append, Array.empty_append] at hf ⊢
   refine ⟨_, _, _, _, hrun, Zv hf (by simp [Res.blocks]), ?_, hge⟩
   have := newrow 0
   simpa using this
  ·by_cases hroom : n + k ≤ cap
   ·have hfit : n * i.size + news.length ≤ cur.size := by rw [hl, hcs, ← Nat.add_mul]; exact Nat.mul_le_mul_right _ hroom
    have hrun := run_append_room (P := P) w t ty e i ht hi g n cap cur hh ad k c news hl hnews h1 hroom hfit
    have hh' := setRow_heap w g cur (cur.toList.take (n * i.size) ++ news ++ cur.toList.drop (n * i.size + news.length)).toArray e (0, 0) hh
    have htk' : (cur.toList.take (n * i.size) ++ news ++ cur.toList.drop (n * i.size + news.length)).toArray.toList.take ((n + k) * i.size) = olds ++ news := by
     rw [htk, ← hlen]; exact List.take_left
    have hle : MLe m (m.add g (olds ++ news).toArray) := ⟨fun b o u hu => by
     show (if b = g then (olds ++ news).toArray[o]? else m b o) = some u
     split
     ·rename_i hb; subst hb
      have hlt : o < olds.length := by
       rcases Nat.lt_or_ge o (n * i.size) with h | h
       ·omega
       ·rw [hout o h] at hu; cases hu
      have h2 := hin o olds[o] (List.getElem?_eq_getElem hlt)
      rw [hu] at h2; injection h2 with h2
      rw [List.getElem?_toArray, List.getElem?_append_left hlt, List.getElem?_eq_getElem hlt, h2]
     ·exact hu, fun _ _ e => e⟩
    have hag : Agree (w.setRow g (cur.toList.take (n * i.size) ++ news ++ cur.toList.drop (n * i.size + news.length)).toArray) (m.add g (olds ++ news).toArray) := ⟨fun b o u hu => by
     change (if b = g then (olds ++ news).toArray[o]? else m b o) = some u at hu
     split at hu
     ·rename_i hb; subst hb
      unfold World.cell?; simp only [hh']
      rw [← htk'] at hu
      simp only [List.getElem?_toArray, List.getElem?_take] at hu
      split at hu
      ·simpa using hu
      ·cases hu
     ·rename_i hb
      rw [World.cell?_of_block (setRow_other w g b _ hb)]
      exact ha.cell b o u hu, fun b es e => by
     have h1 := ha.map b es e
     have hb : b ≠ g := fun e => by subst e; rw [hh] at h1; cases h1
     exact (setRow_other w g b _ hb).trans h1⟩
    refine ⟨_, _, _, m.add g (olds ++ news).toArray, hrun, ⟨⟨rfl, rfl, rfl, by simp [World.setRow], fun b _ hb => setRow_other w g b _ (fun e => hb (by simp [Res.blocks, ZC, e])), hag, hle, fun b _ hb => ⟨by funext o; show (if b = g then (olds ++ news).toArray[o]? else m b o) = m b o; rw [if_neg (fun e => hb (by simp [Res.blocks, ZC, e]))], rfl⟩⟩,
     ⟨hlen, .inr ⟨g, cap, _, rfl, hh', hroom, hcm, ?_, htk', fun o u hu => by simp only [Mem.add, if_true, List.getElem?_toArray]; exact hu, fun off ho => by simp only [Mem.add, if_true, List.getElem?_toArray]; exact List.getElem?_eq_none (by omega)⟩⟩, by simp [Res.blocks, ZC], fun g' hg => .inl hg⟩, ?_, hroom⟩
    ·simp only [List.size_toArray, List.length_append, List.length_take, List.length_drop, Array.length_toList]; omega
    ·exact .inr ⟨_, rfl, rfl, fun o u hu => by simp only [Mem.add, if_true, List.getElem?_toArray, Nat.zero_add]; exact hu⟩
   ·have holds : ∀ j u, olds[j]? = some u → w.cell? ((⟨g, 0, none⟩ : Addr).add j) = some u := fun j u e => ZM ha (vs := olds) ⟨rfl, fun o u hu => by rw [Nat.zero_add]; exact hin o u hu⟩ e
    have hrun := run_append_grow (P := P) w t ty e i z ht hi hz ⟨g, 0, none⟩ n cap olds hlo holds ad k c news hl hnews (by omega) (by omega) (growslice_fits (by omega) hbytes)
    have hge := grownCap_ge w (n + k) cap e
    exact ⟨_, _, _, _, hrun, Zv (fresh cap (by omega)) (by simp [Res.blocks]), newrow 0, hge⟩
def MP.sl (n : Nat) (cs : List Value) : MP := MP.mem (fun y : Option Addr × Nat => .slice y.1 n y.2) (fun y m => RowAt m y.1 cs ∧ n ≤ y.2) fun hm h => ⟨h.1.mono hm, h.2⟩
theorem zl [KC K m0 L] {t e : TypeId} {x : Operand} {o : Option Addr} {n c : Nat} (hx : ev us ch pre T x = some (.slice o n c)) (ht : P.underlying t = some (.slice e)) :
  Ob P K us ch pre T ⟨dst, .call { callee := .builtin .len, args := #[x], argTypes := #[t] }, ty, pos, af, gd⟩ (.eq (.int .i64 n)) :=
 ZZ fun σ w m _ hn => by simp [execOp, resolve, hn.ev hx, invoke, builtin, Builtin.len_, run_underlying ht, goInt]
theorem ob_min2 [KC K m0 L] {ts : Array TypeId} {x y : Operand} {k : IntKind} {a b : Int} (hx : ev us ch pre T x = some (.int k a)) (hy : ev us ch pre T y = some (.int k b)) :
  Ob P K us ch pre T ⟨dst, .call { callee := .builtin .min, args := #[x, y], argTypes := ts }, ty, pos, af, gd⟩ (.eq (.int k (if b < a then b else a))) :=
 ZZ fun σ w m _ hn => by simp [execOp, resolve, hn.ev hx, hn.ev hy, invoke, builtin, run_min_int2]
theorem zI [KC K m0 L] {t e : TypeId} {x y : Operand} {p : Addr} {len cap sz k : Nat} {ik : IntKind} {i : Int} (hx : ev us ch pre T x = some (.slice (some p) len cap)) (hy : ev us ch pre T y = some (.int ik i))
  (ht : P.underlying t = some (.slice e)) (hz : ∀ w, (sizeOf e).run P w = .ok sz w) (hi : i = (k : Int)) (hk : k < len) :
  Ob P K us ch pre T ⟨dst, .indexAddr t x y, ty, pos, af, gd⟩ (.eq (.pointer (some (p.add (k * sz))))) :=
 ZZ fun σ w m _ hn => by
  subst hi
  have h1 : (0 : Int) ≤ (k : Int) ∧ (k : Int) < (len : Int) := ⟨by omega, by omega⟩
  simp [execOp, hn.ev hx, hn.ev hy, Instr.indexAt, asIntOf, run_underlying ht, hz, hk]
inductive Bnd (us : List Nat) (ch : List (Nat × Bool)) (pre : List Ent) (T : List (Nat × Value)) : Option Operand → Nat → Nat → Prop where
 | none {d : Nat} : Bnd us ch pre T none d d
 | some {x : Operand} {d k : Nat} {ik : IntKind} {i : Int} (h : ev us ch pre T x = some (.int ik i)) (e : i = (k : Int)) : Bnd us ch pre T (some x) d k
theorem zAW [KC K m0 L] {t e : TypeId} {x : Operand} {lo hi : Option Operand} {o : Option Addr} {len cap sz l h : Nat} (hx : ev us ch pre T x = some (.slice o len cap)) (hlo : Bnd us ch pre T lo 0 l) (hhi : Bnd us ch pre T hi len h)
  (ht : P.underlying t = some (.slice e)) (hz : ∀ w, (sizeOf e).run P w = .ok sz w) (h1 : l ≤ h) (h2 : h ≤ cap) :
  Ob P K us ch pre T ⟨dst, .slice t x lo hi none, ty, pos, af, gd⟩ (.eq (.slice (if cap = l then o else o.map (·.add (l * sz))) (h - l) (cap - l))) :=
 ZZ fun σ w m _ hn => by
  have hb : ∀ (i y : Nat) (ik : IntKind) (cd : BoundsCode), i ≤ y → (Instr.sliceBound (.int ik (i : Int)) y cd).run P w = .ok i w := fun i y ik cd hh => by
   simp [Instr.sliceBound, asIntOf, hh]
  cases hlo with
  | none => cases hhi with
   | none => simp [execOp, hn.ev hx, Instr.sliceAt, Instr.slice, run_underlying ht, Instr.sliceBounds, hz]
   | some g2 e2 => subst e2; simp [execOp, hn.ev hx, hn.ev g2, Instr.sliceAt, Instr.slice, run_underlying ht, Instr.sliceBounds, hz, hb _ _ _ _ h2]
  | some g1 e1 => cases hhi with
   | none => subst e1; simp [execOp, hn.ev hx, hn.ev g1, Instr.sliceAt, Instr.slice, run_underlying ht, Instr.sliceBounds, hz, hb _ _ _ _ h1]
   | some g2 e2 => subst e1; subst e2; simp [execOp, hn.ev hx, hn.ev g1, hn.ev g2, Instr.sliceAt, Instr.slice, run_underlying ht, Instr.sliceBounds, hz, hb _ _ _ _ h1, hb _ _ _ _ h2]
structure Sl {α : Type} (R : Mem → List Value → α → Prop) (sz : Nat) (m : Mem) (o : Option Addr) (n cap : Nat) (xs : List α) : Prop where
 len : xs.length = n
 cap : n ≤ cap
 big : n ≤ 9223372036854775807
 at_ : ∀ i x, xs[i]? = some x → ∃ p vs, o = some p ∧ CellsAt m (p.add (i * sz)) vs ∧ vs.length = sz ∧ R m vs x
theorem Sl.mono {α : Type} {R : Mem → List Value → α → Prop} {sz : Nat} {m m' : Mem} {o : Option Addr} {n cap : Nat} {xs : List α} (h : Sl R sz m o n cap xs) (hR : ∀ vs x, R m vs x → R m' vs x) (hm : MLe m m') : Sl R sz m' o n cap xs :=
 ⟨h.len, h.cap, h.big, fun i x hx => by obtain ⟨p, vs, e, hc, hl, hr⟩ := h.at_ i x hx; exact ⟨p, vs, e, hc.mono hm, hl, hR _ _ hr⟩⟩
theorem Sl.cut {α : Type} {R : Mem → List Value → α → Prop} {sz : Nat} {m : Mem} {o : Option Addr} {n cap : Nat} {xs : List α} (h : Sl R sz m o n cap xs) {l k : Nat} (h1 : l ≤ k) (h2 : k ≤ n) :
  Sl R sz m (if cap = l then o else o.map (·.add (l * sz))) (k - l) (cap - l) ((xs.take k).drop l) := by
 refine ⟨by simp [h.len]; omega, by have := h.cap; omega, by have := h.big; omega, fun i x hx => ?_⟩
 rw [List.getElem?_drop, List.getElem?_take] at hx
 split at hx
 ·rename_i hlt
  obtain ⟨p, vs, e, hc, hl, hr⟩ := h.at_ (l + i) x hx
  have hcap := h.cap
  rw [if_neg (by omega), e]
  refine ⟨p.add (l * sz), vs, rfl, ?_, hl, hr⟩
  rw [zAs, ← Nat.add_mul]; exact hc
 ·cases hx
theorem Sl.of_row {α : Type} {R : Mem → List Value → α → Prop} {sz : Nat} {m : Mem} {o : Option Addr} {n cap : Nat} {xs : List α} {f : α → List Value} (hr : RowAt m o (xs.flatMap f)) (hn : xs.length = n) (hc : n ≤ cap) (hb : n ≤ 9223372036854775807)
  (hsz : 0 < sz) (hf : ∀ x ∈ xs, (f x).length = sz ∧ R m (f x) x) : Sl R sz m o n cap xs := by
 refine ⟨hn, hc, hb, fun i x hx => ?_⟩
 have key : ∀ (xs : List α) (i : Nat) (x : α), (∀ x ∈ xs, (f x).length = sz) → xs[i]? = some x → ((xs.flatMap f).drop (i * sz)).take sz = f x := by
  intro xs
  induction xs with
  | nil => intro i x _ h; simp at h
  | cons y ys ih =>
   intro i x hl hx
   cases i with
   | zero => simp at hx; subst hx; simp [hl y (.head _)]
   | succ i =>
    simp at hx
    rw [List.flatMap_cons, Nat.succ_mul, List.drop_append, List.drop_eq_nil_of_le (by rw [hl y (.head _)]; omega)]
    rw [hl y (.head _), Nat.add_sub_cancel, List.nil_append]
    exact ih i x (fun z hz => hl z (.tail _ hz)) hx
 have hmem := List.mem_of_getElem? hx
 rcases hr with h0 | ⟨p, e, hcells⟩
 ·have h1 := key xs i x (fun z hz => (hf z hz).1) hx
  rw [h0] at h1
  have h2 := (hf x hmem).1
  rw [← h1] at h2; simp at h2; omega
 ·refine ⟨p, f x, e, ?_, (hf x hmem).1, (hf x hmem).2⟩
  have := (hcells.drop (i * sz)).take sz
  rwa [key xs i x (fun z hz => (hf z hz).1) hx] at this
end
end Go.Proofs.Ytnppknioifgdfaa
namespace Go.Proofs.Ytnppknioifgdfaa
set_option linter.all false
open Go.RowKit
inductive SubT (T : List (Nat × Value)) : List (Nat × Value) → Prop where
 | nil : SubT T []
 | cons {t : Nat} {v : Value} {T' : List (Nat × Value)} (h : look T t = some v) (hs : SubT T T') : SubT T ((t, v) :: T')
theorem SubT.c {T T' : List (Nat × Value)} {t : Nat} {v : Value} (hs : SubT T T') (h : look T t = some v := by exact rfl) : SubT T ((t, v) :: T') := .cons h hs
theorem Fr.sub {n : FrN} {T T' : List (Nat × Value)} {a : Act} (h : Fr n T a) (hs : SubT T T') : Fr n T' a := by
 induction hs with
 | nil => exact ⟨h.defers, h.size, fun t v e => by cases e⟩
 | cons h1 _ ih => exact ih.cons (h.at_ _ _ h1)
structure Head {α : Type} (n : FrN) (T : List (Nat × Value)) (G0 : List Nat) (W : World) (mE m0 : Mem) (f : α → List (Nat × Value)) (Lf : α → List Res) (J : α → Mem → Prop) (y : α) (a : Act) (w : World) (m : Mem) : Prop where
 st : St G0 W mE (Lf y) w m
 le : MLe m0 m
 fr : Fr n (f y ++ T) a
 rel : J y m
theorem zx {α : Type} {rd : Option Nat} {P : Program} {Q : Exit → Act → World → Prop} {c : Code} {n : FrN} {T : List (Nat × Value)} {G0 : List Nat} {W : World} {mE m0 : Mem} {a : Act} {w : World}
  (f : α → List (Nat × Value)) (Lf : α → List Res) (J : α → Mem → Prop) (μ : α → Nat) (y0 : α)
  (h0 : Head n T G0 W mE m0 f Lf J y0 a w m0)
  (round : ∀ (y : α) (a : Act) (w : World) (m : Mem), Head n T G0 W mE m0 f Lf J y a w m → c.wpIn (z4 rd) 0 P (Exit.then (fun a' w' => ∃ (y' : α) (m' : Mem), μ y' < μ y ∧ Head n T G0 W mE m0 f Lf J y' a' w' m') Q) a w) :
  (Code.loop c).wpIn (z4 rd) 0 P Q a w := by
 refine wpIn_loop_ghost (fun k a w => ∃ (y : α) (m : Mem), μ y = k ∧ Head n T G0 W mE m0 f Lf J y a w m) (μ y0) ⟨y0, m0, rfl, h0⟩ fun k a w ⟨y, m, hk, h⟩ => ?_
 refine wpIn_mono (round y a w m h) fun e a' w' hq => ?_
 cases e with
 | normal => obtain ⟨y', m', hlt, hh⟩ := hq; exact ⟨μ y', by omega, y', m', rfl, hh⟩
 | exit id => exact hq
 | goto l => exact hq
 | ret => exact hq
 | panic ch => exact hq
 | outgrown => exact hq
abbrev Ints (m : Mem) (o : Option Addr) (n cap : Nat) (xs : List Int) : Prop := Sl (fun _ vs (x : Int) => vs = [Value.int .i64 x]) 1 m o n cap xs
theorem Ints.mono {m m' : Mem} {o : Option Addr} {n cap : Nat} {xs : List Int} (h : Ints m o n cap xs) (hm : MLe m m') : Ints m' o n cap xs := Sl.mono h (fun _ _ e => e) hm
abbrev Strs (m : Mem) (o : Option Addr) (n cap : Nat) (xs : List Str) : Prop := Sl (fun _ vs (x : Str) => vs = [S x]) 1 m o n cap xs
theorem Strs.mono {m m' : Mem} {o : Option Addr} {n cap : Nat} {xs : List Str} (h : Strs m o n cap xs) (hm : MLe m m') : Strs m' o n cap xs := Sl.mono h (fun _ _ e => e) hm
end Go.Proofs.Ytnppknioifgdfaa
namespace Go.Proofs.Ytnppknioifgdfaa
set_option linter.all false
open Go.RowKit
section
variable {P : Program} {K : World → Mem → Prop} {m0 : Mem} {L : List Res} {us : List Nat} {ch : List (Nat × Bool)} {pre : List Ent} {T : List (Nat × Value)} {dst : Option Nat} {ty : TypeId} {pos : String} {af : Array Edge} {gd : Option (Nat × Bool)}
theorem u8_eq {a b : UInt8} : ((a.toNat : Int) = (b.toNat : Int)) ↔ a = b := ⟨fun h => UInt8.toNat_inj.1 (by omega), fun h => by rw [h]⟩
theorem Strs.of_row {m : Mem} {o : Option Addr} {n cap : Nat} {xs : List Str} (hr : RowAt m o (xs.map S)) (hn : xs.length = n) (hc : n ≤ cap) (hb : n ≤ 9223372036854775807) : Strs m o n cap xs :=
 Sl.of_row (f := fun x => [S x]) (by rw [List.map_eq_flatMap] at hr; exact hr) hn hc hb (by omega) fun _ _ => ⟨rfl, rfl⟩
end
end Go.Proofs.Ytnppknioifgdfaa
namespace Go.Proofs.Ytnppknioifgdfaa
set_option linter.all false
open Go.RowKit Go.MapKept
theorem St.take {G0 : List Nat} {W : World} {mE : Mem} {L : List Res} {w : World} {m : Mem} (h : St G0 W mE L w m) (k : Nat) : St G0 W mE (L.take k) w m :=
 have hs : L.flatMap Res.blocks = (L.take k).flatMap Res.blocks ++ (L.drop k).flatMap Res.blocks := by rw [← List.flatMap_append, List.take_append_drop]
 ⟨h.ext, fun r hr => h.loc.all r (List.mem_of_mem_take hr), by have := h.loc.apart; rw [hs] at this; exact (List.nodup_append.1 this).1, fun g hg => h.loc.own g (by rw [hs]; exact List.mem_append_left _ hg)⟩
theorem Sl.nth {α : Type} {R : Mem → List Value → α → Prop} {sz : Nat} {m : Mem} {o : Option Addr} {n cap : Nat} {xs : List α} (h : Sl R sz m o n cap xs) {k : Nat} (hk : k < xs.length) :
  ∃ p vs x, o = some p ∧ xs.drop k = x :: xs.drop (k + 1) ∧ x ∈ xs ∧ xs.take (k + 1) = xs.take k ++ [x] ∧ CellsAt m (p.add (k * sz)) vs ∧ vs.length = sz ∧ R m vs x := by
 obtain ⟨p, vs, e, hc, hl', hr⟩ := h.at_ k xs[k] (List.getElem?_eq_getElem hk)
 exact ⟨p, vs, xs[k], e, List.drop_eq_getElem_cons hk, List.getElem_mem hk, List.take_succ_eq_append_getElem hk, hc, hl', hr⟩
structure Keys {κ : Type} [DecidableEq κ] (d : TypeDesc) (enc : κ → Value) : Prop where
 key : ∀ a, IsKey d (enc a)
 same : ∀ a b, Instr.sameNow d (enc a) (enc b) = some (decide (a = b))
theorem zAD : Keys .string S := ⟨fun _ => trivial, fun a b => by
 show some ((⟨a.toArray⟩ : ByteArray) == ⟨b.toArray⟩) = _
 congr 1
 by_cases h : a = b
 ·subst h; simp [bytes_beq]
 ·have : ¬ ((⟨a.toArray⟩ : ByteArray) = ⟨b.toArray⟩) := fun e => h (by injection e with e; simpa using e)
  rw [decide_eq_false h]; exact Bool.eq_false_iff.2 fun e => this ((bytes_beq _ _).1 e)⟩
theorem Z2 : Keys (.int .i64) (fun n : Int => Value.int .i64 n) := ⟨fun _ => by simp [IsKey], fun a b => by simp [Instr.sameNow]; rfl⟩
section
variable {κ : Type} [DecidableEq κ]
def z5 {β : Type} (k : κ) : List (κ × β) → Option β
 | [] => none
 | (a, v) :: r => if k = a then some v else z5 k r
def zBH {β : Type} (k : κ) (v : β) : List (κ × β) → List (κ × β)
 | [] => [(k, v)]
 | (a, u) :: r => if k = a then (a, v) :: r else (a, u) :: zBH k v r
def zDc (k : κ) : List (κ × Value) → Nat → Option (Nat × Value)
 | [], _ => none
 | (a, v) :: r, i => if k = a then some (i, v) else zDc k r (i + 1)
def zAL (enc : κ → Value) (es : List (κ × Value)) : List (Value × Value) := es.map fun p => (enc p.1, p.2)
theorem zBd (k : κ) : ∀ (es : List (κ × Value)) (i : Nat), z5 k es = (zDc k es i).map (·.2)
 | [], _ => rfl
 | (a, v) :: r, i => by simp only [z5, zDc]; split <;> simp [zBd k r (i + 1)]
theorem zAV {d : TypeDesc} {enc : κ → Value} (hK : Keys d enc) (k : κ) : ∀ (l : List MapEntry) (es : List (κ × Value)) (i : Nat), (l.map fun e => (e.key, e.val)) = zAL enc es → Instr.findNow d (enc k) l i = some (zDc k es i)
 | [], [], _, _ => rfl
 | [], _ :: _, _, h => by simp [zAL] at h
 | _ :: _, [], _, h => by simp [zAL] at h
 | e :: l, (a, v) :: es, i, h => by
  simp only [zAL, List.map_cons, List.cons.injEq, Prod.mk.injEq] at h
  obtain ⟨⟨h1, h2⟩, h3⟩ := h
  simp only [Instr.findNow, h1, h2, hK.same, zDc]
  by_cases hka : k = a
  ·simp [hka]
  ·simp only [hka, decide_false, if_false]
   exact zAV hK k l es (i + 1) h3
theorem aset_none (k : κ) (v : Value) : ∀ (es : List (κ × Value)) (i : Nat), zDc k es i = none → zBH k v es = es ++ [(k, v)]
 | [], _, _ => rfl
 | (a, u) :: r, i, h => by
  simp only [zDc] at h
  split at h
  ·cases h
  ·rename_i hne; simp only [zBH, hne, if_false, List.cons_append, aset_none k v r (i + 1) h]
theorem aset_some (k : κ) (v : Value) : ∀ (es : List (κ × Value)) (i j : Nat) (u : Value), zDc k es i = some (j, u) → i ≤ j ∧ es[j - i]? = some (k, u) ∧ zBH k v es = es.set (j - i) (k, v)
 | [], _, _, _, h => by cases h
 | (a, u') :: r, i, j, u, h => by
  simp only [zDc] at h
  split at h
  ·rename_i hk
   simp only [Option.some.injEq, Prod.mk.injEq] at h
   obtain ⟨rfl, rfl⟩ := h
   subst hk
   simp [zBH]
  ·rename_i hne
   obtain ⟨h1, h2, h3⟩ := aset_some k v r (i + 1) j u h
   have e : j - i = (j - (i + 1)) + 1 := by omega
   refine ⟨by omega, by rw [e]; simpa using h2, ?_⟩
   rw [e]; simp only [zBH, hne, if_false, List.set_cons_succ, h3]
theorem Stamps.push {ents : Array MapEntry} {clock : Nat} (h : Stamps ents clock) (k v : Value) : Stamps (ents.push { key := k, val := v, born := clock }) (clock + 1) := by
 refine ⟨fun x hx => ?_, ?_⟩
 ·rw [Array.toList_push, List.mem_append, List.mem_singleton] at hx
  rcases hx with hx | rfl
  ·have := h.1 x hx; omega
  ·exact Nat.lt_succ_self _
 ·rw [Array.toList_push, List.map_append, List.nodup_append]
  refine ⟨h.2, by simp, fun a ha b hb e => ?_⟩
  simp only [List.map_cons, List.map_nil, List.mem_singleton] at hb
  obtain ⟨x, hx, rfl⟩ := List.mem_map.1 ha
  have := h.1 x hx
  omega
theorem Stamps.modify {ents : Array MapEntry} {clock : Nat} (h : Stamps ents clock) (j : Nat) (k v : Value) : Stamps (ents.modify j fun e => { e with key := k, val := v }) clock := by
 have hm : (ents.modify j fun e => { e with key := k, val := v }).toList.map (·.born) = ents.toList.map (·.born) := by
  apply List.ext_getElem?
  intro i
  simp only [List.getElem?_map, Array.getElem?_toList, Array.getElem?_modify]
  split
  ·cases ents[i]? <;> rfl
  ·rfl
 refine ⟨fun x hx => ?_, hm ▸ h.2⟩
 have : x.born ∈ ents.toList.map (·.born) := hm ▸ List.mem_map.2 ⟨x, hx, rfl⟩
 obtain ⟨y, hy, e⟩ := List.mem_map.1 this
 rw [← e]; exact h.1 y hy
theorem Stamps.nil : Stamps #[] 0 := ⟨fun x hx => by simp at hx, by simp⟩
theorem zEY {P : Program} {w : World} {g : Nat} {ents : Array MapEntry} {clock : Nat} {mt kt et : TypeId} {d : TypeDesc} {enc : κ → Value} {es : List (κ × Value)} (hK : Keys d enc) (hm : P.underlying mt = some (.map kt et)) (hd : P.underlying kt = some d)
  (hh : w.heap[g]? = some (.map ents clock)) (he : Zz ents = zAL enc es) (hs : Stamps ents clock) (k : κ) (v : Value) :
  ∃ ents' clock', (Instr.mapUpdate mt (.map (some g)) (enc k) v).run P w = .ok () { w with heap := w.heap.setIfInBounds g (.map ents' clock') } ∧ Zz ents' = zAL enc (zBH k v es) ∧ Stamps ents' clock' := by
 have hf := zAV hK k ents.toList es 0 he
 have hget : (getObj g).run P w = .ok (.map ents clock) w := by simp [getObj, Sem.run, hh]
 cases ha : zDc k es 0 with
 | none =>
  rw [ha] at hf
  refine ⟨ents.push { key := enc k, val := v, born := clock }, clock + 1, ?_, ?_, hs.push _ _⟩
  ·simp [Instr.mapUpdate, run_underlying hm, Result.andThen, hget, run_checkKey hd (hK.key k), run_findKey hd hf, run_setObj_map _ hh]
  ·rw [aset_none k v es 0 ha]
   simp only [Zz, zAL, Array.toList_push, List.map_append, List.map_cons, List.map_nil] at he ⊢
   rw [he]
 | some x =>
  obtain ⟨j, u⟩ := x
  rw [ha] at hf
  obtain ⟨_, h2, h3⟩ := aset_some k v es 0 j u ha
  simp only [Nat.sub_zero] at h2 h3
  have hlen : ents.size = es.length := by have := congrArg List.length he; simpa [Zz, zAL] using this
  have hj : j < es.length := (List.getElem?_eq_some_iff.1 h2).1
  have hkey : (ents[j]'(by omega)).key = enc k := by
   have h4 := congrArg (fun l => l[j]?) he
   simp only [Zz, zAL, List.getElem?_map, h2, Array.getElem?_toList, Array.getElem?_eq_getElem (show j < ents.size by omega), Option.map_some, Option.some.injEq, Prod.mk.injEq] at h4
   exact h4.1
  refine ⟨ents.modify j fun e => { e with key := enc k, val := v }, clock, ?_, ?_, hs.modify _ _ _⟩
  ·simp [Instr.mapUpdate, run_underlying hm, Result.andThen, hget, run_checkKey hd (hK.key k), run_findKey hd hf, Array.getElem?_eq_getElem (show j < ents.size by omega), hkey, run_keyThatStays (hK.key k), run_setObj_map _ hh]
  ·rw [h3]
   apply List.ext_getElem?
   intro i
   have hi := congrArg (fun l => l[i]?) he
   simp only [Zz, zAL, List.getElem?_map, Array.getElem?_toList] at hi ⊢
   rw [Array.getElem?_modify, List.getElem?_set]
   by_cases hij : j = i
   ·subst hij
    simp [Array.getElem?_eq_getElem (show j < ents.size by omega), hj]
   ·simp only [hij, if_false]; exact hi
end
section
variable {P : Program} {K : World → Mem → Prop} {m0 : Mem} {L : List Res} {us : List Nat} {ch : List (Nat × Bool)} {pre : List Ent} {T : List (Nat × Value)}
variable {dst : Option Nat} {ty : TypeId} {pos : String} {af : Array Edge} {gd : Option (Nat × Bool)}
def MP.mapv : MP := MP.mem (fun g => .map (some g)) (fun _ _ => True) fun _ h => h
theorem ob_makeMapL [hK : KC K m0 L] {d : Nat} {t : TypeId} :
  ObT P K us ch pre T (fun _ => .free) (fun v => .map v []) ⟨some d, .makeMap t none, ty, pos, af, gd⟩ (.ex MP.mapv) := fun σ w m hk _ hn => by
 have hr : (execOp (zy σ) ⟨some d, .makeMap t none, ty, pos, af, gd⟩).run P w = .ok (.value (.map (some w.heap.size))) (w.alloc (.map #[] 0)) := by
  simp only [execOp, Option.map_none]; rfl
 unfold Does; rw [hr]
 have ha := hK.agree hk
 exact ⟨m, ⟨(zBV ha _).mono (by simp), ⟨w.heap.size, #[], 0, rfl, heap_alloc_new w _, rfl, agree_noneM ha (Nat.le_refl _), Stamps.nil⟩, by simp [Z1, zBP, keepV, Res.blocks, zAK], by simp [Z1, zBP, keepV, Res.blocks, zAK]⟩, _, rfl, trivial⟩
theorem zCG [hK : KC K m0 L] {κ : Type} {d : Nat} {t : TypeId} (enc : κ → Value) :
  ObT P K us ch pre T (fun _ => .free) (fun v => .map v (zAL enc ([] : List (κ × Value)))) ⟨some d, .makeMap t none, ty, pos, af, gd⟩ (.ex MP.mapv) := ob_makeMapL
theorem touch_map {w : World} {m : Mem} {v : Value} {g : Nat} {ents ents' : Array MapEntry} {clock clock' : Nat} {es es' : List (Value × Value)} (ha : Agree w m) (hv : v = .map (some g)) (hh : w.heap[g]? = some (.map ents clock)) (hm : m.mp g = none) (he' : Zz ents' = es') (hs' : Stamps ents' clock') :
  ZR (.map v es) (.map v es') w m { w with heap := w.heap.setIfInBounds g (.map ents' clock') } m := by
 subst hv
 obtain ⟨h1, h2⟩ := heap_set (o' := .map ents' clock') hh
 refine ⟨⟨rfl, rfl, rfl, by simp, fun b _ hb => h2 b (fun e => hb (by simp [Res.blocks, zAK, e])), ⟨fun b o u hu => ?_, fun b es e => ?_⟩, MLe.refl _, fun _ _ _ => ⟨rfl, rfl⟩⟩, ⟨g, ents', clock', rfl, h1, he', hm, hs'⟩, by simp [Res.blocks, zAK], fun g' hg => .inl hg⟩
 ·have hc := ha.cell b o u hu
  have hb : b ≠ g := fun e => by subst e; unfold World.cell? at hc; simp only [hh] at hc; cases hc
  rw [World.cell?_of_block (h2 b hb)]; exact hc
 ·have h3 := ha.map b es e
  have hb : b ≠ g := fun e' => by subst e'; rw [hm] at e; cases e
  exact (h2 b hb).trans h3
theorem zt [hK : KC K m0 L] {κ : Type} [DecidableEq κ] {enc : κ → Value} {d : TypeDesc} {t kt et : TypeId} {p : Nat} {y z : Operand} {k : κ} {v : Value} {es : List (κ × Value)} (hKe : Keys d enc) (hf : (find pre p).isSome = true) (hy : ev us ch pre T y = some (enc k)) (hz : ev us ch pre T z = some v)
  (hm : P.underlying t = some (.map kt et)) (hd : P.underlying kt = some d) :
  ObT P K us ch pre T (fun σ => .map (σ p) (zAL enc es)) (fun x => .map x (zAL enc (zBH k v es))) ⟨none, .insert t (.tmp p) y z, ty, pos, af, gd⟩ (.ex MP.any) := fun σ w m hk hr hkn => by
 obtain ⟨g, ents, clock, e1, hh, he, hmp, hsp⟩ := hr
 obtain ⟨ents', clock', hrun, he', hsp'⟩ := zEY (P := P) hKe hm hd hh he hsp k v
 have e2 : ∀ v, Z1 pre ⟨none, .insert t (.tmp p) y z, ty, pos, af, gd⟩ σ v = σ p := fun v => by
  obtain ⟨q, hq⟩ := Option.isSome_iff_exists.1 hf
  unfold Z1 zBP
  simp only [hq]
 have hx : (execOp (zy σ) ⟨none, .insert t (.tmp p) y z, ty, pos, af, gd⟩).run P w = .ok .skip { w with heap := w.heap.setIfInBounds g (.map ents' clock') } := by
  have e3 : zy σ (.tmp p) = .map (some g) := e1
  simp only [execOp, hkn.ev hy, hkn.ev hz, e3]
  rw [Sem.run_bind, hrun]; rfl
 unfold Does; rw [hx]
 refine ⟨m, ?_, _, rfl, trivial⟩
 simp only [e2]
 exact touch_map (hK.agree hk) e1 hh hmp he' hsp'
theorem zAR [hK : KC K m0 L] {κ : Type} [DecidableEq κ] {enc : κ → Value} {d : TypeDesc} {t kt et : TypeId} {x y : Operand} {k : κ} {g j : Nat} {z v : Value} {b : Bool} {es : List (κ × Value)} (hKe : Keys d enc) (hx : ev us ch pre T x = some (.map (some g))) (hy : ev us ch pre T y = some (enc k))
  (hL : L[j]? = some (.map (.map (some g)) (zAL enc es))) (hm : P.underlying t = some (.map kt et)) (hd : P.underlying kt = some d) (hz : ∀ w, (zeroValue et).run P w = .ok z w)
  (hv : (match z5 k es with | some u => (u, true) | none => (z, false)) = (v, b)) :
  Ob P K us ch pre T ⟨dst, .lookup t x y true, ty, pos, af, gd⟩ (.eq (.tuple #[v, .bool b])) :=
 ZZ fun σ w m hk hn => by
  obtain ⟨g', ents, clock, e1, hh, he, _⟩ := hK.at_ hk hL
  injection e1 with e1; injection e1 with e1; subst e1
  have hf := zAV hKe k ents.toList es 0 he
  have hget : (getObj g).run P w = .ok (.map ents clock) w := by simp [getObj, Sem.run, hh]
  rw [zBd k es 0] at hv
  cases ha : zDc k es 0 with
  | none =>
   rw [ha] at hf hv
   simp only [Option.map_none, Prod.mk.injEq] at hv
   obtain ⟨rfl, rfl⟩ := hv
   simp [execOp, hn.ev hx, hn.ev hy, Instr.lookup, run_underlying hm, Result.andThen, hget, run_checkKey hd (hKe.key k), run_findKey hd hf, hz]
  | some q =>
   rw [ha] at hf hv
   simp only [Option.map_some, Prod.mk.injEq] at hv
   obtain ⟨rfl, rfl⟩ := hv
   simp [execOp, hn.ev hx, hn.ev hy, Instr.lookup, run_underlying hm, Result.andThen, hget, run_checkKey hd (hKe.key k), run_findKey hd hf]
end
theorem nq1 (b : Bool) : ((!b) = true) = (b = false) := Bool.not_eq_true' b
theorem nq2 (b : Bool) : ((!b) = false) = (b = true) := Bool.not_eq_false' b
theorem nq3 {p : Prop} [Decidable p] : (decide p = true) = p := decide_eq_true_eq
theorem nq4 {p : Prop} {x : Decidable p} : decide p = false ↔ ¬p := decide_eq_false_iff_not
theorem nq5 (a b : Bool) : ((a && b) = true) = (a = true ∧ b = true) := Bool.and_eq_true a b
theorem nq6 (a b : Bool) : ((a || b) = true) = (a = true ∨ b = true) := Bool.or_eq_true a b
theorem nq7 {x y : Bool} : (x && y) = false ↔ x = false ∨ y = false := Bool.and_eq_false_iff
theorem nq8 {x y : Bool} : (x || y) = false ↔ x = false ∧ y = false := Bool.or_eq_false_iff
theorem nq9 (b : Bool) : (!!b) = b := Bool.not_not b
theorem nqs : (∀ b : Bool, ((!b) = true) = (b = false)) ∧ (∀ b : Bool, ((!b) = false) = (b = true)) ∧ (∀ (p : Prop) [Decidable p], (decide p = true) = p) ∧ (∀ (p : Prop) (x : Decidable p), decide p = false ↔ ¬p) ∧ (∀ a b : Bool, ((a && b) = true) = (a = true ∧ b = true)) ∧ (∀ a b : Bool, ((a || b) = true) = (a = true ∨ b = true)) ∧ (∀ x y : Bool, (x && y) = false ↔ x = false ∨ y = false) ∧ (∀ x y : Bool, (x || y) = false ↔ x = false ∧ y = false) ∧ (∀ b : Bool, (!!b) = b) ∧ (∀ a b : UInt8, ((a.toNat : Int) = (b.toNat : Int)) ↔ a = b) := ⟨nq1, nq2, fun _ => nq3, fun _ _ => nq4, nq5, nq6, fun _ _ => nq7, fun _ _ => nq8, nq9, fun _ _ => u8_eq⟩
end Go.Proofs.Ytnppknioifgdfaa
namespace Go.Proofs.Ytnppknioifgdfaa
set_option linter.all false
open Go.RowKit
structure MTouch (rs rs' : List Res) (w : World) (m : Mem) (w' : World) (m' : Mem) : Prop where
 ext : ExtG (rs.flatMap Res.blocks) w m w' m'
 now : ∀ r ∈ rs', r.holds w' m'
 nodup : (rs'.flatMap Res.blocks).Nodup
 where_ : ∀ g ∈ rs'.flatMap Res.blocks, g ∈ rs.flatMap Res.blocks ∨ w.heap.size ≤ g
theorem St.multi {G0 : List Nat} {W : World} {mE : Mem} {A B rs rs' : List Res} {w w' : World} {m m' : Mem} (h : St G0 W mE (A ++ (rs ++ B)) w m) (ht : MTouch rs rs' w m w' m') : St G0 W mE (A ++ (rs' ++ B)) w' m' := by
 have hlt : ∀ g ∈ (A ++ (rs ++ B)).flatMap Res.blocks, g < w.heap.size := fun g hg => by
  obtain ⟨x, hx, hgx⟩ := List.mem_flatMap.1 hg
  exact Res.lt (h.loc.all x hx) g hgx
 have hap := h.loc.apart
 simp only [List.flatMap_append] at hap hlt
 rw [List.nodup_append, List.nodup_append] at hap
 obtain ⟨nA, ⟨nR, nB, dRB⟩, dA⟩ := hap
 have hown := h.loc.own
 simp only [List.flatMap_append, List.mem_append] at hown
 refine ⟨h.ext.trans' ht.ext fun g hg => hown g (.inr (.inl hg)), fun x hx => ?_, ?_, fun g hg => ?_⟩
 ·simp only [List.mem_append] at hx
  rcases hx with hx | hx | hx
  ·exact Res.keep (h.loc.all x (List.mem_append_left _ hx)) ht.ext fun g hg hg' => dA g (List.mem_flatMap.2 ⟨x, hx, hg⟩) g (List.mem_append_left _ hg') rfl
  ·exact ht.now x hx
  ·exact Res.keep (h.loc.all x (List.mem_append_right _ (List.mem_append_right _ hx))) ht.ext fun g hg hg' => dRB g hg' g (List.mem_flatMap.2 ⟨x, hx, hg⟩) rfl
 ·simp only [List.flatMap_append]
  rw [List.nodup_append, List.nodup_append]
  refine ⟨nA, ⟨ht.nodup, nB, fun a ha b hb e => ?_⟩, fun a ha b hb e => ?_⟩
  ·subst e
   rcases ht.where_ a ha with h1 | h1
   ·exact dRB a h1 a hb rfl
   ·have := hlt a (List.mem_append_right _ (List.mem_append_right _ hb)); omega
  ·subst e
   rcases List.mem_append.1 hb with hb | hb
   ·rcases ht.where_ a hb with h1 | h1
    ·exact dA a ha a (List.mem_append_left _ h1) rfl
    ·have := hlt a (List.mem_append_left _ ha); omega
   ·exact dA a ha a (List.mem_append_right _ hb) rfl
 ·simp only [List.flatMap_append, List.mem_append] at hg
  rcases hg with hg | hg | hg
  ·exact hown g (.inl hg)
  ·rcases ht.where_ g hg with h1 | h1
   ·exact hown g (.inr (.inl h1))
   ·have := h.ext.size; exact .inr (by omega)
  ·exact hown g (.inr (.inr hg))
theorem St.sub {G0 : List Nat} {W : World} {mE : Mem} {A B rs : List Res} {w : World} {m : Mem} (h : St G0 W mE (A ++ (rs ++ B)) w m) : Loc (rs.flatMap Res.blocks) w.heap.size rs w m := by
 have hap := h.loc.apart
 simp only [List.flatMap_append] at hap
 rw [List.nodup_append, List.nodup_append] at hap
 exact ⟨fun r hr => h.loc.all r (List.mem_append_right _ (List.mem_append_left _ hr)), hap.2.1.1, fun g hg => .inl hg⟩
def FnR (P : Program) (f : FuncId) (args : Array Value) (rs : List Res) (w : World) (m : Mem) (φ : List Res → Mem → Value → Prop) : Prop :=
 FnG P f args (rs.flatMap Res.blocks) w m fun w' m' v => ∃ rs', Loc (rs.flatMap Res.blocks) w.heap.size rs' w' m' ∧ φ rs' m' v
theorem MTouch.of {rs rs' : List Res} {w w' : World} {m m' : Mem} (hE : ExtG (rs.flatMap Res.blocks) w m w' m') (hL : Loc (rs.flatMap Res.blocks) w.heap.size rs' w' m') : MTouch rs rs' w m w' m' :=
 ⟨hE, hL.all, hL.apart, hL.own⟩
section
variable {P : Program} {rd : Option Nat}
theorem cut_wp {rd : Option Nat} {K1 K2 K : Act → World → Prop} {Q : Exit → Act → World → Prop} {o : Oper} {a : Act} {w : World} (hK : ∀ a w, K1 a w → K2 a w) (h : o.wpIn (z4 rd) 0 P a w K1 (Exit.then K Q)) : o.wpIn (z4 rd) 0 P a w K2 Q := by
 have h := Oper.wpIn_mono hK h
 unfold Oper.wpIn at *
 refine ⟨h.1, ?_⟩
 have h := h.2
 generalize (o.semAt (z4 rd).round a.eval).run P w = r at *
 cases r with
 | ok n w' =>
  cases n <;> first
   | exact h
   | exact ⟨h.1, CallsIn.mono h.2 (fun e w'' h' => by cases e <;> exact h')⟩
   | exact ⟨h.1, RoundIn.mono h.2 (fun e w'' h' => by cases e <;> exact h')⟩
 | halt x w' => cases x <;> exact h
theorem zCO {Q : Exit → Act → World → Prop} {l : List Oper} {a : Act} {w : World} (k : Nat) (hg : (l.all fun o => o.guard.isNone) = true)
  (h : wpOpsIn (z4 rd) 0 P (l.take k).toArray (Exit.then (fun a w => wpOpsIn (z4 rd) 0 P (l.drop k).toArray Q (List.range (l.drop k).length) a w) Q) (List.range (l.take k).length) a w) : wpOpsIn (z4 rd) 0 P l.toArray Q (List.range l.length) a w := by
 have hgn : ∀ o ∈ l, o.guard = none := fun o ho => by simpa using List.all_eq_true.1 hg o ho
 have wantedAll : ∀ o ∈ l, ∀ y, Region.wanted o y = true := fun o ho y => by
  unfold Region.wanted; rw [hgn o ho]
 -- a run over a list that is no longer indexed
 have run : ∀ (l' : List Oper) (hl : ∀ o ∈ l', o ∈ l) (Q' : Exit → Act → World → Prop) (pre : List Oper) (a : Act) (w : World),
   wpOpsIn (z4 rd) 0 P (pre ++ l').toArray Q' (List.range' pre.length l'.length) a w ↔ (l'.foldr (fun o K => fun a w => o.wpIn (z4 rd) 0 P a w K Q') (Q' .normal)) a w := by
  intro l'
  induction l' with
  | nil => intro _ Q' pre a w; simp [wpOpsIn]
  | cons o r ih =>
   intro hl Q' pre a w
   rw [List.length_cons, List.range'_succ, wpOpsIn_cons]
   have hget : (pre ++ o :: r).toArray[pre.length]? = some o := by simp
   unfold wpOpIn
   rw [hget]
   simp only [wantedAll o (hl o (.head _)), if_true, List.foldr_cons]
   have e : ∀ a w, wpOpsIn (z4 rd) 0 P (pre ++ o :: r).toArray Q' (List.range' (pre.length + 1) r.length) a w ↔ (r.foldr (fun o K => fun a w => o.wpIn (z4 rd) 0 P a w K Q') (Q' .normal)) a w := fun a w => by
    have := ih (fun x hx => hl x (.tail _ hx)) Q' (pre ++ [o]) a w
    simpa using this
   have e2 : wpOpsIn (z4 rd) 0 P (pre ++ o :: r).toArray Q' (List.range' (pre.length + 1) r.length) = (r.foldr (fun o K => fun a w => o.wpIn (z4 rd) 0 P a w K Q') (Q' .normal)) := by
    funext a w; exact propext (e a w)
   rw [e2]
 have run0 : ∀ (l' : List Oper) (hl : ∀ o ∈ l', o ∈ l) (Q' : Exit → Act → World → Prop) (a : Act) (w : World),
   wpOpsIn (z4 rd) 0 P l'.toArray Q' (List.range l'.length) a w ↔ (l'.foldr (fun o K => fun a w => o.wpIn (z4 rd) 0 P a w K Q') (Q' .normal)) a w := fun l' hl Q' a w => by
  have := run l' hl Q' [] a w
  simpa [List.range_eq_range'] using this
 rw [run0 _ (fun o ho => List.mem_of_mem_take ho)] at h
 rw [run0 l (fun o ho => ho), ← List.take_append_drop k l, List.foldr_append]
 have e3 : (fun a w => wpOpsIn (z4 rd) 0 P (l.drop k).toArray Q (List.range (l.drop k).length) a w) = (l.drop k).foldr (fun o K => fun a w => o.wpIn (z4 rd) 0 P a w K Q) (Q .normal) := by
  funext a w; exact propext (run0 _ (fun o ho => List.mem_of_mem_drop ho) Q a w)
 have key : ∀ (l' : List Oper) (K : Act → World → Prop) (a : Act) (w : World),
   (l'.foldr (fun o K' => fun a w => o.wpIn (z4 rd) 0 P a w K' (Exit.then K Q)) (Exit.then K Q .normal)) a w → (l'.foldr (fun o K' => fun a w => o.wpIn (z4 rd) 0 P a w K' Q) K) a w := by
  intro l' K
  induction l' with
  | nil => intro a w h; exact h
  | cons o r ih =>
   intro a w h
   simp only [List.foldr_cons] at h ⊢
   exact cut_wp ih h
 have := key (l.take k) _ a w h
 rw [e3] at this
 exact this
theorem z7 {Q : Exit → Act → World → Prop} {id : Nat} {l : List Oper} {a : Act} {w : World} (k : Nat) (hg : (l.all fun o => o.guard.isNone) = true)
  (h : wpOpsIn (z4 rd) 0 P (l.take k).toArray (Exit.then (fun a w => wpOpsIn (z4 rd) 0 P (l.drop k).toArray Q (List.range (l.drop k).length) a w) Q) (List.range (l.take k).length) a w) : (Code.region id l.toArray false).wpIn (z4 rd) 0 P Q a w := by
 refine wpIn_region ?_
 rw [show l.toArray.size = l.length by simp]
 exact zCO k hg h
def evT0 (T : List (Nat × Value)) : Operand → Option Value
 | .tmp t => look T t
 | .const v => some v
 | .global g => some (.pointer (some ⟨g, 0, none⟩))
 | .func f => some (.func (.func f) #[] #[])
theorem evT0_eq {n : FrN} {T : List (Nat × Value)} {a : Act} (h : Fr n T a) {x : Operand} {v : Value} (e : evT0 T x = some v) : zy (zV a) x = v := by
 cases x with
 | tmp t => exact h.at_ t v e
 | const u => injection e
 | global g => injection e
 | func f => injection e
inductive EvTs (T : List (Nat × Value)) : List Operand → List Value → Prop where
 | nil : EvTs T [] []
 | cons {x : Operand} {v : Value} {xs : List Operand} {vs : List Value} (h : evT0 T x = some v) (hs : EvTs T xs vs) : EvTs T (x :: xs) (v :: vs)
theorem EvTs.map {n : FrN} {T : List (Nat × Value)} {a : Act} (h : Fr n T a) {xs : List Operand} {vs : List Value} (hx : EvTs T xs vs) : xs.map (zy (zV a)) = vs := by
 induction hx with
 | nil => rfl
 | cons h1 _ ih => simp [evT0_eq h h1, ih]
theorem Fr.put {n : FrN} {d : Nat} {T : List (Nat × Value)} {a : Act} {v : Value} (h : Fr n T a) (hd : Nat.ble (d + 1) n.n = true) (hl : look T d = none) : Fr n ((d, v) :: T) (a.put (some d) v) := by
 have hd' : d < a.tmps.size := by have := Nat.le_of_ble_eq_true hd; have := h.size; omega
 refine ⟨by rw [zEo]; exact h.defers, by rw [put_size]; exact h.size, fun t u e => ?_⟩
 rw [Z0 hd']
 simp only [look] at e
 cases hb : Nat.beq d t with
 | true => rw [hb] at e; rw [Nat.beq_eq] at hb; simp at e; rw [if_pos hb]; exact e
 | false =>
  rw [hb] at e
  have hne : ¬ d = t := fun e' => by rw [← Nat.beq_eq] at e'; rw [e'] at hb; cases hb
  rw [if_neg hne]; exact h.at_ t u e
theorem call_step {Q : Exit → Act → World → Prop} {n : FrN} {T : List (Nat × Value)} {a : Act} {w : World} {dst : Option Nat} {ty : TypeId} {pos : String} {af : Array Edge} {f : Operand} {fid : FuncId} {cap : List Value} {xs : List Operand} {vs : List Value} {ats : Array TypeId} {R : Value → World → Prop}
  (hfr : Fr n T a) (hf : evT0 T f = some (.func (.func fid) #[] cap.toArray)) (hxs : EvTs T xs vs) (hc : ∀ args w, (callFunc fid args).run P w = .ok (.enter fid args) w)
  (h : Calls P fid (vs ++ cap).toArray w fun e w' => ∃ v, e = .returned v ∧ R v w') (cont : ∀ v w', R v w' → Q .normal (a.put dst v) w') :
  wpOpsIn (z4 rd) 0 P [(⟨dst, .call { callee := .value f, args := xs.toArray, argTypes := ats }, ty, pos, af, none⟩ : Oper)].toArray Q (List.range 1) a w := by
 have hr : List.range 1 = [0] := rfl
 rw [hr, wpOpsIn_cons]
 unfold wpOpIn
 simp only [List.getElem?_toArray, List.getElem?_cons_zero]
 rw [if_pos (by unfold Region.wanted; rfl)]
 refine (ZU (R := R) ?_ fun v w' hv => ?_)
 ·unfold Does
  rw [show (execOp (zy (zV a)) ⟨dst, .call { callee := .value f, args := xs.toArray, argTypes := ats }, ty, pos, af, none⟩).run P w = .ok (.enter fid (vs ++ cap).toArray) w from by
   simp [execOp, resolve, Deferred.ofValue, evT0_eq hfr hf, hxs.map hfr, invoke, hc]]
  exact h
 ·simp only [wpOpsIn]; exact cont v w' hv
theorem zFA {Q : Exit → Act → World → Prop} {n : FrN} {T : List (Nat × Value)} {a : Act} {w : World} {m : Mem} {dst : Option Nat} {ty : TypeId} {pos : String} {af : Array Edge} {f : Operand} {fid : FuncId} {cap : List Value} {xs : List Operand} {vs : List Value} {ats : Array TypeId}
  {G0 : List Nat} {W : World} {mE : Mem} (A B rs : List Res) {φ : List Res → Mem → Value → Prop} (hst : St G0 W mE (A ++ (rs ++ B)) w m) (hfr : Fr n T a) (hf : evT0 T f = some (.func (.func fid) #[] cap.toArray)) (hxs : EvTs T xs vs)
  (hc : ∀ args w, (callFunc fid args).run P w = .ok (.enter fid args) w) (h : FnR P fid (vs ++ cap).toArray rs w m φ)
  (cont : ∀ v w' m' rs', St G0 W mE (A ++ (rs' ++ B)) w' m' → MLe m m' → φ rs' m' v → Q .normal (a.put dst v) w') :
  wpOpsIn (z4 rd) 0 P [(⟨dst, .call { callee := .value f, args := xs.toArray, argTypes := ats }, ty, pos, af, none⟩ : Oper)].toArray Q (List.range 1) a w :=
 call_step (R := fun v w' => ∃ m' rs', St G0 W mE (A ++ (rs' ++ B)) w' m' ∧ MLe m m' ∧ φ rs' m' v) hfr hf hxs hc
  (Calls.mono h fun e w' ⟨v, m', e1, hE, rs', hL, hφ⟩ => ⟨v, e1, m', rs', hst.multi (MTouch.of hE hL), hE.le, hφ⟩) fun v w' ⟨m', rs', h1, h2, h3⟩ => cont v w' m' rs' h1 h2 h3
theorem zq {Q : Exit → Act → World → Prop} {n : FrN} {a : Act} {w : World} {m : Mem} {fin : List Ent} {W : World} {mE : Mem} {G0 : List Nat} {L : List Res} {tch : Tch} {l : List Oper} {T : List (Nat × Value)}
  (hst : St G0 W mE L w m) (hfr : Fr n T a)
  (hchk : chk (zBG l) = true) (htch : zAy (zBG l) tch = true) (hd : zEz n (zBG l) = true)
  (hob : zBJ P (zBG l) G0 W mE m L tch T 0 [] (zBG l) fin)
  (cont : ∀ (a' : Act) (w' : World) (m' : Mem), St G0 W mE (zDd (z3 (zBG l) (zV a')) tch L) w' m' → MLe m m' → FinK n fin T a' m' → Q .normal a' w') :
  wpOpsIn (z4 rd) 0 P l.toArray Q (List.range l.length) a w := by
 have h := zEZ (rd := rd) hst hfr hchk htch hd hob cont
 have hs : (zBG l).toArray.size = l.length := by simp [zBG]
 rw [hs] at h
 exact zCr l Q _ a w h
theorem zAN {r : Res} {w : World} {m : Mem} (h : r.holds w m) (hn : r.blocks.Nodup) : Loc r.blocks w.heap.size [r] w m :=
 ⟨fun x hx => by rw [List.mem_singleton] at hx; subst hx; exact h, by simpa using hn, fun g hg => .inl (by simpa using hg)⟩
theorem zEP (v : Value) : (ZC v).Nodup := by
 unfold ZC; split <;> simp
theorem row_nodup (v : Value) (n size : Nat) (e : TypeId) (xs : List Value) : (Res.row v n size e xs).blocks.Nodup := zEP v
end
end Go.Proofs.Ytnppknioifgdfaa
namespace Go.Proofs.Ytnppknioifgdfaa
set_option linter.all false
open Go.RowKit
def nz : Value → Value
 | .slice _ _ 0 => .slice none 0 0
 | v => v
section
variable {P : Program}
theorem zEt {r : Res} {w w' : World} {m m' : Mem} {o : Option Addr} {n cap size : Nat} {e : TypeId} {xs : List Value} (hc : n ≤ cap) (h : ZR r (.row (.slice o n cap) n size e xs) w m w' m') : ZR r (.row (nz (.slice o n cap)) n size e xs) w m w' m' := by
 cases cap with
 | succ c => exact h
 | zero =>
  obtain rfl : n = 0 := by omega
  exact ⟨h.ext, ⟨h.now.1, .inl ⟨rfl, rfl⟩⟩, List.nodup_nil, fun g hg => by cases hg⟩
theorem zCa {w : World} {m : Mem} {t ty e : TypeId} {i : TypeInfo} {z : Value} {size bytes n k c c0 : Nat} {o A : Option Addr} {olds news : List Value} (ht : P.underlying t = some (.slice e)) (hi : P.info? e = some i) (hz : i.zero = some z)
  (hsize : i.size = size) (hby : i.bytes = bytes) (hzs : z.cells.size = size) (ha : Agree w m) (hr : (Res.row (nz (.slice o n c0)) n size e olds).holds w m)
  (hx : RowAt m A news) (hl : news.length = k * size) (hsz : 0 < size) (h1 : ∀ u ∈ news, u.oneCell' = true) (h63 : n + k ≤ maxLen) (hbytes : (n + k) * bytes ≤ 140737488355328) :
  ∃ o' cap w' m', (Builtin.append_ #[t, t] ty #[.slice o n c0, .slice A k c]).run P w = .ok (.slice o' (n + k) cap) w' ∧ ZR (.row (nz (.slice o n c0)) n size e olds) (.row (nz (.slice o' (n + k) cap)) (n + k) size e (olds ++ news)) w m w' m' ∧ RowAt m' o' (olds ++ news) ∧ n + k ≤ cap := by
 cases c0 with
 | succ c0 =>
  obtain ⟨o', cap, w', m', hrun, ht', hro, hle⟩ := zDR (P := P) (ty := ty) (c := c) ht hi hz hsize hby hzs ha hr hx hl hsz h1 h63 hbytes
  exact ⟨o', cap, w', m', hrun, zEt hle ht', hro, hle⟩
 | zero =>
  have hr0 : (Res.row (.slice none 0 0) n size e olds).holds w m := hr
  have hn0 : n = 0 := by
   rcases hr0.2 with ⟨-, h⟩ | ⟨g, cap, cur, h, _⟩
   ·exact h
   ·cases h
  subst hn0
  have ho : olds = [] := List.eq_nil_of_length_eq_zero (by simpa using hr0.1)
  subst ho
  cases o with
  | none =>
   obtain ⟨o', cap, w', m', hrun, ht', hro, hle⟩ := zDR (P := P) (ty := ty) (c := c) ht hi hz hsize hby hzs ha hr0 hx hl hsz h1 h63 hbytes
   exact ⟨o', cap, w', m', hrun, zEt hle ht', hro, hle⟩
  | some b =>
   by_cases hk : k = 0
   ·subst hk
    obtain rfl : news = [] := List.eq_nil_of_length_eq_zero (by simpa using hl)
    subst hsize
    refine ⟨some b, 0, w, m, ?_, ⟨ExtG.refl _ ha, ⟨by simp, .inl ⟨rfl, rfl⟩⟩, List.nodup_nil, fun g hg => by cases hg⟩, .inl rfl, Nat.le_refl _⟩
    cases A <;> simp [Builtin.append_, run_underlying ht, sizeOf, typeInfo, hi, Builtin.lenOf, Builtin.firstCells, loadCells, loadCellsFrom, storeCells]
   ·subst hsize; subst hby
    have hne : news ≠ [] := fun hh => by
     rw [hh, List.length_nil] at hl
     have := Nat.mul_pos (Nat.pos_of_ne_zero hk) hsz; omega
    obtain ⟨ad, rfl, hcell⟩ : ∃ p, A = some p ∧ CellsAt m p news := by
     rcases hx with h | h
     ·exact absurd h hne
     ·exact h
    have hnews : ∀ j u, news[j]? = some u → w.cell? (ad.add j) = some u := fun j u e => ZM ha hcell e
    have hrun := run_append_grow (P := P) w t ty e i z ht hi hz b 0 0 [] (by simp) (fun j u h => by simp at h) ad k c news hl hnews (by omega) (by simp only [maxLen] at h63; omega) (growslice_fits (by omega) hbytes)
    have hge := grownCap_ge w (0 + k) 0 e
    refine ⟨_, _, _, m.add w.heap.size ([] ++ news).toArray, hrun, zEt hge (Zv (zCt (row_new (w := w.drew) (by simpa using hl) hge (grownCap_le_maxLen w (0 + k) 0 e h63) ?_ ?_ ⟨ha.cell, ha.map⟩)) (by simp [Res.blocks])), .inr ⟨_, rfl, zAE _⟩, hge⟩
    ·simp only [Array.size_append, List.size_toArray, size_zeroCells, hzs, hl, List.length_nil, Nat.zero_add, ← Nat.add_mul]
     have : k ≤ grownCap w k 0 e := by simpa using hge
     congr 1; omega
    ·simp only [Array.toList_append, List.append_assoc, List.nil_append, Nat.zero_add, ← hl]
     simp
variable {K : World → Mem → Prop} {m0 : Mem} {L : List Res} {us : List Nat} {ch : List (Nat × Bool)} {pre : List Ent} {T : List (Nat × Value)}
variable {dst : Option Nat} {ty : TypeId} {pos : String} {af : Array Edge} {gd : Option (Nat × Bool)}
theorem zCk [hK : KC K m0 L] {d : Nat} {t e : TypeId} {i : TypeInfo} {z : Value} {size bytes n k c c0 : Nat} {o A : Option Addr} {olds news : List Value} {x y : Operand} {r : (Nat → Value) → Res} (hv : ev us ch pre T x = some (.slice o n c0)) (hy : ev us ch pre T y = some (.slice A k c))
  (hrr : ∀ σ, r σ = .row (nz (zy σ x)) n size e olds ∨ (r σ = .free ∧ c0 = 0 ∧ n = 0 ∧ olds = []))
  (ht : P.underlying t = some (.slice e)) (hi : P.info? e = some i) (hz : i.zero = some z) (hsize : i.size = size) (hby : i.bytes = bytes) (hzs : z.cells.size = size)
  (hx : ∀ w m, K w m → RowAt m A news) (hl : news.length = k * size) (hsz : 0 < size) (h1 : news.all (·.oneCell') = true) (h63 : n + k ≤ maxLen) (hbytes : (n + k) * bytes ≤ 140737488355328) :
  ObT P K us ch pre T r (fun v' => .row (nz v') (n + k) size e (olds ++ news)) ⟨some d, .call { callee := .builtin .append, args := #[x, y], argTypes := #[t, t] }, ty, pos, af, gd⟩ (.ex (MP.sl (n + k) (olds ++ news))) := fun σ w m hk hr hn => by
 have hrs : (Res.row (nz (.slice o n c0)) n size e olds).holds w m ∧ ∀ g ∈ (Res.row (nz (.slice o n c0)) n size e olds).blocks, g ∈ (r σ).blocks := by
  rcases hrr σ with h | ⟨h, rfl, rfl, rfl⟩
  ·rw [h, hn.ev hv] at hr
   refine ⟨hr, ?_⟩
   rw [h, hn.ev hv]; exact fun g hg => hg
  ·exact ⟨⟨by simp, .inl ⟨rfl, rfl⟩⟩, fun g hg => by cases hg⟩
 obtain ⟨o', cap, w', m', hrun, ht', hro, hle⟩ := zCa (P := P) (ty := ty) (c := c) ht hi hz hsize hby hzs (hK.agree hk) hrs.1 (hx w m hk) hl hsz (fun u hu => List.all_eq_true.1 h1 u hu) h63 hbytes
 have hr2 : (execOp (zy σ) ⟨some d, .call { callee := .builtin .append, args := #[x, y], argTypes := #[t, t] }, ty, pos, af, gd⟩).run P w = .ok (.value (.slice o' (n + k) cap)) w' := by
  simp only [execOp, resolve, List.map_toArray, List.map_cons, List.map_nil, hn.ev hv, hn.ev hy, Sem.run_bind, Sem.run_pure, Result.andThen_ok, invoke, builtin]
  rw [hrun]; rfl
 unfold Does; rw [hr2]
 exact ⟨m', Zv ht' hrs.2, (o', cap), rfl, hro, hle⟩
theorem Zx [hK : KC K m0 L] {t e : TypeId} {sz : Nat} (ht : P.underlying t = some (.slice e)) (hsz : ∀ w, (sizeOf e).run P w = .ok sz w) :
  Ob P K us ch pre T ⟨dst, .buildSlice t 0 #[], ty, pos, af, gd⟩ (.ex (MP.row 0 [])) := fun σ w m hk hn' => by
 have hrun : (execOp (zy σ) ⟨dst, .buildSlice t 0 #[], ty, pos, af, gd⟩).run P w = .ok (.value (.slice (some ⟨w.heap.size, 0, none⟩) 0 0)) (w.alloc (.cells #[] e)) := by
  have : (Instr.buildSlice t 0 #[]).run P w = .ok (.slice (some ⟨w.heap.size, 0, none⟩) 0 0) (w.alloc (.cells #[] e)) := by
   unfold Instr.buildSlice
   simp only [Sem.run_bind, run_underlying ht, Result.andThen_ok, hsz]
   rw [if_neg (by omega), if_pos (by omega)]
   simp only [Sem.run_bind, Result.andThen_ok, Sem.run_pure, Nat.zero_mul, show Array.range 0 = #[] from rfl, Array.map_empty, Instr.fill]
   rfl
  simp only [execOp, Array.map_empty]
  rw [Sem.run_bind, this]; rfl
 unfold Does; rw [hrun]
 exact ⟨_, ext_add (hK.agree hk) #[] e, _, rfl, zAE []⟩
end
class RepR {α : Type} (R : Mem → List Value → α → Prop) : Prop where
 mono : ∀ {m m' : Mem} {vs : List Value} {x : α}, MLe m m' → R m vs x → R m' vs x
 one : ∀ {m : Mem} {vs : List Value} {x : α}, R m vs x → vs.all (·.oneCell') = true
instance : RepR (fun (_ : Mem) vs (x : Str) => vs = [S x]) := ⟨fun _ h => h, fun h => by subst h; rfl⟩
instance : RepR (fun (_ : Mem) vs (x : Int) => vs = [Value.int .i64 x]) := ⟨fun _ h => h, fun h => by subst h; rfl⟩
structure Reads {α : Type} (R : Mem → List Value → α → Prop) (sz : Nat) (m : Mem) (cs : List Value) (xs : List α) : Prop where
 len : cs.length = xs.length * sz
 at_ : ∀ i x, xs[i]? = some x → R m ((cs.drop (i * sz)).take sz) x
 one : cs.all (·.oneCell') = true
section
variable {α : Type} {R : Mem → List Value → α → Prop} {sz : Nat} {m m' : Mem} {o : Option Addr} {n cap : Nat} {xs ys : List α} {cs ds vs : List Value} {x : α}
theorem Reads.mono [hR : RepR R] (h : Reads R sz m cs xs) (hm : MLe m m') : Reads R sz m' cs xs := ⟨h.len, fun i x hx => hR.mono hm (h.at_ i x hx), h.one⟩
theorem Reads.nil : Reads R sz m [] [] := ⟨by simp, fun i x hx => by simp at hx, rfl⟩
theorem Reads.single [hR : RepR R] (hl : vs.length = sz) (h : R m vs x) : Reads R sz m vs [x] := ⟨by simp [hl], fun i y hy => by
 cases i with
 | zero => simp at hy; subst hy; rw [Nat.zero_mul, List.drop_zero, ← hl, List.take_length]; exact h
 | succ i => simp at hy, hR.one h⟩
theorem Reads.app (h : Reads R sz m cs xs) (k : Reads R sz m ds ys) : Reads R sz m (cs ++ ds) (xs ++ ys) := ⟨by rw [List.length_append, List.length_append, h.len, k.len, Nat.add_mul], fun i x hx => by
 rw [List.getElem?_append] at hx
 split at hx
 ·rename_i hi
  have h2 : (i + 1) * sz ≤ xs.length * sz := Nat.mul_le_mul_right _ hi
  rw [Nat.succ_mul] at h2
  rw [List.drop_append_of_le_length (by rw [h.len]; omega), List.take_append_of_le_length (by rw [List.length_drop, h.len]; omega)]
  exact h.at_ i x hx
 ·rename_i hi
  have h2 : xs.length * sz ≤ i * sz := Nat.mul_le_mul_right _ (by omega)
  have h3 : i * sz - xs.length * sz = (i - xs.length) * sz := (Nat.sub_mul _ _ _).symm
  rw [List.drop_append, List.drop_eq_nil_of_le (by rw [h.len]; omega), List.nil_append, h.len, h3]
  exact k.at_ _ x hx, by rw [List.all_append, h.one, k.one]; rfl⟩
theorem Reads.sl (h : Reads R sz m cs xs) (hr : RowAt m o cs) (hsz : 0 < sz) (hn : xs.length = n) (hc : n ≤ cap) (hb : n ≤ 9223372036854775807) : Sl R sz m o n cap xs := by
 refine ⟨hn, hc, hb, fun i x hx => ?_⟩
 have hi : i < xs.length := (List.getElem?_eq_some_iff.1 hx).1
 have h2 : (i + 1) * sz ≤ xs.length * sz := Nat.mul_le_mul_right _ hi
 rw [Nat.succ_mul] at h2
 rcases hr with rfl | ⟨p, rfl, hcl⟩
 ·have := h.len; simp at this; omega
 ·exact ⟨p, _, rfl, (hcl.drop (i * sz)).take sz, by rw [List.length_take, List.length_drop, h.len]; omega, h.at_ i x hx⟩
theorem Sl.reads [hR : RepR R] (h : Sl R sz m o n cap xs) : ∃ cs, RowAt m o cs ∧ Reads R sz m cs xs ∧ cs.length = n * sz := by
 have hlen := h.len
 cases hx0 : xs with
 | nil => subst hx0; exact ⟨[], .inl rfl, Reads.nil, by simp at hlen; subst hlen; simp⟩
 | cons x0 xs0 =>
  have h0 : xs[0]? = some x0 := by rw [hx0]; rfl
  obtain ⟨p, vs0, rfl, hc0, -, -⟩ := h.at_ 0 x0 h0
  rw [← hx0]; clear hx0 h0
  have key : ∀ k, k ≤ xs.length → ∃ cs, CellsAt m p cs ∧ Reads R sz m cs (xs.take k) := by
   intro k
   induction k with
   | zero => intro _; exact ⟨[], ⟨by have := hc0.1; simpa [Addr.add] using this, fun i v e => by simp at e⟩, by rw [List.take_zero]; exact Reads.nil⟩
   | succ k ih =>
    intro hk
    obtain ⟨cs, c1, c2⟩ := ih (by omega)
    obtain ⟨p', vs, e, hc, hl, hv⟩ := h.at_ k xs[k] (List.getElem?_eq_getElem hk)
    injection e with e; subst e
    have hcl : cs.length = k * sz := by rw [c2.len, List.length_take, Nat.min_eq_left (by omega)]
    refine ⟨cs ++ vs, ⟨c1.1, fun i v hv' => ?_⟩, by rw [List.take_succ_eq_append_getElem hk]; exact c2.app (Reads.single hl hv)⟩
    rw [List.getElem?_append] at hv'
    split at hv'
    ·exact c1.2 i v hv'
    ·rename_i hi
     have := hc.2 _ v hv'
     rw [zCV, zEC] at this
     rwa [show p.off + k * sz + (i - cs.length) = p.off + i by omega] at this
  obtain ⟨cs, c1, c2⟩ := key xs.length (Nat.le_refl _)
  rw [List.take_length] at c2
  exact ⟨cs, .inr ⟨p, rfl, c1⟩, c2, by rw [c2.len, hlen]⟩
end
def MP.ints (l : List Int) : MP := MP.mem (fun y : Option Addr × Nat => .slice y.1 l.length y.2) (fun y m => Ints m y.1 l.length y.2 l) fun hm h => h.mono hm
end Go.Proofs.Ytnppknioifgdfaa
namespace Go.Proofs.Ytnppknioifgdfaa
set_option linter.all false
open Go.RowKit
theorem Sl.one {α : Type} {R : Mem → List Value → α → Prop} {sz : Nat} {m : Mem} {p : Addr} {vs : List Value} {x : α} (hc : CellsAt m p vs) (hl : vs.length = sz) (h : R m vs x) : Sl R sz m (some p) 1 1 [x] :=
 ⟨rfl, Nat.le_refl _, by decide, fun i y hy => by
  cases i with
  | zero => simp at hy; subst hy; exact ⟨p, vs, rfl, by rw [Nat.zero_mul]; exact hc, hl, h⟩
  | succ i => simp at hy⟩
theorem Sl.two {α : Type} {R : Mem → List Value → α → Prop} {sz : Nat} {m : Mem} {p : Addr} {vs us : List Value} {x z : α} (hc : CellsAt m p (vs ++ us)) (hl : vs.length = sz) (hl2 : us.length = sz) (h : R m vs x) (h2 : R m us z) : Sl R sz m (some p) 2 2 [x, z] :=
 ⟨rfl, Nat.le_refl _, by decide, fun i y hy => by
  match i with
  | 0 => simp at hy; subst hy; exact ⟨p, vs, rfl, by rw [Nat.zero_mul]; have := hc.take sz; rwa [← hl, List.take_left] at this, hl, h⟩
  | 1 => simp at hy; subst hy; exact ⟨p, us, rfl, by rw [Nat.one_mul]; have := hc.drop sz; rwa [← hl, List.drop_left, hl] at this, hl2, h2⟩
  | i + 2 => simp at hy⟩
theorem Sl.empty {α : Type} {R : Mem → List Value → α → Prop} {sz : Nat} {m : Mem} {o : Option Addr} {c : Nat} : Sl R sz m o 0 c [] := ⟨rfl, Nat.zero_le _, by decide, fun i y hy => by simp at hy⟩
end Go.Proofs.Ytnppknioifgdfaa
namespace Go.Proofs.Ytnppknioifgdfaa
set_option linter.all false
open Go.RowKit
end Go.Proofs.Ytnppknioifgdfaa
namespace Go.Proofs.Ytnppknioifgdfaa
set_option linter.all false
open Go.RowKit
theorem mBlock_nodup (v : Value) : (Z3 v).Nodup := by
 unfold Z3; split <;> simp
theorem zEj (v : Value) (n size : Nat) (e : TypeId) (xs : List Value) : (Res.mrow v n size e xs).blocks.Nodup := mBlock_nodup v
theorem zDm {g n cap : Nat} (h : 0 < cap) : Z3 (.slice (some ⟨g, 0, none⟩) n cap) = [g] := by
 cases cap with
 | zero => omega
 | succ c => rfl
theorem mrow_write {w w' : World} {m : Mem} {g n cap n' size : Nat} {e : TypeId} {xs ys : List Value} {cur cur' : Array Value} (ha : Agree w m) (h0 : 0 < cap) (hc : cap ≤ maxLen) (hh : w.heap[g]? = some (.cells cur e (0, 0))) (hm : ∀ off, m g off = none)
  (hn : n' ≤ cap) (hys : ys.length = n' * size) (hh' : w'.heap[g]? = some (.cells cur' e (0, 0))) (hs : cur'.size = cap * size) (ht : cur'.toList.take (n' * size) = ys)
  (hos : w'.os = w.os) (htp : w'.tape = w.tape) (hout : w'.output = w.output) (hsz : w.heap.size ≤ w'.heap.size) (hb : ∀ b, b < w.heap.size → b ≠ g → w'.heap[b]? = w.heap[b]?) :
  ZR (.mrow (.slice (some ⟨g, 0, none⟩) n cap) n size e xs) (.mrow (.slice (some ⟨g, 0, none⟩) n' cap) n' size e ys) w m w' m := by
 have hg : g < w.heap.size := ZW hh
 refine ⟨⟨hos, htp, hout, hsz, fun b hb1 hb2 => hb b hb1 (fun e => hb2 (by simp only [Res.blocks, zDm h0, List.mem_singleton]; exact e)), ⟨fun b o u hu => ?_, fun b es he => ?_⟩, MLe.refl _, fun _ _ _ => ⟨rfl, rfl⟩⟩,
  ⟨hys, _, cap, rfl, hn, hc, .inr ⟨g, cur', rfl, hh', hs, ht, hm⟩⟩, zEj _ _ _ _ _, fun b hb' => .inl (by simp only [Res.blocks, zDm h0] at hb' ⊢; exact hb')⟩
 ·have hne : b ≠ g := fun e => by subst e; rw [hm o] at hu; cases hu
  have h1 := ha.cell b o u hu
  rw [World.cell?_of_block (hb b (zBg h1) hne)]; exact h1
 ·have h1 := ha.map b es he
  have hne : b ≠ g := fun e => by subst e; rw [hh] at h1; cases h1
  exact (hb b (ZW h1) hne).trans h1
theorem mrow_freeze {w : World} {m : Mem} {v : Value} {n size : Nat} {e : TypeId} {xs : List Value} (ha : Agree w m) (h : (Res.mrow v n size e xs).holds w m) :
  ∃ m', ZR (.mrow v n size e xs) (.row (nz v) n size e xs) w m w m' ∧ ∃ o cap, v = .slice o n cap ∧ n ≤ cap ∧ cap ≤ maxLen ∧ RowAt m' o xs := by
 obtain ⟨hl, o, cap, rfl, h1, h2, h3⟩ := h
 cases cap with
 | zero =>
  obtain rfl : n = 0 := by omega
  obtain rfl : xs = [] := List.eq_nil_of_length_eq_zero (by simpa using hl)
  exact ⟨m, ⟨ExtG.refl _ ha, ⟨by simp, .inl ⟨rfl, rfl⟩⟩, List.nodup_nil, fun g hg => by cases hg⟩, o, 0, rfl, h1, h2, .inl rfl⟩
 | succ c =>
  rcases h3 with h3 | ⟨g, cur, rfl, hh, h4, h5, h6⟩
  ·cases h3
  ·have hg : g < w.heap.size := ZW hh
   have hag : Agree w (m.add g xs.toArray) := ⟨fun b o u hu => by
    change (if b = g then xs.toArray[o]? else m b o) = some u at hu
    split at hu
    ·rename_i hb; subst hb
     unfold World.cell?; simp only [hh]
     rw [← h5] at hu
     simp only [List.getElem?_toArray, List.getElem?_take] at hu
     split at hu
     ·simpa using hu
     ·cases hu
    ·exact ha.cell b o u hu, ha.map⟩
   have hle : MLe m (m.add g xs.toArray) := ⟨fun b o u hu => by
    show (if b = g then xs.toArray[o]? else m b o) = some u
    split
    ·rename_i hb; subst hb; rw [h6 o] at hu; cases hu
    ·exact hu, fun _ _ h => h⟩
   refine ⟨m.add g xs.toArray, ⟨⟨rfl, rfl, rfl, Nat.le_refl _, fun _ _ _ => rfl, hag, hle, fun b _ hb => ⟨by funext o; show (if b = g then xs.toArray[o]? else m b o) = m b o; rw [if_neg (fun e => hb (by simp [Res.blocks, Z3, e]))], rfl⟩⟩,
    ⟨hl, .inr ⟨g, c + 1, cur, rfl, hh, h1, h2, h4, h5, fun o u hu => by simp only [Mem.add, if_true, List.getElem?_toArray]; exact hu, fun off ho => by simp only [Mem.add, if_true, List.getElem?_toArray]; exact List.getElem?_eq_none (by omega)⟩⟩, row_nodup _ _ _ _ _, fun b hb => .inl (by simpa [Res.blocks, nz, ZC, Z3] using hb)⟩,
    _, c + 1, rfl, h1, h2, .inr ⟨_, rfl, rfl, fun i u hu => by simp only [Mem.add, if_true, List.getElem?_toArray, Nat.zero_add]; exact hu⟩⟩
theorem Sl.lenL {α : Type} {R : Mem → List Value → α → Prop} {sz : Nat} {m : Mem} {o : Option Addr} {n cap : Nat} {xs : List α} (h : Sl R sz m o n cap xs) : Sl R sz m o xs.length cap xs := by have e := h.len; subst e; exact h
section
variable {P : Program} {K : World → Mem → Prop} {m0 : Mem} {L : List Res} {us : List Nat} {ch : List (Nat × Bool)} {pre : List Ent} {T : List (Nat × Value)}
variable {dst : Option Nat} {ty : TypeId} {pos : String} {af : Array Edge} {gd : Option (Nat × Bool)}
def MP.made' (n : Nat) : MP := MP.mem (fun y : Option Addr × Nat => .slice y.1 n y.2) (fun y _ => n ≤ y.2) fun _ h => h
theorem mrow_new {w w' : World} {m : Mem} {e : TypeId} {size n cap : Nat} {xs : List Value} {cur : Array Value} (ha : Agree w m) (hlen : xs.length = n * size) (hnc : n ≤ cap) (hcm : cap ≤ maxLen) (hcs : cur.size = cap * size) (ht : cur.toList.take (n * size) = xs)
  (hb : Below w.heap.size w w') {g : Nat} (hg : w.heap.size ≤ g) (hh : w'.heap[g]? = some (.cells cur e (0, 0))) : ZR .free (.mrow (.slice (some ⟨g, 0, none⟩) n cap) n size e xs) w m w' m :=
 ⟨(ExtG.of_below ha hb).mono (by simp), ⟨hlen, _, cap, rfl, hnc, hcm, .inr ⟨g, cur, rfl, hh, hcs, ht, fun off => zBZ ha hg off⟩⟩, zEj _ _ _ _ _, fun b hb => by
  cases cap with
  | zero => cases hb
  | succ c => simp only [Res.blocks, Z3, List.mem_singleton] at hb; subst hb; exact .inr hg⟩
end
end Go.Proofs.Ytnppknioifgdfaa
namespace Go.Proofs.Ytnppknioifgdfaa
set_option linter.all false
open Go.RowKit
mutual
/-- Code aZ a tree. -/
inductive Cd where
 | mk (kind : Int) (name param : Str) (n : Int) (kids : List Cd) (arms : List Ca)
inductive Ca where
 | mk (name : Str) (vars : List Str) (tail : Bool) (body : Cd)
end
def Cd.kind : Cd → Int | ⟨k, _, _, _, _, _⟩ => k
def Cd.name : Cd → Str | ⟨_, s, _, _, _, _⟩ => s
def Cd.param : Cd → Str | ⟨_, _, p, _, _, _⟩ => p
def Cd.n : Cd → Int | ⟨_, _, _, n, _, _⟩ => n
def Cd.kids : Cd → List Cd | ⟨_, _, _, _, ks, _⟩ => ks
def Cd.arms : Cd → List Ca | ⟨_, _, _, _, _, aZ⟩ => aZ
def Ca.name : Ca → Str | ⟨s, _, _, _⟩ => s
def Ca.vars : Ca → List Str | ⟨_, l, _, _⟩ => l
def Ca.tail : Ca → Bool | ⟨_, _, t, _⟩ => t
def Ca.body : Ca → Cd | ⟨_, _, _, b⟩ => b
theorem Cd.kid_lt {t u : Cd} (h : u ∈ t.kids) : SizeOf.sizeOf u < SizeOf.sizeOf t := by
 obtain ⟨k, s, p, n, ks, aZ⟩ := t
 have := List.sizeOf_lt_of_mem h
 simp only [Cd.kids] at this
 simp only [Cd.mk.sizeOf_spec]; omega
theorem Cd.arm_lt {t : Cd} {a : Ca} (h : a ∈ t.arms) : SizeOf.sizeOf a.body < SizeOf.sizeOf t := by
 obtain ⟨k, s, p, n, ks, aZ⟩ := t
 have := List.sizeOf_lt_of_mem h
 obtain ⟨s, l, tl, b⟩ := a
 simp only [Cd.arms, Ca.mk.sizeOf_spec] at this
 simp only [Cd.mk.sizeOf_spec, Ca.body]; omega
theorem Cd.rec_ {p : Cd → Prop} (h : ∀ t, (∀ u ∈ t.kids, p u) → (∀ a ∈ t.arms, p a.body) → p t) (t : Cd) : p t := h t (fun u hu => Cd.rec_ h u) (fun a ha => Cd.rec_ h a.body)
termination_by SizeOf.sizeOf t
decreasing_by
 ·exact Cd.kid_lt hu
 ·exact Cd.arm_lt ha
structure CdY where
 o1 : Option Addr
 c1 : Nat
 o2 : Option Addr
 c2 : Nat
abbrev cdV (t : Cd) (y : CdY) : List Value := [.int .i64 t.kind, S t.name, S t.param, .int .i64 t.n, .slice y.o1 t.kids.length y.c1, .slice y.o2 t.arms.length y.c2]
mutual
/-- These cells are the code's. -/
def CdR (m : Mem) : Cd → List Value → Prop
 | ⟨k, s, p, n, ks, aZ⟩, vs => ∃ y : CdY, vs = cdV ⟨k, s, p, n, ks, aZ⟩ y ∧ (zo k ∧ zo n) ∧ (ks.length ≤ y.c1 ∧ ks.length ≤ 9223372036854775807) ∧ (aZ.length ≤ y.c2 ∧ aZ.length ≤ 9223372036854775807) ∧ CdRs m y.o1 0 ks ∧ CaRs m y.o2 0 aZ
def CdRs (m : Mem) (o : Option Addr) : Nat → List Cd → Prop
 | _, [] => True
 | i, t :: ts => (∃ p vs, o = some p ∧ CellsAt m (p.add (i * 6)) vs ∧ CdR m t vs) ∧ CdRs m o (i + 1) ts
def CaRs (m : Mem) (o : Option Addr) : Nat → List Ca → Prop
 | _, [] => True
 | i, ⟨s, l, t, b⟩ :: ts => (∃ p vs, o = some p ∧ CellsAt m (p.add (i * 9)) vs ∧ ∃ oa ca bs, vs = S s :: .slice oa l.length ca :: .bool t :: bs ∧ Strs m oa l.length ca l ∧ CdR m b bs) ∧ CaRs m o (i + 1) ts
end
def CaR (m : Mem) (a : Ca) (vs : List Value) : Prop := ∃ o c bs, vs = S a.name :: .slice o a.vars.length c :: .bool a.tail :: bs ∧ Strs m o a.vars.length c a.vars ∧ CdR m a.body bs
abbrev Cds (m : Mem) (o : Option Addr) (n c : Nat) (l : List Cd) : Prop := Sl (fun m vs t => CdR m t vs) 6 m o n c l
abbrev Cas (m : Mem) (o : Option Addr) (n c : Nat) (l : List Ca) : Prop := Sl (fun m vs t => CaR m t vs) 9 m o n c l
theorem CdRs.at_ {m : Mem} {o : Option Addr} : ∀ {ts : List Cd} {i j : Nat} {t : Cd}, CdRs m o i ts → ts[j]? = some t → ∃ p vs, o = some p ∧ CellsAt m (p.add ((i + j) * 6)) vs ∧ CdR m t vs
 | [], _, _, _, _, h => by simp at h
 | t :: ts, i, 0, t', h, e => by
  simp only [List.getElem?_cons_zero, Option.some.injEq] at e; subst e
  simp only [CdRs] at h; exact h.1
 | t :: ts, i, j + 1, t', h, e => by
  simp only [CdRs] at h
  obtain ⟨p, vs, h1, h2, h3⟩ := CdRs.at_ (i := i + 1) h.2 (by simpa using e)
  exact ⟨p, vs, h1, by rw [show i + (j + 1) = i + 1 + j by omega]; exact h2, h3⟩
theorem CaRs.at_ {m : Mem} {o : Option Addr} : ∀ {ts : List Ca} {i j : Nat} {t : Ca}, CaRs m o i ts → ts[j]? = some t → ∃ p vs, o = some p ∧ CellsAt m (p.add ((i + j) * 9)) vs ∧ CaR m t vs
 | [], _, _, _, _, h => by simp at h
 | ⟨s, l, tl, b⟩ :: ts, i, 0, t', h, e => by
  simp only [List.getElem?_cons_zero, Option.some.injEq] at e; subst e
  simp only [CaRs] at h; exact h.1
 | ⟨s, l, tl, b⟩ :: ts, i, j + 1, t', h, e => by
  simp only [CaRs] at h
  obtain ⟨p, vs, h1, h2, h3⟩ := CaRs.at_ (i := i + 1) h.2 (by simpa using e)
  exact ⟨p, vs, h1, by rw [show i + (j + 1) = i + 1 + j by omega]; exact h2, h3⟩
theorem CdR.unfold {m : Mem} {t : Cd} {vs : List Value} (h : CdR m t vs) : ∃ y : CdY, vs = cdV t y ∧ (zo t.kind ∧ zo t.n) ∧ (t.kids.length ≤ y.c1 ∧ t.kids.length ≤ 9223372036854775807) ∧ (t.arms.length ≤ y.c2 ∧ t.arms.length ≤ 9223372036854775807) ∧ CdRs m y.o1 0 t.kids ∧ CaRs m y.o2 0 t.arms := by
 obtain ⟨k, s, p, n, ks, aZ⟩ := t
 simp only [CdR] at h; exact h
theorem CdR.len {m : Mem} {t : Cd} {vs : List Value} (h : CdR m t vs) : vs.length = 6 := by
 obtain ⟨y, rfl, _⟩ := h.unfold; rfl
theorem CdR.one {m : Mem} {t : Cd} {vs : List Value} (h : CdR m t vs) : vs.all (·.oneCell') = true := by
 obtain ⟨y, rfl, h1, _⟩ := h.unfold; rfl
theorem CaR.len {m : Mem} {t : Ca} {vs : List Value} (h : CaR m t vs) : vs.length = 9 := by
 obtain ⟨o, c, bs, rfl, _, hb⟩ := h; simp [hb.len]
theorem CaR.one {m : Mem} {t : Ca} {vs : List Value} (h : CaR m t vs) : vs.all (·.oneCell') = true := by
 obtain ⟨o, c, bs, rfl, _, hb⟩ := h
 simp only [List.all_cons, hb.one, Bool.and_true]; rfl
theorem CdR.open_ {m : Mem} {t : Cd} {vs : List Value} (h : CdR m t vs) : ∃ y : CdY, vs = cdV t y ∧ (zo t.kind ∧ zo t.n) ∧ Cds m y.o1 t.kids.length y.c1 t.kids ∧ Cas m y.o2 t.arms.length y.c2 t.arms := by
 obtain ⟨y, e, h1, h2, h3, h5, h6⟩ := h.unfold
 exact ⟨y, e, h1, ⟨rfl, h2.1, h2.2, fun i x hx => by
  obtain ⟨p, vs, e1, e2, e3⟩ := CdRs.at_ h5 hx
  exact ⟨p, vs, e1, by rw [Nat.zero_add] at e2; exact e2, e3.len, e3⟩⟩, ⟨rfl, h3.1, h3.2, fun i x hx => by
  obtain ⟨p, vs, e1, e2, e3⟩ := CaRs.at_ h6 hx
  exact ⟨p, vs, e1, by rw [Nat.zero_add] at e2; exact e2, e3.len, e3⟩⟩⟩
mutual
theorem CdR.mono {m m' : Mem} (hm : MLe m m') : ∀ {t : Cd} {vs : List Value}, CdR m t vs → CdR m' t vs
 | ⟨k, s, p, n, ks, aZ⟩, vs, h => by
  simp only [CdR] at h ⊢
  obtain ⟨y, e, h1, h2, h3, h5, h6⟩ := h
  exact ⟨y, e, h1, h2, h3, CdRs.mono hm h5, CaRs.mono hm h6⟩
theorem CdRs.mono {m m' : Mem} (hm : MLe m m') {o : Option Addr} : ∀ {ts : List Cd} {i : Nat}, CdRs m o i ts → CdRs m' o i ts
 | [], _, _ => by simp [CdRs]
 | t :: ts, i, h => by
  simp only [CdRs] at h ⊢
  obtain ⟨⟨p, vs, e1, e2, e3⟩, h2⟩ := h
  exact ⟨⟨p, vs, e1, e2.mono hm, CdR.mono hm e3⟩, CdRs.mono hm h2⟩
theorem CaRs.mono {m m' : Mem} (hm : MLe m m') {o : Option Addr} : ∀ {ts : List Ca} {i : Nat}, CaRs m o i ts → CaRs m' o i ts
 | [], _, _ => by simp [CaRs]
 | ⟨s, l, tl, b⟩ :: ts, i, h => by
  simp only [CaRs] at h ⊢
  obtain ⟨⟨p, vs, e1, e2, oa, ca, bs, e3, e4, e5⟩, h2⟩ := h
  exact ⟨⟨p, vs, e1, e2.mono hm, oa, ca, bs, e3, e4.mono hm, CdR.mono hm e5⟩, CaRs.mono hm h2⟩
end
theorem CaR.mono {m m' : Mem} {a : Ca} {vs : List Value} (h : CaR m a vs) (hm : MLe m m') : CaR m' a vs := by
 obtain ⟨o, c, bs, e, h1, h2⟩ := h; exact ⟨o, c, bs, e, h1.mono hm, h2.mono hm⟩
theorem CaR.open_ {m : Mem} {a : Ca} {vs : List Value} (h : CaR m a vs) : ∃ o c bs, vs = S a.name :: .slice o a.vars.length c :: .bool a.tail :: bs ∧ Strs m o a.vars.length c a.vars ∧ CdR m a.body bs := h
theorem Cds.mono {m m' : Mem} {o : Option Addr} {n c : Nat} {l : List Cd} (h : Cds m o n c l) (hm : MLe m m') : Cds m' o n c l := Sl.mono h (fun _ _ e => e.mono hm) hm
theorem Cas.mono {m m' : Mem} {o : Option Addr} {n c : Nat} {l : List Ca} (h : Cas m o n c l) (hm : MLe m m') : Cas m' o n c l := Sl.mono h (fun _ _ e => e.mono hm) hm
instance : RepR (fun m vs t => CdR m t vs) := ⟨fun hm h => h.mono hm, fun h => h.one⟩
instance : RepR (fun m vs t => CaR m t vs) := ⟨fun hm h => h.mono hm, fun h => h.one⟩
theorem CdR.build {m : Mem} {t : Cd} {y : CdY} (h1 : zo t.kind) (h2 : zo t.n) (hk : Cds m y.o1 t.kids.length y.c1 t.kids) (ha : Cas m y.o2 t.arms.length y.c2 t.arms) : CdR m t (cdV t y) := by
 obtain ⟨k, s, p, n, ks, aZ⟩ := t
 simp only [Cd.kids, Cd.arms] at hk ha
 simp only [CdR]
 refine ⟨y, rfl, ⟨h1, h2⟩, ⟨hk.cap, hk.big⟩, ⟨ha.cap, ha.big⟩, ?_, ?_⟩
 ·have key : ∀ (ts : List Cd) (i : Nat), (∀ j t, ts[j]? = some t → ks[i + j]? = some t) → CdRs m y.o1 i ts := by
   intro ts
   induction ts with
   | nil => intro i _; simp [CdRs]
   | cons t ts ih =>
    intro i hi
    simp only [CdRs]
    obtain ⟨p, vs, e1, e2, _, e3⟩ := hk.at_ i t (by simpa using hi 0 t rfl)
    exact ⟨⟨p, vs, e1, e2, e3⟩, ih (i + 1) fun j u hj => by have := hi (j + 1) u (by simpa using hj); rw [show i + 1 + j = i + (j + 1) by omega]; exact this⟩
  exact key ks 0 fun j t hj => by rw [Nat.zero_add]; exact hj
 ·have key : ∀ (ts : List Ca) (i : Nat), (∀ j t, ts[j]? = some t → aZ[i + j]? = some t) → CaRs m y.o2 i ts := by
   intro ts
   induction ts with
   | nil => intro i _; simp [CaRs]
   | cons t ts ih =>
    intro i hi
    obtain ⟨p, vs, e1, e2, _, e3⟩ := ha.at_ i t (by simpa using hi 0 t rfl)
    obtain ⟨s, l, tl, b⟩ := t
    simp only [CaRs]
    exact ⟨⟨p, vs, e1, e2, e3⟩, ih (i + 1) fun j u hj => by have := hi (j + 1) u (by simpa using hj); rw [show i + 1 + j = i + (j + 1) by omega]; exact this⟩
  exact key aZ 0 fun j t hj => by rw [Nat.zero_add]; exact hj
def MP.cd (t : Cd) : MP := MP.mem (fun y : CdY => .agg (cdV t y).toArray) (fun y m => CdR m t (cdV t y)) fun hm h => h.mono hm
end Go.Proofs.Ytnppknioifgdfaa
namespace Go.Proofs.Ytnppknioifgdfaa
set_option linter.all false
set_option maxRecDepth 4000
open Go.RowKit
mutual
/-- A value of the machine; `clo` and `fs` of a function (no closure, no frames: of none). -/
inductive Vl where
 | mk (kind n : Int) (name : Str) (kids : List Vl) (clo : Clo) (fs : List Fm)
inductive Clo where
 | none
 | mk (self param : Str) (body : Cd) (e : Env)
inductive Env where
 | nil
 | cons (name : Str) (v : Vl) (next : Env)
inductive Fm where
 | bound (quiet : Bool) (name : Str) (c : Cd) (e : Env)
 | prompt (effect : Str) (arms : List Ca) (e : Env) (marker : Int)
 | restore (all : Ev) (more : Int)
inductive Ev where
 | nil
 | cons (effect : Str) (marker : Int) (arms : List Ca) (e : Env) (outside : Ev)
end
def Vl.kind : Vl → Int | ⟨k, _, _, _, _, _⟩ => k
def Vl.n : Vl → Int | ⟨_, n, _, _, _, _⟩ => n
def Vl.name : Vl → Str | ⟨_, _, s, _, _, _⟩ => s
def Vl.kids : Vl → List Vl | ⟨_, _, _, l, _, _⟩ => l
def Vl.clo : Vl → Clo | ⟨_, _, _, _, f, _⟩ => f
def Vl.fs : Vl → List Fm | ⟨_, _, _, _, _, l⟩ => l
def Ev.len : Ev → Nat | .nil => 0 | .cons _ _ _ _ o => o.len + 1
structure VlY where
 o1 : Option Addr
 c1 : Nat
 p : Option Addr
 o2 : Option Addr
 c2 : Nat
abbrev vlV (v : Vl) (y : VlY) : List Value := [.int .i64 v.kind, .int .i64 v.n, S v.name, .slice none 0 0, .slice y.o1 v.kids.length y.c1, .pointer y.p, .slice y.o2 v.fs.length y.c2]
mutual
def VlR (m : Mem) : Vl → List Value → Prop
 | ⟨k, n, s, ks, f, fs⟩, vs => ∃ y : VlY, vs = vlV ⟨k, n, s, ks, f, fs⟩ y ∧ (zo k ∧ zo n) ∧ (ks.length ≤ y.c1 ∧ ks.length ≤ 9223372036854775807) ∧ (fs.length ≤ y.c2 ∧ fs.length ≤ 9223372036854775807) ∧ (fs = [] → y.o2 = none) ∧ VlRs m y.o1 0 ks ∧ CloR m f y.p ∧ FmRs m y.o2 0 fs
def VlRs (m : Mem) (o : Option Addr) : Nat → List Vl → Prop
 | _, [] => True
 | i, v :: l => (∃ p vs, o = some p ∧ CellsAt m (p.add (i * 7)) vs ∧ VlR m v vs) ∧ VlRs m o (i + 1) l
def CloR (m : Mem) : Clo → Option Addr → Prop
 | .none, p => p = none
 | .mk s q b e, p => ∃ a bs pe, p = some a ∧ CellsAt m a (S s :: S q :: (bs ++ [.pointer pe])) ∧ CdR m b bs ∧ EnvR m e pe
def EnvR (m : Mem) : Env → Option Addr → Prop
 | .nil, p => p = none
 | .cons s v e, p => ∃ a vs pe, p = some a ∧ CellsAt m a (S s :: (vs ++ [.pointer pe])) ∧ VlR m v vs ∧ EnvR m e pe
def FmR (m : Mem) : Fm → Value → Prop
 | .bound q s c e, x => ∃ cs pe, x = .iface 108 (.agg (.bool q :: S s :: (cs ++ [.pointer pe])).toArray) ∧ CdR m c cs ∧ EnvR m e pe
 | .prompt s l e k, x => ∃ o c pe, x = .iface 127 (.agg #[S s, .slice o l.length c, .pointer pe, .int .i64 k]) ∧ zo k ∧ Cas m o l.length c l ∧ EnvR m e pe
 | .restore v n, x => ∃ p, x = .iface 130 (.agg #[.pointer p, .int .i64 n]) ∧ zo n ∧ EvR m v p
def FmRs (m : Mem) (o : Option Addr) : Nat → List Fm → Prop
 | _, [] => True
 | i, f :: l => (∃ p x, o = some p ∧ CellsAt m (p.add (i * 1)) [x] ∧ FmR m f x) ∧ FmRs m o (i + 1) l
def EvR (m : Mem) : Ev → Option Addr → Prop
 | .nil, p => p = none
 | .cons s k l e o, p => ∃ a oa ca pe po, p = some a ∧ CellsAt m a [S s, .int .i64 k, S s, .slice oa l.length ca, .pointer pe, .pointer po, .int .i64 ((o.len + 1 : Nat) : Int)] ∧ zo k ∧ Cas m oa l.length ca l ∧ EnvR m e pe ∧ EvR m o po
end
abbrev Vls (m : Mem) (o : Option Addr) (n c : Nat) (l : List Vl) : Prop := Sl (fun m vs v => VlR m v vs) 7 m o n c l
def FmC (m : Mem) (vs : List Value) (f : Fm) : Prop := ∃ x, vs = [x] ∧ FmR m f x
abbrev Fms (m : Mem) (o : Option Addr) (n c : Nat) (l : List Fm) : Prop := Sl (fun m vs f => FmC m vs f) 1 m o n c l
mutual
theorem VlR.mono {m m' : Mem} (hm : MLe m m') : ∀ {v : Vl} {vs : List Value}, VlR m v vs → VlR m' v vs
 | ⟨k, n, s, ks, f, fs⟩, vs, h => by
  simp only [VlR] at h ⊢
  obtain ⟨y, e, h1, h2, h3, h3n, h4, h5, h6⟩ := h
  exact ⟨y, e, h1, h2, h3, h3n, VlRs.mono hm h4, CloR.mono hm h5, FmRs.mono hm h6⟩
theorem VlRs.mono {m m' : Mem} (hm : MLe m m') {o : Option Addr} : ∀ {l : List Vl} {i : Nat}, VlRs m o i l → VlRs m' o i l
 | [], _, _ => by simp [VlRs]
 | v :: l, i, h => by
  simp only [VlRs] at h ⊢
  obtain ⟨⟨p, vs, e1, e2, e3⟩, h2⟩ := h
  exact ⟨⟨p, vs, e1, e2.mono hm, VlR.mono hm e3⟩, VlRs.mono hm h2⟩
theorem CloR.mono {m m' : Mem} (hm : MLe m m') : ∀ {f : Clo} {p : Option Addr}, CloR m f p → CloR m' f p
 | .none, p, h => by simp only [CloR] at h ⊢; exact h
 | .mk s q b e, p, h => by
  simp only [CloR] at h ⊢
  obtain ⟨a, bs, pe, e1, e2, e3, e4⟩ := h
  exact ⟨a, bs, pe, e1, e2.mono hm, e3.mono hm, EnvR.mono hm e4⟩
theorem EnvR.mono {m m' : Mem} (hm : MLe m m') : ∀ {e : Env} {p : Option Addr}, EnvR m e p → EnvR m' e p
 | .nil, p, h => by simp only [EnvR] at h ⊢; exact h
 | .cons s v e, p, h => by
  simp only [EnvR] at h ⊢
  obtain ⟨a, vs, pe, e1, e2, e3, e4⟩ := h
  exact ⟨a, vs, pe, e1, e2.mono hm, VlR.mono hm e3, EnvR.mono hm e4⟩
theorem FmR.mono {m m' : Mem} (hm : MLe m m') : ∀ {f : Fm} {x : Value}, FmR m f x → FmR m' f x
 | .bound q s c e, x, h => by
  simp only [FmR] at h ⊢
  obtain ⟨cs, pe, e1, e2, e3⟩ := h
  exact ⟨cs, pe, e1, e2.mono hm, EnvR.mono hm e3⟩
 | .prompt s l e k, x, h => by
  simp only [FmR] at h ⊢
  obtain ⟨o, c, pe, e1, e2, e3, e4⟩ := h
  exact ⟨o, c, pe, e1, e2, e3.mono hm, EnvR.mono hm e4⟩
 | .restore v n, x, h => by
  simp only [FmR] at h ⊢
  obtain ⟨p, e1, e2, e3⟩ := h
  exact ⟨p, e1, e2, EvR.mono hm e3⟩
theorem FmRs.mono {m m' : Mem} (hm : MLe m m') {o : Option Addr} : ∀ {l : List Fm} {i : Nat}, FmRs m o i l → FmRs m' o i l
 | [], _, _ => by simp [FmRs]
 | f :: l, i, h => by
  simp only [FmRs] at h ⊢
  obtain ⟨⟨p, x, e1, e2, e3⟩, h2⟩ := h
  exact ⟨⟨p, x, e1, e2.mono hm, FmR.mono hm e3⟩, FmRs.mono hm h2⟩
theorem EvR.mono {m m' : Mem} (hm : MLe m m') : ∀ {v : Ev} {p : Option Addr}, EvR m v p → EvR m' v p
 | .nil, p, h => by simp only [EvR] at h ⊢; exact h
 | .cons s k l e o, p, h => by
  simp only [EvR] at h ⊢
  obtain ⟨a, oa, ca, pe, po, e1, e2, e3, e4, e5, e6⟩ := h
  exact ⟨a, oa, ca, pe, po, e1, e2.mono hm, e3, e4.mono hm, EnvR.mono hm e5, EvR.mono hm e6⟩
end
theorem FmC.mono {m m' : Mem} {f : Fm} {vs : List Value} (h : FmC m vs f) (hm : MLe m m') : FmC m' vs f := by obtain ⟨x, e, h⟩ := h; exact ⟨x, e, FmR.mono hm h⟩
theorem FmC.one {m : Mem} {f : Fm} {vs : List Value} (h : FmC m vs f) : vs.all (·.oneCell') = true := by
 obtain ⟨x, rfl, h⟩ := h
 cases f with
 | bound q s c e => simp only [FmR] at h; obtain ⟨cs, pe, rfl, _⟩ := h; rfl
 | prompt s l e k => simp only [FmR] at h; obtain ⟨o, c, pe, rfl, _⟩ := h; rfl
 | restore v n => simp only [FmR] at h; obtain ⟨p, rfl, _⟩ := h; rfl
theorem VlR.unfold {m : Mem} {v : Vl} {vs : List Value} (h : VlR m v vs) : ∃ y : VlY, vs = vlV v y ∧ (zo v.kind ∧ zo v.n) ∧ (v.kids.length ≤ y.c1 ∧ v.kids.length ≤ 9223372036854775807) ∧ (v.fs.length ≤ y.c2 ∧ v.fs.length ≤ 9223372036854775807) ∧ (v.fs = [] → y.o2 = none) ∧ VlRs m y.o1 0 v.kids ∧ CloR m v.clo y.p ∧ FmRs m y.o2 0 v.fs := by
 obtain ⟨k, n, s, ks, f, fs⟩ := v
 simp only [VlR] at h; exact h
theorem VlR.len {m : Mem} {v : Vl} {vs : List Value} (h : VlR m v vs) : vs.length = 7 := by obtain ⟨y, rfl, _⟩ := h.unfold; rfl
theorem VlR.one {m : Mem} {v : Vl} {vs : List Value} (h : VlR m v vs) : vs.all (·.oneCell') = true := by obtain ⟨y, rfl, _⟩ := h.unfold; rfl
theorem VlRs.at_ {m : Mem} {o : Option Addr} : ∀ {l : List Vl} {i j : Nat} {v : Vl}, VlRs m o i l → l[j]? = some v → ∃ p vs, o = some p ∧ CellsAt m (p.add ((i + j) * 7)) vs ∧ VlR m v vs
 | [], _, _, _, _, h => by simp at h
 | v :: l, i, 0, v', h, e => by
  simp only [List.getElem?_cons_zero, Option.some.injEq] at e; subst e
  simp only [VlRs] at h; exact h.1
 | v :: l, i, j + 1, v', h, e => by
  simp only [VlRs] at h
  obtain ⟨p, vs, h1, h2, h3⟩ := VlRs.at_ (i := i + 1) h.2 (by simpa using e)
  exact ⟨p, vs, h1, by rw [show i + (j + 1) = i + 1 + j by omega]; exact h2, h3⟩
theorem FmRs.at_ {m : Mem} {o : Option Addr} : ∀ {l : List Fm} {i j : Nat} {f : Fm}, FmRs m o i l → l[j]? = some f → ∃ p x, o = some p ∧ CellsAt m (p.add ((i + j) * 1)) [x] ∧ FmR m f x
 | [], _, _, _, _, h => by simp at h
 | f :: l, i, 0, f', h, e => by
  simp only [List.getElem?_cons_zero, Option.some.injEq] at e; subst e
  simp only [FmRs] at h; exact h.1
 | f :: l, i, j + 1, f', h, e => by
  simp only [FmRs] at h
  obtain ⟨p, x, h1, h2, h3⟩ := FmRs.at_ (i := i + 1) h.2 (by simpa using e)
  exact ⟨p, x, h1, by rw [show i + (j + 1) = i + 1 + j by omega]; exact h2, h3⟩
theorem VlR.open_ {m : Mem} {v : Vl} {vs : List Value} (h : VlR m v vs) : ∃ y : VlY, vs = vlV v y ∧ (zo v.kind ∧ zo v.n) ∧ Vls m y.o1 v.kids.length y.c1 v.kids ∧ CloR m v.clo y.p ∧ Fms m y.o2 v.fs.length y.c2 v.fs ∧ (v.fs = [] → y.o2 = none) := by
 obtain ⟨y, e, h1, h2, h3, h3n, h4, h5, h6⟩ := h.unfold
 exact ⟨y, e, h1, ⟨rfl, h2.1, h2.2, fun i x hx => by
  obtain ⟨p, vs, e1, e2, e3⟩ := VlRs.at_ h4 hx
  exact ⟨p, vs, e1, by rw [Nat.zero_add] at e2; exact e2, e3.len, e3⟩⟩, h5, ⟨rfl, h3.1, h3.2, fun i x hx => by
  obtain ⟨p, vs, e1, e2, e3⟩ := FmRs.at_ h6 hx
  exact ⟨p, [vs], e1, by rw [Nat.zero_add] at e2; exact e2, rfl, ⟨vs, rfl, e3⟩⟩⟩, h3n⟩
theorem VlR.build {m : Mem} {v : Vl} {y : VlY} (h1 : zo v.kind) (h2 : zo v.n) (hk : Vls m y.o1 v.kids.length y.c1 v.kids) (hc : CloR m v.clo y.p) (hf : Fms m y.o2 v.fs.length y.c2 v.fs) (hn : v.fs = [] → y.o2 = none) : VlR m v (vlV v y) := by
 obtain ⟨k, n, s, ks, f, fs⟩ := v
 simp only [Vl.kids, Vl.fs, Vl.clo] at hk hf hc
 simp only [VlR]
 refine ⟨y, rfl, ⟨h1, h2⟩, ⟨hk.cap, hk.big⟩, ⟨hf.cap, hf.big⟩, hn, ?_, hc, ?_⟩
 ·have key : ∀ (l : List Vl) (i : Nat), (∀ j t, l[j]? = some t → ks[i + j]? = some t) → VlRs m y.o1 i l := by
   intro l
   induction l with
   | nil => intro i _; simp [VlRs]
   | cons t l ih =>
    intro i hi
    simp only [VlRs]
    obtain ⟨p, vs, e1, e2, _, e3⟩ := hk.at_ i t (by simpa using hi 0 t rfl)
    exact ⟨⟨p, vs, e1, e2, e3⟩, ih (i + 1) fun j t' h => by have := hi (j + 1) t' (by simpa using h); rw [show i + 1 + j = i + (j + 1) by omega]; exact this⟩
  exact key ks 0 fun j t h => by rw [Nat.zero_add]; exact h
 ·have key : ∀ (l : List Fm) (i : Nat), (∀ j t, l[j]? = some t → fs[i + j]? = some t) → FmRs m y.o2 i l := by
   intro l
   induction l with
   | nil => intro i _; simp [FmRs]
   | cons t l ih =>
    intro i hi
    simp only [FmRs]
    obtain ⟨p, vs, e1, e2, _, x, e3, e4⟩ := hf.at_ i t (by simpa using hi 0 t rfl)
    subst e3
    exact ⟨⟨p, x, e1, e2, e4⟩, ih (i + 1) fun j t' h => by have := hi (j + 1) t' (by simpa using h); rw [show i + 1 + j = i + (j + 1) by omega]; exact this⟩
  exact key fs 0 fun j t h => by rw [Nat.zero_add]; exact h
theorem Vls.mono {m m' : Mem} {o : Option Addr} {n c : Nat} {l : List Vl} (h : Vls m o n c l) (hm : MLe m m') : Vls m' o n c l := Sl.mono h (fun _ _ e => VlR.mono hm e) hm
theorem Fms.mono {m m' : Mem} {o : Option Addr} {n c : Nat} {l : List Fm} (h : Fms m o n c l) (hm : MLe m m') : Fms m' o n c l := Sl.mono h (fun _ _ e => FmC.mono e hm) hm
instance : RepR (fun m vs v => VlR m v vs) := ⟨fun hm h => VlR.mono hm h, fun h => VlR.one h⟩
instance : RepR (fun m vs f => FmC m vs f) := ⟨fun hm h => h.mono hm, fun h => h.one⟩
end Go.Proofs.Ytnppknioifgdfaa
