/-
  The layer that all walks of this seat rest on: memory of which some cells are never changed again (a snapshot), steps that keep it,
  and one theorem for a region of operations, whatever their order. Conditions: none; no program occurs here.
-/
import Derived.WalkKit
import Derived.WalkSpells
import Derived.WalkLawsBesides
namespace Go.Proofs.YtineijefefjpeaaDoor
set_option linter.all false
open Go.RowKit

/-- Cells, and maps, that are never written again. -/
structure Mem where
  c : Nat → Nat → Option Value
  mp : Nat → Option (List (Value × Value))
instance : CoeFun Mem fun _ => Nat → Nat → Option Value := ⟨Mem.c⟩
/-- A map's entries, in the order in which they came. -/
def entriesOf (es : Array MapEntry) : List (Value × Value) := es.toList.map fun e => (e.key, e.val)

structure Agree (w : World) (m : Mem) : Prop where
  cell : ∀ b o v, m b o = some v → w.cell? ⟨b, o, none⟩ = some v
  map : ∀ b es, m.mp b = some es → ∃ ents clock, w.heap[b]? = some (.map ents clock) ∧ entriesOf ents = es
structure MLe (m m' : Mem) : Prop where
  cell : ∀ b o v, m b o = some v → m' b o = some v
  map : ∀ b es, m.mp b = some es → m'.mp b = some es
theorem MLe.refl (m : Mem) : MLe m m := ⟨fun _ _ _ h => h, fun _ _ h => h⟩
theorem MLe.trans {a b c : Mem} (h : MLe a b) (k : MLe b c) : MLe a c := ⟨fun x o v e => k.cell x o v (h.cell x o v e), fun x es e => k.map x es (h.map x es e)⟩
theorem lt_of_heap {w : World} {b : Nat} {o : Obj} (h : w.heap[b]? = some o) : b < w.heap.size := by
  rcases Nat.lt_or_ge b w.heap.size with hb | hb
  · exact hb
  · rw [Array.getElem?_eq_none (by simpa using hb)] at h; cases h

theorem lt_of_cell {w : World} {b o : Nat} {v : Value} (h : w.cell? ⟨b, o, none⟩ = some v) : b < w.heap.size := by
  unfold World.cell? at h
  rcases Nat.lt_or_ge b w.heap.size with hb | hb
  · exact hb
  · rw [Array.getElem?_eq_none (by simpa using hb)] at h; cases h

/-- From (w, m) to (w', m'): of what was there only blocks of G may have changed; the snapshot has grown. -/
structure ExtG (G : List Nat) (w : World) (m : Mem) (w' : World) (m' : Mem) : Prop where
  os : w'.os = w.os
  tape : w'.tape = w.tape
  output : w'.output = w.output
  size : w.heap.size ≤ w'.heap.size
  block : ∀ b, b < w.heap.size → b ∉ G → w'.heap[b]? = w.heap[b]?
  agree : Agree w' m'
  le : MLe m m'
  old : ∀ b, b < w.heap.size → b ∉ G → m' b = m b ∧ m'.mp b = m.mp b

theorem ExtG.refl (G : List Nat) {w : World} {m : Mem} (h : Agree w m) : ExtG G w m w m :=
  ⟨rfl, rfl, rfl, Nat.le_refl _, fun _ _ _ => rfl, h, MLe.refl _, fun _ _ _ => ⟨rfl, rfl⟩⟩
theorem ExtG.trans {G : List Nat} {w w1 w2 : World} {m m1 m2 : Mem} (h : ExtG G w m w1 m1) (k : ExtG G w1 m1 w2 m2) : ExtG G w m w2 m2 :=
  ⟨k.os.trans h.os, k.tape.trans h.tape, k.output.trans h.output, Nat.le_trans h.size k.size,
   fun b hb hg => (k.block b (Nat.lt_of_lt_of_le hb h.size) hg).trans (h.block b hb hg), k.agree, h.le.trans k.le,
   fun b hb hg => ⟨(k.old b (Nat.lt_of_lt_of_le hb h.size) hg).1.trans (h.old b hb hg).1, (k.old b (Nat.lt_of_lt_of_le hb h.size) hg).2.trans (h.old b hb hg).2⟩⟩
/-- The second step may change other blocks too, if they are new to the first world. -/
theorem ExtG.trans' {G G' : List Nat} {w w1 w2 : World} {m m1 m2 : Mem} (h : ExtG G w m w1 m1) (k : ExtG G' w1 m1 w2 m2)
    (hG : ∀ g ∈ G', g ∈ G ∨ w.heap.size ≤ g) : ExtG G w m w2 m2 :=
  have hn : ∀ b, b < w.heap.size → b ∉ G → b ∉ G' := fun b hb hg hg' => (hG b hg').elim hg (fun h => by omega)
  ⟨k.os.trans h.os, k.tape.trans h.tape, k.output.trans h.output, Nat.le_trans h.size k.size,
   fun b hb hg => (k.block b (Nat.lt_of_lt_of_le hb h.size) (hn b hb hg)).trans (h.block b hb hg), k.agree, h.le.trans k.le,
   fun b hb hg => ⟨(k.old b (Nat.lt_of_lt_of_le hb h.size) (hn b hb hg)).1.trans (h.old b hb hg).1, (k.old b (Nat.lt_of_lt_of_le hb h.size) (hn b hb hg)).2.trans (h.old b hb hg).2⟩⟩
theorem ExtG.mono {G G' : List Nat} {w w' : World} {m m' : Mem} (h : ExtG G w m w' m') (hG : ∀ g ∈ G, g ∈ G') : ExtG G' w m w' m' :=
  ⟨h.os, h.tape, h.output, h.size, fun b hb hg => h.block b hb (fun hh => hg (hG b hh)), h.agree, h.le, fun b hb hg => h.old b hb (fun hh => hg (hG b hh))⟩
theorem ExtG.below {w w' : World} {m m' : Mem} (h : ExtG [] w m w' m') : Below w.heap.size w w' :=
  ⟨h.os, h.tape, h.output, h.size, fun b hb => h.block b hb (by simp)⟩
theorem Agree.of_below {w w' : World} {m : Mem} (h : Agree w m) (hb : Below w.heap.size w w') : Agree w' m := ⟨fun b o v e => by
  have hc := h.cell b o v e
  rw [hb.cell (p := ⟨b, o, none⟩) (lt_of_cell hc)]
  exact hc, fun b es e => by
  obtain ⟨ents, cl, h1, h2⟩ := h.map b es e
  exact ⟨ents, cl, (hb.block b (lt_of_heap h1)).trans h1, h2⟩⟩
theorem ExtG.of_below {w w' : World} {m : Mem} (h : Agree w m) (hb : Below w.heap.size w w') : ExtG [] w m w' m :=
  ⟨hb.os, hb.tape, hb.output, hb.size, fun b h _ => hb.block b h, h.of_below hb, MLe.refl _, fun _ _ _ => ⟨rfl, rfl⟩⟩

/-- The snapshot with a new block in it. -/
def Mem.add (m : Mem) (g : Nat) (cs : Array Value) : Mem := ⟨fun b o => if b = g then cs[o]? else m b o, m.mp⟩
/-- .. with a map. -/
def Mem.addMap (m : Mem) (g : Nat) (es : List (Value × Value)) : Mem := ⟨m.c, fun b => if b = g then some es else m.mp b⟩
theorem agree_none {w : World} {m : Mem} (h : Agree w m) {b : Nat} (hb : w.heap.size ≤ b) (o : Nat) : m b o = none := by
  cases e : m b o with
  | none => rfl
  | some v => have := lt_of_cell (h.cell b o v e); omega
theorem agree_noneM {w : World} {m : Mem} (h : Agree w m) {b : Nat} (hb : w.heap.size ≤ b) : m.mp b = none := by
  cases e : m.mp b with
  | none => rfl
  | some v => obtain ⟨_, _, h1, _⟩ := h.map b v e; have := lt_of_heap h1; omega
theorem Mem.le_add {w : World} {m : Mem} (h : Agree w m) (cs : Array Value) : MLe m (m.add w.heap.size cs) := ⟨fun b o v e => by
  have := lt_of_cell (h.cell b o v e)
  show (if b = w.heap.size then cs[o]? else m b o) = some v
  rw [if_neg (by omega)]; exact e, fun _ _ e => e⟩
theorem agree_alloc {w : World} {m : Mem} (h : Agree w m) (o : Obj) : Agree (w.alloc o) m :=
  h.of_below ((Below.refl _ _).alloc (Nat.le_refl _) o)
theorem ext_alloc {w : World} {m : Mem} (h : Agree w m) (o : Obj) : ExtG [] w m (w.alloc o) m :=
  ExtG.of_below h ((Below.refl _ _).alloc (Nat.le_refl _) o)
theorem agree_add {w : World} {m : Mem} (h : Agree w m) (cs : Array Value) (t : TypeId) : Agree (w.alloc (.cells cs t)) (m.add w.heap.size cs) := ⟨fun b o v e => by
  change (if b = w.heap.size then cs[o]? else m b o) = some v at e
  split at e
  · rename_i hb
    subst hb
    have hh : (w.alloc (.cells cs t)).heap[w.heap.size]? = some (.cells cs t (0, 0)) := heap_alloc_new w _
    unfold World.cell?
    simp only [hh]
    exact e
  · exact (agree_alloc h _).cell b o v e, fun b es e => (agree_alloc h _).map b es e⟩
theorem ext_add {w : World} {m : Mem} (h : Agree w m) (cs : Array Value) (t : TypeId) : ExtG [] w m (w.alloc (.cells cs t)) (m.add w.heap.size cs) := by
  have hb := (Below.refl w.heap.size w).alloc (Nat.le_refl _) (.cells cs t)
  exact ⟨hb.os, hb.tape, hb.output, hb.size, fun b h _ => hb.block b h, agree_add h cs t, Mem.le_add h cs, fun b hb' _ => ⟨by
    funext o; show (if b = w.heap.size then cs[o]? else m b o) = m b o; rw [if_neg (by omega)], rfl⟩⟩

/-- A call: it returns, and what it returns is so of the world behind it. -/
def FnG (P : Program) (f : FuncId) (args : Array Value) (G : List Nat) (w : World) (m : Mem) (φ : World → Mem → Value → Prop) : Prop :=
  Calls P f args w fun e w' => ∃ v m', e = .returned v ∧ ExtG G w m w' m' ∧ φ w' m' v
abbrev FnV (P : Program) (f : FuncId) (args : Array Value) (w : World) (m : Mem) (φ : World → Mem → Value → Prop) : Prop := FnG P f args [] w m φ
theorem FnG.mono {P : Program} {f : FuncId} {args : Array Value} {G : List Nat} {w : World} {m : Mem} {φ ψ : World → Mem → Value → Prop}
    (h : FnG P f args G w m φ) (hh : ∀ w' m' v, ExtG G w m w' m' → φ w' m' v → ψ w' m' v) : FnG P f args G w m ψ :=
  Calls.mono h fun _ w' ⟨v, m', e, x, p⟩ => ⟨v, m', e, x, hh w' m' v x p⟩

-- What an operation does.
def DoesR (P : Program) (R : Value → World → Prop) : Result Next → Prop
  | .ok (.value v) w' => R v w'
  | .ok .skip w' => R undef w'
  | .ok (.enter f args) w' => Calls P f args w' fun e w'' => ∃ v, e = .returned v ∧ R v w''
  | _ => False
def evalO (σ : Nat → Value) : Operand → Value
  | .tmp t => σ t
  | .const v => v
  | .global g => .pointer (some ⟨g, 0, none⟩)
  | .func f => .func (.func f) #[] #[]
def Does (P : Program) (o : Oper) (σ : Nat → Value) (w : World) (R : Value → World → Prop) : Prop := DoesR P R ((execOp (evalO σ) o).run P w)
def envOf (a : Act) : Nat → Value := fun t => a.tmps.getD t undef
theorem eval_eq (a : Act) : a.eval = evalO (envOf a) := by
  funext x; cases x <;> rfl
theorem wp_of_does {P : Program} {o : Oper} {a : Act} {w : World} {R : Value → World → Prop} {K : Act → World → Prop} {Q : Exit → Act → World → Prop}
    (h : Does P o (envOf a) w R) (hk : ∀ v w', R v w' → K (a.put o.dst v) w') : o.wp P a w K Q := by
  unfold Oper.wp
  rw [eval_eq]
  unfold Does at h
  generalize (execOp (evalO (envOf a)) o).run P w = r at *
  cases r with
  | ok n w' =>
    cases n <;> simp only [DoesR] at h <;> first
      | exact hk _ _ h
      | exact h.elim
      | exact Calls.mono h (fun e w'' ⟨v, e1, r⟩ => by subst e1; exact hk _ _ r)
  | halt x w' => exact (h : False).elim
theorem DoesR.mono {P : Program} {R R' : Value → World → Prop} {r : Result Next} (h : DoesR P R r) (hh : ∀ v w, R v w → R' v w) : DoesR P R' r := by
  cases r with
  | ok n w' =>
    cases n <;> simp only [DoesR] at h ⊢ <;> first
      | exact hh _ _ h
      | exact Calls.mono h (fun e w'' ⟨v, e1, r⟩ => ⟨v, e1, hh _ _ r⟩)
  | halt x w' => exact (h : False).elim
theorem Does.mono {P : Program} {o : Oper} {σ : Nat → Value} {w : World} {R R' : Value → World → Prop} (h : Does P o σ w R) (hh : ∀ v w, R v w → R' v w) : Does P o σ w R' := DoesR.mono h hh

/-- A fact on a value that only the snapshot bears: there is y, the value is made of y, and y is so. -/
structure MP where
  α : Type
  f : α → Value
  r : α → Mem → Prop
  mono' : ∀ {m m' : Mem} {y : α}, MLe m m' → r y m → r y m'
def MP.p (φ : MP) (m : Mem) (v : Value) : Prop := ∃ y, v = φ.f y ∧ φ.r y m
theorem MP.mono (φ : MP) {m m' : Mem} {v : Value} (hm : MLe m m') (h : φ.p m v) : φ.p m' v := by
  obtain ⟨y, e, hy⟩ := h
  exact ⟨y, e, φ.mono' hm hy⟩
def MP.mem {α : Type} (f : α → Value) (p : α → Mem → Prop) (mono : ∀ {m m' : Mem} {y : α}, MLe m m' → p y m → p y m') : MP := ⟨α, f, p, mono⟩
-- Resources of an activation: blocks that are its own, and may still change.
inductive Res where
  | free
  | blk (v : Value) (o : Obj)
  | blkx (v : Value) (e : TypeId) (ψ : MP)
  | row (v : Value) (n size : Nat) (e : TypeId) (xs : List Value)
  | map (v : Value) (es : List (Value × Value))
def mapBlock : Value → List Nat
  | .map (some g) => [g]
  | _ => []
def rowBlock : Value → List Nat
  | .slice (some a) _ _ => [a.block]
  | _ => []
def ptrBlock : Value → List Nat
  | .pointer (some a) => [a.block]
  | _ => []
def Res.blocks : Res → List Nat
  | .free => []
  | .blk v _ => ptrBlock v
  | .blkx v _ _ => ptrBlock v
  | .row v _ _ _ _ => rowBlock v
  | .map v _ => mapBlock v
def Res.holds : Res → World → Mem → Prop
  | .free, _, _ => True
  | .blk v o, w, m => ∃ g, v = .pointer (some ⟨g, 0, none⟩) ∧ w.heap[g]? = some o ∧ ∀ off, m g off = none
  | .blkx v e ψ, w, m => ∃ g cs, v = .pointer (some ⟨g, 0, none⟩) ∧ w.heap[g]? = some (.cells cs e (0, 0)) ∧ (∀ off, m g off = none) ∧ ψ.p m (.agg cs)
  | .row v n size e xs, w, m => xs.length = n * size ∧ ((v = .slice none 0 0 ∧ n = 0) ∨ ∃ (g cap : Nat) (cur : Array Value), v = .slice (some ⟨g, 0, none⟩) n cap ∧ w.heap[g]? = some (.cells cur e (0, 0)) ∧
      n ≤ cap ∧ cap ≤ maxLen ∧ cur.size = cap * size ∧ cur.toList.take (n * size) = xs ∧ (∀ o u, xs[o]? = some u → m g o = some u) ∧ ∀ off, n * size ≤ off → m g off = none)
  | .map v es, w, m => ∃ g ents clock, v = .map (some g) ∧ w.heap[g]? = some (.map ents clock) ∧ entriesOf ents = es ∧ m.mp g = none
theorem Res.lt {r : Res} {w : World} {m : Mem} (h : r.holds w m) : ∀ g ∈ r.blocks, g < w.heap.size := by
  intro g hg
  cases r with
  | free => cases hg
  | blk v o =>
    obtain ⟨g', rfl, hh, _⟩ := h
    simp only [Res.blocks, ptrBlock, List.mem_singleton] at hg
    subst hg
    rcases Nat.lt_or_ge g w.heap.size with hlt | hge
    · exact hlt
    · rw [Array.getElem?_eq_none hge] at hh; cases hh
  | blkx v e ψ =>
    obtain ⟨g', cs, rfl, hh, _⟩ := h
    simp only [Res.blocks, ptrBlock, List.mem_singleton] at hg
    subst hg
    rcases Nat.lt_or_ge g w.heap.size with hlt | hge
    · exact hlt
    · rw [Array.getElem?_eq_none hge] at hh; cases hh
  | row v n size e xs =>
    rcases h.2 with ⟨rfl, _⟩ | ⟨g', cap, cells, rfl, hh, _⟩
    · cases hg
    · simp only [Res.blocks, rowBlock, List.mem_singleton] at hg
      subst hg
      rcases Nat.lt_or_ge g w.heap.size with hlt | hge
      · exact hlt
      · rw [Array.getElem?_eq_none hge] at hh; cases hh
  | map v es =>
    obtain ⟨g', ents, cl, rfl, hh, _⟩ := h
    simp only [Res.blocks, mapBlock, List.mem_singleton] at hg
    subst hg
    exact lt_of_heap hh
/-- A resource survives steps that keep its blocks away. -/
theorem Res.keep {r : Res} {G : List Nat} {w w' : World} {m m' : Mem} (h : r.holds w m) (hE : ExtG G w m w' m') (hd : ∀ g ∈ r.blocks, g ∉ G) : r.holds w' m' := by
  have hl := Res.lt h
  cases r with
  | free => trivial
  | blk v o =>
    obtain ⟨g, rfl, hh, hm⟩ := h
    have hg : g < w.heap.size := hl g (by simp [Res.blocks, ptrBlock])
    have hn : g ∉ G := hd g (by simp [Res.blocks, ptrBlock])
    exact ⟨g, rfl, (hE.block g hg hn).trans hh, fun off => by rw [(hE.old g hg hn).1]; exact hm off⟩
  | blkx v e ψ =>
    obtain ⟨g, cs, rfl, hh, hm, hψ⟩ := h
    have hg : g < w.heap.size := hl g (by simp [Res.blocks, ptrBlock])
    have hn : g ∉ G := hd g (by simp [Res.blocks, ptrBlock])
    exact ⟨g, cs, rfl, (hE.block g hg hn).trans hh, fun off => by rw [(hE.old g hg hn).1]; exact hm off, ψ.mono hE.le hψ⟩
  | row v n size e xs =>
    obtain ⟨hlen, h⟩ := h
    rcases h with ⟨rfl, h0⟩ | ⟨g, cap, cells, rfl, hh, h1, h2, h3, h4, h5, h6⟩
    · exact ⟨hlen, .inl ⟨rfl, h0⟩⟩
    · have hg : g < w.heap.size := hl g (by simp [Res.blocks, rowBlock])
      have hd' : g ∉ G := hd g (by simp [Res.blocks, rowBlock])
      exact ⟨hlen, .inr ⟨g, cap, cells, rfl, (hE.block g hg hd').trans hh, h1, h2, h3, h4, fun o u hu => by rw [(hE.old g hg hd').1]; exact h5 o u hu, fun off ho => by rw [(hE.old g hg hd').1]; exact h6 off ho⟩⟩
  | map v es =>
    obtain ⟨g, ents, cl, rfl, hh, he, hm⟩ := h
    have hg : g < w.heap.size := hl g (by simp [Res.blocks, mapBlock])
    have hn : g ∉ G := hd g (by simp [Res.blocks, mapBlock])
    exact ⟨g, ents, cl, rfl, (hE.block g hg hn).trans hh, he, by rw [(hE.old g hg hn).2]; exact hm⟩

/-- All resources hold, their blocks are apart, and each is one of G0 or younger than the activation. -/
structure Loc (G0 : List Nat) (B0 : Nat) (L : List Res) (w : World) (m : Mem) : Prop where
  all : ∀ r ∈ L, r.holds w m
  apart : (L.flatMap Res.blocks).Nodup
  own : ∀ g ∈ L.flatMap Res.blocks, g ∈ G0 ∨ B0 ≤ g
theorem Loc.keep {G0 : List Nat} {B0 : Nat} {L : List Res} {G : List Nat} {w w' : World} {m m' : Mem} (h : Loc G0 B0 L w m) (hE : ExtG G w m w' m')
    (hd : ∀ g ∈ L.flatMap Res.blocks, g ∉ G) : Loc G0 B0 L w' m' :=
  ⟨fun r hr => Res.keep (h.all r hr) hE fun g hg => hd g (List.mem_flatMap.2 ⟨r, hr, hg⟩), h.apart, h.own⟩
theorem Loc.at_ {G0 : List Nat} {B0 : Nat} {L : List Res} {w : World} {m : Mem} (h : Loc G0 B0 L w m) {k : Nat} {r : Res} (hk : L[k]? = some r) : r.holds w m :=
  h.all r (List.mem_of_getElem? hk)

/-- Where an activation is: from its entry (W, mE) on only blocks of G0 have changed; its own blocks are as L says. -/
structure St (G0 : List Nat) (W : World) (mE : Mem) (L : List Res) (w : World) (m : Mem) : Prop where
  ext : ExtG G0 W mE w m
  loc : Loc G0 W.heap.size L w m
theorem St.agree {G0 : List Nat} {W : World} {mE : Mem} {L : List Res} {w : World} {m : Mem} (h : St G0 W mE L w m) : Agree w m := h.ext.agree

theorem St.keep {G0 : List Nat} {W : World} {mE : Mem} {L : List Res} {w w' : World} {m m' : Mem} (h : St G0 W mE L w m) (hE : ExtG [] w m w' m') : St G0 W mE L w' m' :=
  ⟨h.ext.trans (hE.mono (by simp)), h.loc.keep hE (by simp)⟩

theorem mem_of_set {L : List Res} {k : Nat} {r' x : Res} (h : x ∈ L.set k r') : x = r' ∨ ∃ j, j ≠ k ∧ L[j]? = some x := by
  obtain ⟨j, hj⟩ := List.mem_iff_getElem?.1 h
  rw [List.getElem?_set] at hj
  split at hj
  · split at hj
    · left; injection hj with e; exact e.symm
    · cases hj
  · rename_i hne; exact .inr ⟨j, fun e => hne e.symm, hj⟩
theorem flat_apart : ∀ {L : List Res}, (L.flatMap Res.blocks).Nodup → ∀ {j k : Nat} {x y : Res}, j ≠ k → L[j]? = some x → L[k]? = some y → ∀ g ∈ x.blocks, g ∉ y.blocks
  | [], _, j, _, _, _, _, hx, _, _, _ => by simp at hx
  | r :: L, hn, 0, 0, _, _, hne, _, _, _, _ => absurd rfl hne
  | r :: L, hn, 0, k + 1, x, y, _, hx, hy, g, hg => by
    simp at hx hy; subst hx
    simp only [List.flatMap_cons] at hn
    have hd := (List.nodup_append.1 hn).2.2
    intro hgy
    exact hd g hg g (List.mem_flatMap.2 ⟨y, List.mem_of_getElem? hy, hgy⟩) rfl
  | r :: L, hn, j + 1, 0, x, y, _, hx, hy, g, hg => by
    simp at hx hy; subst hy
    simp only [List.flatMap_cons] at hn
    have hd := (List.nodup_append.1 hn).2.2
    intro hgy
    exact hd g hgy g (List.mem_flatMap.2 ⟨x, List.mem_of_getElem? hx, hg⟩) rfl
  | r :: L, hn, j + 1, k + 1, x, y, hne, hx, hy, g, hg => by
    simp at hx hy
    simp only [List.flatMap_cons] at hn
    exact flat_apart (List.nodup_append.1 hn).2.1 (by omega) hx hy g hg
theorem flat_set_nodup : ∀ {L : List Res} {k : Nat} {r r' : Res}, L[k]? = some r → (L.flatMap Res.blocks).Nodup → r'.blocks.Nodup →
    (∀ g ∈ r'.blocks, g ∈ r.blocks ∨ g ∉ L.flatMap Res.blocks) → ((L.set k r').flatMap Res.blocks).Nodup
  | [], k, _, _, h, _, _, _ => by simp at h
  | x :: L, 0, r, r', h, hn, hr, hb => by
    simp at h; subst h
    simp only [List.set_cons_zero, List.flatMap_cons] at hn ⊢
    rw [List.nodup_append] at hn ⊢
    refine ⟨hr, hn.2.1, fun a ha b hb' e => ?_⟩
    subst e
    rcases hb a ha with h1 | h1
    · exact hn.2.2 a h1 a hb' rfl
    · exact h1 (by simp only [List.flatMap_cons]; exact List.mem_append_right _ hb')
  | x :: L, k + 1, r, r', h, hn, hr, hb => by
    simp at h
    simp only [List.set_cons_succ, List.flatMap_cons] at hn ⊢
    rw [List.nodup_append] at hn ⊢
    refine ⟨hn.1, flat_set_nodup h hn.2.1 hr (fun g hg => ?_), fun a ha b hb' e => ?_⟩
    · rcases hb g hg with h1 | h1
      · exact .inl h1
      · exact .inr fun hh => h1 (by simp only [List.flatMap_cons]; exact List.mem_append_right _ hh)
    · subst e
      obtain ⟨y, hy, hay⟩ := List.mem_flatMap.1 hb'
      rcases mem_of_set hy with rfl | ⟨j, hj, hyj⟩
      · rcases hb a hay with h1 | h1
        · exact hn.2.2 a ha a (List.mem_flatMap.2 ⟨r, List.mem_of_getElem? h, h1⟩) rfl
        · exact h1 (by simp only [List.flatMap_cons]; exact List.mem_append_left _ ha)
      · exact hn.2.2 a ha a (List.mem_flatMap.2 ⟨y, List.mem_of_getElem? hyj, hay⟩) rfl

/-- A step that changes one resource. -/
structure Touch (r r' : Res) (w : World) (m : Mem) (w' : World) (m' : Mem) : Prop where
  ext : ExtG r.blocks w m w' m'
  now : r'.holds w' m'
  nodup : r'.blocks.Nodup
  where_ : ∀ g ∈ r'.blocks, g ∈ r.blocks ∨ w.heap.size ≤ g
theorem Loc.touch {G0 : List Nat} {B0 : Nat} {L : List Res} {k : Nat} {r r' : Res} {w w' : World} {m m' : Mem} (h : Loc G0 B0 L w m) (hk : L[k]? = some r)
    (ht : Touch r r' w m w' m') (hB : B0 ≤ w.heap.size) : Loc G0 B0 (L.set k r') w' m' := by
  have hlt : ∀ g ∈ L.flatMap Res.blocks, g < w.heap.size := fun g hg => by
    obtain ⟨x, hx, hgx⟩ := List.mem_flatMap.1 hg
    exact Res.lt (h.all x hx) g hgx
  refine ⟨fun x hx => ?_, flat_set_nodup hk h.apart ht.nodup (fun g hg => ?_), fun g hg => ?_⟩
  · rcases mem_of_set hx with rfl | ⟨j, hj, hxj⟩
    · exact ht.now
    · exact Res.keep (h.at_ hxj) ht.ext fun g hg => flat_apart h.apart hj hxj hk g hg
  · rcases ht.where_ g hg with h1 | h1
    · exact .inl h1
    · exact .inr fun hh => by have := hlt g hh; omega
  · obtain ⟨x, hx, hgx⟩ := List.mem_flatMap.1 hg
    rcases mem_of_set hx with rfl | ⟨j, hj, hxj⟩
    · rcases ht.where_ g hgx with h1 | h1
      · exact h.own g (List.mem_flatMap.2 ⟨r, List.mem_of_getElem? hk, h1⟩)
      · exact .inr (by omega)
    · exact h.own g (List.mem_flatMap.2 ⟨x, List.mem_of_getElem? hxj, hgx⟩)
theorem St.touch {G0 : List Nat} {W : World} {mE : Mem} {L : List Res} {k : Nat} {r r' : Res} {w w' : World} {m m' : Mem} (h : St G0 W mE L w m) (hk : L[k]? = some r)
    (ht : Touch r r' w m w' m') : St G0 W mE (L.set k r') w' m' :=
  ⟨h.ext.trans' ht.ext (fun g hg => h.loc.own g (List.mem_flatMap.2 ⟨r, List.mem_of_getElem? hk, hg⟩)), h.loc.touch hk ht h.ext.size⟩
theorem flat_append_one (L : List Res) (r : Res) : (L ++ [r]).flatMap Res.blocks = L.flatMap Res.blocks ++ r.blocks := by simp
/-- One resource more, of blocks that are younger than all others. -/
theorem St.more {G0 : List Nat} {W : World} {mE : Mem} {L : List Res} {w : World} {m : Mem} (h : St G0 W mE L w m) {r : Res} (hr : r.holds w m) (hn : r.blocks.Nodup)
    (hb : ∀ g ∈ r.blocks, W.heap.size ≤ g ∧ g ∉ L.flatMap Res.blocks) : St G0 W mE (L ++ [r]) w m := by
  refine ⟨h.ext, fun x hx => ?_, ?_, fun g hg => ?_⟩
  · rcases List.mem_append.1 hx with hx | hx
    · exact h.loc.all x hx
    · rw [List.mem_singleton] at hx; subst hx; exact hr
  · rw [flat_append_one, List.nodup_append]
    exact ⟨h.loc.apart, hn, fun a ha b hb' e => by subst e; exact (hb a hb').2 ha⟩
  · rw [flat_append_one, List.mem_append] at hg
    rcases hg with hg | hg
    · exact h.loc.own g hg
    · exact .inr (hb g hg).1
theorem St.drop_ {G0 : List Nat} {W : World} {mE : Mem} {L : List Res} {w : World} {m : Mem} (h : St G0 W mE L w m) (k : Nat) {r : Res} (hk : L[k]? = some r) : St G0 W mE (L.set k .free) w m := by
  have ht : Touch r .free w m w m := ⟨ExtG.refl _ h.agree, trivial, List.nodup_nil, fun g hg => by cases hg⟩
  exact h.touch hk ht
end Go.Proofs.YtineijefefjpeaaDoor
