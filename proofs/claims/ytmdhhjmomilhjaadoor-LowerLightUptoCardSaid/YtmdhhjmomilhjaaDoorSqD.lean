/-
  Texts that the law rests on: Cdtree, Low0, Shelf, Unord, Low1, Low2. Conditions: those of each theorem.
-/
import Derived.Test.YtmdhhjmomilhjaaDoorSqC
import Derived.Lib.ItoaLen
import Derived.Shelf.Strconv.Itoa0
import Derived.Shelf.Strconv.Itoa1
import Derived.Shelf.LaysM
import Derived.Shelf.Strconv.Itoa2
import Derived.Shelf.Strconv.Itoa3
import Derived.Ground.Names2Prog
import Derived.Shelf.Slices.Clone
import Derived.Test.YtmdhhjmomilhjaaDoorProg
namespace Go.Proofs.YtmdhhjmomilhjaaDoor
set_option linter.all false
set_option maxRecDepth 4000
open Go.RowKit
mutual
/-- Code aZ a tree. -/
inductive Cd where
 | mk (kind : Int) (name param : Str) (n : Int) (kids : List Cd) (arms : List Ca)
inductive Ca where
 | mk (name : Str) (vars : List Str) (tail : Bool) (body : Cd)
end
def Cd.kind : Cd → Int | ⟨k, _, _, _, _, _⟩ => k
def Cd.name : Cd → Str | ⟨_, s, _, _, _, _⟩ => s
def Cd.param : Cd → Str | ⟨_, _, p, _, _, _⟩ => p
def Cd.n : Cd → Int | ⟨_, _, _, n, _, _⟩ => n
def Cd.kids : Cd → List Cd | ⟨_, _, _, _, ks, _⟩ => ks
def Cd.arms : Cd → List Ca | ⟨_, _, _, _, _, aZ⟩ => aZ
def Ca.name : Ca → Str | ⟨s, _, _, _⟩ => s
def Ca.vars : Ca → List Str | ⟨_, l, _, _⟩ => l
def Ca.tail : Ca → Bool | ⟨_, _, t, _⟩ => t
def Ca.body : Ca → Cd | ⟨_, _, _, b⟩ => b
theorem Cd.kid_lt {t u : Cd} (h : u ∈ t.kids) : SizeOf.sizeOf u < SizeOf.sizeOf t := by
 obtain ⟨k, s, p, n, ks, aZ⟩ := t
 have := List.sizeOf_lt_of_mem h
 simp only [Cd.kids] at this
 simp only [Cd.mk.sizeOf_spec]; omega
theorem Cd.arm_lt {t : Cd} {a : Ca} (h : a ∈ t.arms) : SizeOf.sizeOf a.body < SizeOf.sizeOf t := by
 obtain ⟨k, s, p, n, ks, aZ⟩ := t
 have := List.sizeOf_lt_of_mem h
 obtain ⟨s, l, tl, b⟩ := a
 simp only [Cd.arms, Ca.mk.sizeOf_spec] at this
 simp only [Cd.mk.sizeOf_spec, Ca.body]; omega
theorem Cd.rec_ {p : Cd → Prop} (h : ∀ t, (∀ u ∈ t.kids, p u) → (∀ a ∈ t.arms, p a.body) → p t) (t : Cd) : p t := h t (fun u hu => Cd.rec_ h u) (fun a ha => Cd.rec_ h a.body)
termination_by SizeOf.sizeOf t
decreasing_by
 ·exact Cd.kid_lt hu
 ·exact Cd.arm_lt ha
structure CdY where
 o1 : Option Addr
 c1 : Nat
 o2 : Option Addr
 c2 : Nat
abbrev cdV (t : Cd) (y : CdY) : List Value := [.int .i64 t.kind, S t.name, S t.param, .int .i64 t.n, .slice y.o1 t.kids.length y.c1, .slice y.o2 t.arms.length y.c2]
mutual
/-- These cells are the code's. -/
def CdR (m : Mem) : Cd → List Value → Prop
 | ⟨k, s, p, n, ks, aZ⟩, vs => ∃ y : CdY, vs = cdV ⟨k, s, p, n, ks, aZ⟩ y ∧ (True ∧ True) ∧ (ks.length ≤ y.c1 ∧ ks.length ≤ 9223372036854775807) ∧ (aZ.length ≤ y.c2 ∧ aZ.length ≤ 9223372036854775807) ∧ CdRs m y.o1 0 ks ∧ CaRs m y.o2 0 aZ
def CdRs (m : Mem) (o : Option Addr) : Nat → List Cd → Prop
 | _, [] => True
 | i, t :: ts => (∃ p vs, o = some p ∧ CellsAt m (p.add (i * 6)) vs ∧ CdR m t vs) ∧ CdRs m o (i + 1) ts
def CaRs (m : Mem) (o : Option Addr) : Nat → List Ca → Prop
 | _, [] => True
 | i, ⟨s, l, t, b⟩ :: ts => (∃ p vs, o = some p ∧ CellsAt m (p.add (i * 9)) vs ∧ ∃ oa ca bs, vs = S s :: .slice oa l.length ca :: .bool t :: bs ∧ Strs m oa l.length ca l ∧ CdR m b bs) ∧ CaRs m o (i + 1) ts
end
def CaR (m : Mem) (a : Ca) (vs : List Value) : Prop := ∃ o c bs, vs = S a.name :: .slice o a.vars.length c :: .bool a.tail :: bs ∧ Strs m o a.vars.length c a.vars ∧ CdR m a.body bs
abbrev Cds (m : Mem) (o : Option Addr) (n c : Nat) (l : List Cd) : Prop := Sl (fun m vs t => CdR m t vs) 6 m o n c l
abbrev Cas (m : Mem) (o : Option Addr) (n c : Nat) (l : List Ca) : Prop := Sl (fun m vs t => CaR m t vs) 9 m o n c l
theorem CdRs.at_ {m : Mem} {o : Option Addr} : ∀ {ts : List Cd} {i j : Nat} {t : Cd}, CdRs m o i ts → ts[j]? = some t → ∃ p vs, o = some p ∧ CellsAt m (p.add ((i + j) * 6)) vs ∧ CdR m t vs
 | [], _, _, _, _, h => by simp at h
 | t :: ts, i, 0, t', h, e => by
  simp only [List.getElem?_cons_zero, Option.some.injEq] at e; subst e
  simp only [CdRs] at h; exact h.1
 | t :: ts, i, j + 1, t', h, e => by
  simp only [CdRs] at h
  obtain ⟨p, vs, h1, h2, h3⟩ := CdRs.at_ (i := i + 1) h.2 (by simpa using e)
  exact ⟨p, vs, h1, by rw [show i + (j + 1) = i + 1 + j by omega]; exact h2, h3⟩
theorem CaRs.at_ {m : Mem} {o : Option Addr} : ∀ {ts : List Ca} {i j : Nat} {t : Ca}, CaRs m o i ts → ts[j]? = some t → ∃ p vs, o = some p ∧ CellsAt m (p.add ((i + j) * 9)) vs ∧ CaR m t vs
 | [], _, _, _, _, h => by simp at h
 | ⟨s, l, tl, b⟩ :: ts, i, 0, t', h, e => by
  simp only [List.getElem?_cons_zero, Option.some.injEq] at e; subst e
  simp only [CaRs] at h; exact h.1
 | ⟨s, l, tl, b⟩ :: ts, i, j + 1, t', h, e => by
  simp only [CaRs] at h
  obtain ⟨p, vs, h1, h2, h3⟩ := CaRs.at_ (i := i + 1) h.2 (by simpa using e)
  exact ⟨p, vs, h1, by rw [show i + (j + 1) = i + 1 + j by omega]; exact h2, h3⟩
theorem CdR.unfold {m : Mem} {t : Cd} {vs : List Value} (h : CdR m t vs) : ∃ y : CdY, vs = cdV t y ∧ (True ∧ True) ∧ (t.kids.length ≤ y.c1 ∧ t.kids.length ≤ 9223372036854775807) ∧ (t.arms.length ≤ y.c2 ∧ t.arms.length ≤ 9223372036854775807) ∧ CdRs m y.o1 0 t.kids ∧ CaRs m y.o2 0 t.arms := by
 obtain ⟨k, s, p, n, ks, aZ⟩ := t
 simp only [CdR] at h; exact h
theorem CdR.len {m : Mem} {t : Cd} {vs : List Value} (h : CdR m t vs) : vs.length = 6 := by
 obtain ⟨y, rfl, _⟩ := h.unfold; rfl
theorem CdR.one {m : Mem} {t : Cd} {vs : List Value} (h : CdR m t vs) : vs.all (·.oneCell') = true := by
 obtain ⟨y, rfl, h1, _⟩ := h.unfold; rfl
theorem CaR.len {m : Mem} {t : Ca} {vs : List Value} (h : CaR m t vs) : vs.length = 9 := by
 obtain ⟨o, c, bs, rfl, _, hb⟩ := h; simp [hb.len]
theorem CaR.one {m : Mem} {t : Ca} {vs : List Value} (h : CaR m t vs) : vs.all (·.oneCell') = true := by
 obtain ⟨o, c, bs, rfl, _, hb⟩ := h
 simp only [List.all_cons, hb.one, Bool.and_true]; rfl
theorem CdR.open_ {m : Mem} {t : Cd} {vs : List Value} (h : CdR m t vs) : ∃ y : CdY, vs = cdV t y ∧ (True ∧ True) ∧ Cds m y.o1 t.kids.length y.c1 t.kids ∧ Cas m y.o2 t.arms.length y.c2 t.arms := by
 obtain ⟨y, e, h1, h2, h3, h5, h6⟩ := h.unfold
 exact ⟨y, e, h1, ⟨rfl, h2.1, h2.2, fun i x hx => by
  obtain ⟨p, vs, e1, e2, e3⟩ := CdRs.at_ h5 hx
  exact ⟨p, vs, e1, by rw [Nat.zero_add] at e2; exact e2, e3.len, e3⟩⟩, ⟨rfl, h3.1, h3.2, fun i x hx => by
  obtain ⟨p, vs, e1, e2, e3⟩ := CaRs.at_ h6 hx
  exact ⟨p, vs, e1, by rw [Nat.zero_add] at e2; exact e2, e3.len, e3⟩⟩⟩
mutual
theorem CdR.mono {m m' : Mem} (hm : MLe m m') : ∀ {t : Cd} {vs : List Value}, CdR m t vs → CdR m' t vs
 | ⟨k, s, p, n, ks, aZ⟩, vs, h => by
  simp only [CdR] at h ⊢
  obtain ⟨y, e, h1, h2, h3, h5, h6⟩ := h
  exact ⟨y, e, h1, h2, h3, CdRs.mono hm h5, CaRs.mono hm h6⟩
theorem CdRs.mono {m m' : Mem} (hm : MLe m m') {o : Option Addr} : ∀ {ts : List Cd} {i : Nat}, CdRs m o i ts → CdRs m' o i ts
 | [], _, _ => by simp [CdRs]
 | t :: ts, i, h => by
  simp only [CdRs] at h ⊢
  obtain ⟨⟨p, vs, e1, e2, e3⟩, h2⟩ := h
  exact ⟨⟨p, vs, e1, e2.mono hm, CdR.mono hm e3⟩, CdRs.mono hm h2⟩
theorem CaRs.mono {m m' : Mem} (hm : MLe m m') {o : Option Addr} : ∀ {ts : List Ca} {i : Nat}, CaRs m o i ts → CaRs m' o i ts
 | [], _, _ => by simp [CaRs]
 | ⟨s, l, tl, b⟩ :: ts, i, h => by
  simp only [CaRs] at h ⊢
  obtain ⟨⟨p, vs, e1, e2, oa, ca, bs, e3, e4, e5⟩, h2⟩ := h
  exact ⟨⟨p, vs, e1, e2.mono hm, oa, ca, bs, e3, e4.mono hm, CdR.mono hm e5⟩, CaRs.mono hm h2⟩
end
theorem CaR.mono {m m' : Mem} {a : Ca} {vs : List Value} (h : CaR m a vs) (hm : MLe m m') : CaR m' a vs := by
 obtain ⟨o, c, bs, e, h1, h2⟩ := h; exact ⟨o, c, bs, e, h1.mono hm, h2.mono hm⟩
theorem CaR.open_ {m : Mem} {a : Ca} {vs : List Value} (h : CaR m a vs) : ∃ o c bs, vs = S a.name :: .slice o a.vars.length c :: .bool a.tail :: bs ∧ Strs m o a.vars.length c a.vars ∧ CdR m a.body bs := h
theorem Cds.mono {m m' : Mem} {o : Option Addr} {n c : Nat} {l : List Cd} (h : Cds m o n c l) (hm : MLe m m') : Cds m' o n c l := Sl.mono h (fun _ _ e => e.mono hm) hm
theorem Cas.mono {m m' : Mem} {o : Option Addr} {n c : Nat} {l : List Ca} (h : Cas m o n c l) (hm : MLe m m') : Cas m' o n c l := Sl.mono h (fun _ _ e => e.mono hm) hm
instance : RepR (fun m vs t => CdR m t vs) := ⟨fun hm h => h.mono hm, fun h => h.one⟩
instance : RepR (fun m vs t => CaR m t vs) := ⟨fun hm h => h.mono hm, fun h => h.one⟩
theorem CdR.build {m : Mem} {t : Cd} {y : CdY} (h1 : True) (h2 : True) (hk : Cds m y.o1 t.kids.length y.c1 t.kids) (ha : Cas m y.o2 t.arms.length y.c2 t.arms) : CdR m t (cdV t y) := by
 obtain ⟨k, s, p, n, ks, aZ⟩ := t
 simp only [Cd.kids, Cd.arms] at hk ha
 simp only [CdR]
 refine ⟨y, rfl, ⟨h1, h2⟩, ⟨hk.cap, hk.big⟩, ⟨ha.cap, ha.big⟩, ?_, ?_⟩
 ·have key : ∀ (ts : List Cd) (i : Nat), (∀ j t, ts[j]? = some t → ks[i + j]? = some t) → CdRs m y.o1 i ts := by
   intro ts
   induction ts with
   | nil => intro i _; simp [CdRs]
   | cons t ts ih =>
    intro i hi
    simp only [CdRs]
    obtain ⟨p, vs, e1, e2, _, e3⟩ := hk.at_ i t (by simpa using hi 0 t rfl)
    exact ⟨⟨p, vs, e1, e2, e3⟩, ih (i + 1) fun j u hj => by have := hi (j + 1) u (by simpa using hj); rw [show i + 1 + j = i + (j + 1) by omega]; exact this⟩
  exact key ks 0 fun j t hj => by rw [Nat.zero_add]; exact hj
 ·have key : ∀ (ts : List Ca) (i : Nat), (∀ j t, ts[j]? = some t → aZ[i + j]? = some t) → CaRs m y.o2 i ts := by
   intro ts
   induction ts with
   | nil => intro i _; simp [CaRs]
   | cons t ts ih =>
    intro i hi
    obtain ⟨p, vs, e1, e2, _, e3⟩ := ha.at_ i t (by simpa using hi 0 t rfl)
    obtain ⟨s, l, tl, b⟩ := t
    simp only [CaRs]
    exact ⟨⟨p, vs, e1, e2, e3⟩, ih (i + 1) fun j u hj => by have := hi (j + 1) u (by simpa using hj); rw [show i + 1 + j = i + (j + 1) by omega]; exact this⟩
  exact key aZ 0 fun j t hj => by rw [Nat.zero_add]; exact hj
def MP.cd (t : Cd) : MP := MP.mem (fun y : CdY => .agg (cdV t y).toArray) (fun y m => CdR m t (cdV t y)) fun hm h => h.mono hm
end Go.Proofs.YtmdhhjmomilhjaaDoor
namespace Go.Proofs.YtmdhhjmomilhjaaDoor
set_option linter.all false
set_option maxRecDepth 4000
open Go.RowKit
def headL (t : Tm) : Prop := zCy t ∨ (t.kind = 0 ∧ t.name = [] ∧ t.kids = [] ∧ t.arms = [])
inductive LwT : Tm → Prop where
 | mk {t : Tm} (h : headL t) (hk : ∀ u ∈ t.kids, LwT u) (ha : ∀ a ∈ t.arms, LwT a.body) : LwT t
theorem LwT.here {t : Tm} (h : LwT t) : headL t := by cases h; assumption
theorem LwT.kid {t u : Tm} (h : LwT t) (hu : u ∈ t.kids) : LwT u := by cases h with | mk _ hk _ => exact hk u hu
theorem LwT.arm {t : Tm} {a : Ar} (h : LwT t) (ha : a ∈ t.arms) : LwT a.body := by cases h with | mk _ _ hh => exact hh a ha
theorem RtT.low {t : Tm} (h : RtT t) : LwT t := by
 induction t using Tm.rec_ with
 | h t ihk iha => exact .mk (.inl h.here) (fun u hu => ihk u hu (h.kid hu)) (fun a ha => iha a ha (h.arm ha))
theorem zero_low : LwT Zv := .mk (.inr ⟨rfl, rfl, rfl, rfl⟩) (fun _ h => nomatch h) (fun _ h => nomatch h)
theorem headL.lens {t : Tm} (h : headL t) : (t.kind = 5 → t.kids.length = 1) ∧ (t.kind = 7 ∨ t.kind = 8 → t.kids.length = 2) ∧ (t.kind = 9 → t.kids.length = 3) ∧ (t.kind = 12 ∨ t.kind = 14 → t.kids.length = 1) ∧ (1 ≤ t.kind ∧ t.kind ≤ 14 ∨ t.kind = 0 ∧ t.name = [] ∧ t.kids = [] ∧ t.arms = []) := by
 rcases h with h | ⟨h0, h1, h2, h3⟩
 ·have h9 := h.1; unfold Z9 at h9
  refine ⟨fun hk => ?_, fun hk => ?_, fun hk => ?_, fun hk => ?_, ?_⟩
  ·rw [hk] at h9; simp at h9; omega
  ·rcases hk with hk | hk <;> (rw [hk] at h9; simp at h9; omega)
  ·rw [hk] at h9; simp at h9; omega
  ·rcases hk with hk | hk <;> (rw [hk] at h9; simp at h9; omega)
  ·left
   repeat' split at h9
   all_goals omega
 ·exact ⟨fun hk => by omega, fun hk => by omega, fun hk => by omega, fun hk => by omega, .inr ⟨h0, h1, h2, h3⟩⟩
theorem LwT.sh {t : Tm} (h : LwT t) : ShT t := by
 induction t using Tm.rec_ with
 | h t ihk iha =>
  refine .mk ?_ (fun u hu => ihk u hu (h.kid hu)) (fun a ha => iha a ha (h.arm ha))
  obtain ⟨h1, h2, h3, h4, h5⟩ := h.here.lens
  exact ⟨fun hk => by have := h1 hk; omega, fun hk => by have := h2 (.inr hk); omega⟩
structure Bd where
 kind : Int
 name : Str
 code : Cd
def ZU (t : Tm) : Bool := decide (1 ≤ t.kind) && decide (t.kind ≤ 5)
def Zz (sel : Bool) (t : Tm) : Int := if (ZU t || sel && quietT t) = true then 7 else 8
def cd2 (k : Int) (s p : Str) (a b : Cd) : Cd := ⟨k, s, p, 0, [a, b], []⟩
def Zd : List Bd → Cd → Cd
 | [], c => c
 | b :: l, c => cd2 b.kind b.name [] b.code (Zd l c)
theorem around_snoc (l : List Bd) (b : Bd) (c : Cd) : Zd (l ++ [b]) c = Zd l (cd2 b.kind b.name [] b.code c) := by
 induction l with
 | nil => rfl
 | cons x l ih => show cd2 _ _ _ _ (Zd (l ++ [b]) c) = cd2 _ _ _ _ _; rw [ih]
def Zl (n : Nat) : Str := 39 :: Go.Lib.decDigits n
def zCE (s : Str) : Cd := ⟨1, s, [], 0, [], []⟩
abbrev Gen := Tm → Nat → Cd × Nat
def kidA (g : Gen) (t : Tm) (n : Nat) : Cd := if ZU t then (g t n).1 else zCE (Zl ((g t n).2 + 1))
def zCs (g : Gen) (t : Tm) (n : Nat) : Nat := if ZU t then (g t n).2 else (g t n).2 + 1
def kidB (sel : Bool) (g : Gen) (t : Tm) (n : Nat) : List Bd := if ZU t then [] else [⟨Zz sel t, Zl ((g t n).2 + 1), (g t n).1⟩]
def Zu (g : Gen) : List Tm → Nat → List Cd
 | [], _ => []
 | t :: ts, n => kidA g t n :: Zu g ts (zCs g t n)
def zAe (sel : Bool) (g : Gen) : List Tm → Nat → List Bd
 | [], _ => []
 | t :: ts, n => kidB sel g t n ++ zAe sel g ts (zCs g t n)
def zAS (g : Gen) : List Tm → Nat → Nat
 | [], n => n
 | t :: ts, n => zAS g ts (zCs g t n)
def seqA (g : Gen) : List Tm → Nat → List Cd
 | [], _ => []
 | t :: ts, n => (g t n).1 :: seqA g ts (g t n).2
def seqN (g : Gen) : List Tm → Nat → Nat
 | [], n => n
 | t :: ts, n => seqN g ts (g t n).2
def armC (g : Gen) (a : Ar) (n : Nat) : Ca := ⟨a.name, a.vars, false, (g a.body n).1⟩
def armA (g : Gen) : List Ar → Nat → List Ca
 | [], _ => []
 | a :: ts, n => armC g a n :: armA g ts (g a.body n).2
def zEI (g : Gen) : List Ar → Nat → Nat
 | [], n => n
 | a :: ts, n => zEI g ts (g a.body n).2
def zCF (tl : Bool) (i : Nat) (a : Ar) : Bool := (zBf a).2 && tl && decide (0 < i)
def zAJ (tl : Bool) (i : Nat) (a : Ar) : Tm := if zCF tl i a then (zBf a).1 else a.body
def zCv (tl : Bool) (i : Nat) (a : Ar) : List Str := if zCF tl i a then a.vars.take 1 else a.vars
def proA (tl : Bool) (g : Gen) : Nat → List Ar → Nat → List Ca
 | _, [], _ => []
 | i, a :: ts, n => ⟨a.name, zCv tl i a, zCF tl i a, (g (zAJ tl i a) n).1⟩ :: proA tl g (i + 1) ts (g (zAJ tl i a) n).2
def proN (tl : Bool) (g : Gen) : Nat → List Ar → Nat → Nat
 | _, [], n => n
 | i, a :: ts, n => proN tl g (i + 1) ts (g (zAJ tl i a) n).2
def zAs (k : Int) : Int := if k = 6 then 6 else if k = 9 then 10 else if k = 10 then 11 else if k = 11 then 12 else if k = 12 then 13 else if k = 13 then 14 else 0
def zp (t : Tm) : Nat := if t.kind = 9 ∨ t.kind = 12 then 1 else t.kids.length
def zDJ (t : Tm) : Str := if t.kind = 10 ∨ t.kind = 11 ∨ t.kind = 13 then t.name else []
def kid (t : Tm) (i : Nat) : Tm := t.kids.getD i Zv
def zED (g : Gen) (t : Tm) (n : Nat) : Nat := seqN g (t.kids.drop (zp t)) (zAS g (t.kids.take (zp t)) n)
def zCX (g : Gen) (t : Tm) (n : Nat) : Cd := ⟨zAs t.kind, zDJ t, [], 0, Zu g (t.kids.take (zp t)) n ++ seqA g (t.kids.drop (zp t)) (zAS g (t.kids.take (zp t)) n), armA g t.arms (zED g t n)⟩
def ZS (sel tl : Bool) (g : Gen) : Gen := fun t n =>
 if t.kind = 7 then (cd2 (Zz sel (kid t 0)) t.name [] (g (kid t 0) n).1 (g (kid t 1) (g (kid t 0) n).2).1, (g (kid t 1) (g (kid t 0) n).2).2)
 else if t.kind = 8 then (cd2 9 t.name t.param (g (kid t 0) n).1 (g (kid t 1) (g (kid t 0) n).2).1, (g (kid t 1) (g (kid t 0) n).2).2)
 else if t.kind = 14 then (⟨15, t.name, [], 0, [(g (kid t 0) n).1], proA tl g 0 t.arms (g (kid t 0) n).2⟩, proN tl g 0 t.arms (g (kid t 0) n).2)
 else if t.kind = 5 then (⟨5, t.name, [], 0, [(g (kid t 0) n).1], []⟩, (g (kid t 0) n).2)
 else if ZU t then (⟨t.kind, if t.kind = 1 then t.name else [], [], if t.kind = 2 ∨ t.kind = 3 then t.n else 0, [], []⟩, n)
 else (Zd (zAe sel g (t.kids.take (zp t)) n) (zCX g t n), zEI g t.arms (zED g t n))
theorem body7 {sel tl : Bool} {g : Gen} {t : Tm} {n : Nat} (h : t.kind = 7) : ZS sel tl g t n = (cd2 (Zz sel (kid t 0)) t.name [] (g (kid t 0) n).1 (g (kid t 1) (g (kid t 0) n).2).1, (g (kid t 1) (g (kid t 0) n).2).2) := if_pos h
theorem body8 {sel tl : Bool} {g : Gen} {t : Tm} {n : Nat} (h : t.kind = 8) : ZS sel tl g t n = (cd2 9 t.name t.param (g (kid t 0) n).1 (g (kid t 1) (g (kid t 0) n).2).1, (g (kid t 1) (g (kid t 0) n).2).2) := by
 unfold ZS; rw [if_neg (by omega), if_pos h]
theorem body14 {sel tl : Bool} {g : Gen} {t : Tm} {n : Nat} (h : t.kind = 14) : ZS sel tl g t n = (⟨15, t.name, [], 0, [(g (kid t 0) n).1], proA tl g 0 t.arms (g (kid t 0) n).2⟩, proN tl g 0 t.arms (g (kid t 0) n).2) := by
 unfold ZS; rw [if_neg (by omega), if_neg (by omega), if_pos h]
theorem body5 {sel tl : Bool} {g : Gen} {t : Tm} {n : Nat} (h : t.kind = 5) : ZS sel tl g t n = (⟨5, t.name, [], 0, [(g (kid t 0) n).1], []⟩, (g (kid t 0) n).2) := by
 unfold ZS; rw [if_neg (by omega), if_neg (by omega), if_neg (by omega), if_pos h]
theorem bodyA {sel tl : Bool} {g : Gen} {t : Tm} {n : Nat} (h7 : ¬ t.kind = 7) (h8 : ¬ t.kind = 8) (h14 : ¬ t.kind = 14) (h5 : ¬ t.kind = 5) (h : ZU t = true) : ZS sel tl g t n = (⟨t.kind, if t.kind = 1 then t.name else [], [], if t.kind = 2 ∨ t.kind = 3 then t.n else 0, [], []⟩, n) := by
 unfold ZS; rw [if_neg h7, if_neg h8, if_neg h14, if_neg h5, if_pos h]
theorem bodyC {sel tl : Bool} {g : Gen} {t : Tm} {n : Nat} (h7 : ¬ t.kind = 7) (h8 : ¬ t.kind = 8) (h14 : ¬ t.kind = 14) (h5 : ¬ t.kind = 5) (h : ¬ ZU t = true) : ZS sel tl g t n = (Zd (zAe sel g (t.kids.take (zp t)) n) (zCX g t n), zEI g t.arms (zED g t n)) := by
 unfold ZS; rw [if_neg h7, if_neg h8, if_neg h14, if_neg h5, if_neg h]
def zT (sel tl : Bool) : Nat → Gen
 | 0 => fun _ n => (⟨0, [], [], 0, [], []⟩, n)
 | f + 1 => ZS sel tl (zT sel tl f)
theorem last_sub {a : Ar} : (zBf a).2 = true → ∃ u ∈ a.body.kids, (zBf a).1 = u := by
 intro h
 by_cases hc : zEG a
 ·have h1 := hc.2.2.2.1
  obtain ⟨x, hx⟩ : ∃ x, a.body.kids[1]? = some x := ⟨a.body.kids[1]'(by omega), List.getElem?_eq_getElem (by omega)⟩
  refine ⟨x, List.mem_of_getElem? hx, ?_⟩
  unfold zBf; rw [if_pos hc]; show a.body.kids.getD 1 Zv = x
  rw [List.getD_eq_getElem?_getD, hx]; rfl
 ·rw [zBp hc] at h; cases h
theorem pro_low {tl : Bool} {i : Nat} {a : Ar} (h : LwT a.body) : LwT (zAJ tl i a) ∧ zP (zAJ tl i a) ≤ zP a.body ∧ zt (zAJ tl i a) ≤ zt a.body := by
 unfold zAJ
 split
 ·rename_i hp
  unfold zCF at hp
  simp only [Bool.and_eq_true] at hp
  obtain ⟨u, hu, e⟩ := last_sub hp.1.1
  rw [e]
  exact ⟨h.kid hu, by have := zr a.body; have := ZH hu; omega, by have := Zi a.body; have := Zc hu; omega⟩
 ·exact ⟨h, Nat.le_refl _, Nat.le_refl _⟩
theorem kid_mem {t : Tm} {i : Nat} (h : i < t.kids.length) : kid t i ∈ t.kids := by
 unfold kid; rw [List.getD_eq_getElem?_getD, List.getElem?_eq_getElem h]; exact List.getElem_mem h
def GenN (f : Nat) (g : Gen) : Prop := ∀ t n, LwT t → zP t ≤ f → n ≤ (g t n).2 ∧ (g t n).2 + 1 ≤ n + zP t
theorem zDz {f : Nat} {g : Gen} (hg : GenN f g) : ∀ (l : List Tm) (n : Nat), (∀ u ∈ l, LwT u ∧ zP u ≤ f) → n ≤ zAS g l n ∧ zAS g l n ≤ n + zR l
 | [], n, _ => ⟨Nat.le_refl _, Nat.le_add_right _ _⟩
 | t :: ts, n, h => by
  have h1 := hg t n (h t (.head _)).1 (h t (.head _)).2
  have h2 := zDz hg ts (zCs g t n) (fun u hu => h u (.tail _ hu))
  have h3 : n ≤ zCs g t n ∧ zCs g t n ≤ n + zP t := by unfold zCs; split <;> omega
  rw [zAS, zR]; omega
theorem seqN_le {f : Nat} {g : Gen} (hg : GenN f g) : ∀ (l : List Tm) (n : Nat), (∀ u ∈ l, LwT u ∧ zP u ≤ f) → n ≤ seqN g l n ∧ seqN g l n ≤ n + zR l
 | [], n, _ => ⟨Nat.le_refl _, Nat.le_add_right _ _⟩
 | t :: ts, n, h => by
  have h1 := hg t n (h t (.head _)).1 (h t (.head _)).2
  have h2 := seqN_le hg ts (g t n).2 (fun u hu => h u (.tail _ hu))
  rw [seqN, zR]; omega
theorem armN_le {f : Nat} {g : Gen} (hg : GenN f g) : ∀ (l : List Ar) (n : Nat), (∀ a ∈ l, LwT a.body ∧ zP a.body ≤ f) → n ≤ zEI g l n ∧ zEI g l n ≤ n + zo l
 | [], n, _ => ⟨Nat.le_refl _, Nat.le_add_right _ _⟩
 | t :: ts, n, h => by
  have h1 := hg t.body n (h t (.head _)).1 (h t (.head _)).2
  have h2 := armN_le hg ts (g t.body n).2 (fun u hu => h u (.tail _ hu))
  rw [zEI, ZD]; omega
theorem proN_le {f : Nat} {g : Gen} (hg : GenN f g) (tl : Bool) : ∀ (l : List Ar) (i n : Nat), (∀ a ∈ l, LwT a.body ∧ zP a.body ≤ f) → n ≤ proN tl g i l n ∧ proN tl g i l n ≤ n + zo l
 | [], _, n, _ => ⟨Nat.le_refl _, Nat.le_add_right _ _⟩
 | t :: ts, i, n, h => by
  have h0 := pro_low (tl := tl) (i := i) (h t (.head _)).1
  have h1 := hg (zAJ tl i t) n h0.1 (Nat.le_trans h0.2.1 (h t (.head _)).2)
  have h2 := proN_le hg tl ts (i + 1) (g (zAJ tl i t) n).2 (fun u hu => h u (.tail _ hu))
  rw [proN, ZD]; omega
theorem zBI (l : List Tm) (k : Nat) : zR (l.take k) + zR (l.drop k) = zR l := by
 induction l generalizing k with
 | nil => simp [zR]
 | cons t ts ih => cases k with
  | zero => simp [zR]
  | succ k => simp only [List.take_succ_cons, List.drop_succ_cons, zR]; have := ih k; omega
theorem zBc (sel tl : Bool) : ∀ f, GenN f (zT sel tl f)
 | 0, t, n, _, hc => by have := zr t; omega
 | f + 1, t, n, hl, hc => by
  have hg := zBc sel tl f
  have hce := zr t
  obtain ⟨h1, h2, h3, h4, h5⟩ := hl.here.lens
  have hks : ∀ u ∈ t.kids, LwT u ∧ zP u ≤ f := fun u hu => ⟨hl.kid hu, by have := ZH hu; omega⟩
  have has : ∀ a ∈ t.arms, LwT a.body ∧ zP a.body ≤ f := fun a ha => ⟨hl.arm ha, by have := zAE ha; omega⟩
  have hk : ∀ i, i < t.kids.length → ∀ n, n ≤ (zT sel tl f (kid t i) n).2 ∧ (zT sel tl f (kid t i) n).2 + 1 ≤ n + zP (kid t i) := fun i hi n => hg _ n (hks _ (kid_mem hi)).1 (hks _ (kid_mem hi)).2
  have two : t.kids.length = 2 → zP (kid t 0) + zP (kid t 1) = zR t.kids := fun h => by
   unfold kid
   match t.kids, h with
   | [a, b], _ => simp [zR]
  have one : t.kids.length = 1 → zP (kid t 0) = zR t.kids := fun h => by
   unfold kid
   match t.kids, h with
   | [a], _ => simp [zR]
  rw [show zT sel tl (f + 1) t n = ZS sel tl (zT sel tl f) t n from rfl]
  generalize zT sel tl f = g at hg hk
  by_cases hk7 : t.kind = 7
  ·rw [body7 hk7]; have hl2 := h2 (.inl hk7); have e1 := hk 0 (by omega) n; have e2 := hk 1 (by omega) (g (kid t 0) n).2; have := two hl2; dsimp only; omega
  by_cases hk8 : t.kind = 8
  ·rw [body8 hk8]; have hl2 := h2 (.inr hk8); have e1 := hk 0 (by omega) n; have e2 := hk 1 (by omega) (g (kid t 0) n).2; have := two hl2; dsimp only; omega
  by_cases hk14 : t.kind = 14
  ·rw [body14 hk14]; have hl1 := h4 (.inr hk14); have e1 := hk 0 (by omega) n; have e2 := proN_le hg tl t.arms 0 (g (kid t 0) n).2 has; have := one hl1; dsimp only; omega
  by_cases hk5 : t.kind = 5
  ·rw [body5 hk5]; have hl1 := h1 hk5; have e1 := hk 0 (by omega) n; have := one hl1; dsimp only; omega
  by_cases hlt : ZU t = true
  ·rw [bodyA hk7 hk8 hk14 hk5 hlt]; dsimp only; omega
  ·rw [bodyC hk7 hk8 hk14 hk5 hlt]
   have e1 := zDz hg (t.kids.take (zp t)) n (fun u hu => hks u (List.mem_of_mem_take hu))
   have e2 := seqN_le hg (t.kids.drop (zp t)) (zAS g (t.kids.take (zp t)) n) (fun u hu => hks u (List.mem_of_mem_drop hu))
   have e3 := armN_le hg t.arms (zED g t n) has
   have e4 := zBI t.kids (zp t)
   unfold zED at e3 ⊢; dsimp only; omega
def zCu (sel tl : Bool) (t : Tm) : Cd := (zT sel tl (zP t) t 0).1
end Go.Proofs.YtmdhhjmomilhjaaDoor
namespace Go.Proofs
open Go.Shelf
open Go.Lib in
open Go.Lib in
open Go.Lib in
open Go.Lib in
open Go.RowKit Go.Sort Go.Lib in
open Go.RowKit Go.Sort Go.Lib in
open Go.RowKit Go.Sort Go.Lib in
open Go.RowKit Go.Sort Go.Lib in
open Go.RowKit Go.Sort Go.Lib in
def Tryd.laysM171_ren : Go.Shelf.Ren := ⟨fun | 171 => 56 | 243 => 69 | 246 => 84 | 283 => 92 | 284 => 93 | 285 => 94 | 286 => 95 | 129 => 101 | 317 => 100 | 318 => 102 | 319 => 103 | 320 => 104 | 337 => 105 | 338 => 106 | n => n, fun | 3 => 3 | 9 => 9 | 2 => 2 | 4 => 4 | 171 => 152 | 0 => 0 | 53 => 153 | 37 => 130 | 5 => 5 | 173 => 156 | 212 => 162 | 51 => 163 | 20 => 20 | 213 => 164 | 46 => 166 | 232 => 169 | 233 => 170 | n => n, fun | 17 => 0 | 18 => 1 | 19 => 2 | n => n⟩
theorem Tryd.laysM171 : Go.Proofs.LaysM.n171 Tryd.prog Tryd.laysM171_ren := {
 mixed := by kernel_rfl
 f129 := func101.trans (congrArg some (by kernel_rfl))
 f171 := func56.trans (congrArg some (by kernel_rfl))
 f243 := func69.trans (congrArg some (by kernel_rfl))
 f246 := func84.trans (congrArg some (by kernel_rfl))
 f283 := func92.trans (congrArg some (by kernel_rfl))
 f284 := func93.trans (congrArg some (by kernel_rfl))
 f285 := func94.trans (congrArg some (by kernel_rfl))
 f286 := func95.trans (congrArg some (by kernel_rfl))
 f317 := func100.trans (congrArg some (by kernel_rfl))
 f318 := func102.trans (congrArg some (by kernel_rfl))
 f319 := func103.trans (congrArg some (by kernel_rfl))
 f320 := func104.trans (congrArg some (by kernel_rfl))
 f337 := func105.trans (congrArg some (by kernel_rfl))
 f338 := func106.trans (congrArg some (by kernel_rfl))
 t0 := underlying0
 a0 := isAgg0
 z0 := sizeOf0
 v0 := zeroValue0
 t2 := underlying2
 a2 := isAgg2
 z2 := sizeOf2
 v2 := zeroValue2
 t3 := underlying3
 a3 := isAgg3
 z3 := sizeOf3
 v3 := zeroValue3
 t4 := underlying4
 a4 := isAgg4
 z4 := sizeOf4
 v4 := zeroValue4
 t5 := underlying5
 a5 := isAgg5
 z5 := sizeOf5
 v5 := zeroValue5
 t9 := underlying9
 a9 := isAgg9
 z9 := sizeOf9
 v9 := zeroValue9
 t20 := underlying20
 a20 := isAgg20
 z20 := sizeOf20
 v20 := zeroValue20
 t37 := underlying130
 a37 := isAgg130
 z37 := sizeOf130
 v37 := zeroValue130
 t46 := underlying166
 a46 := isAgg166
 z46 := sizeOf166
 v46 := zeroValue166
 t51 := underlying163
 a51 := isAgg163
 z51 := sizeOf163
 v51 := zeroValue163
 t53 := underlying153
 a53 := isAgg153
 z53 := sizeOf153
 v53 := zeroValue153
 t171 := underlying152
 a171 := isAgg152
 z171 := sizeOf152
 v171 := zeroValue152
 t173 := underlying156
 a173 := isAgg156
 z173 := sizeOf156
 v173 := zeroValue156
 t212 := underlying162
 a212 := isAgg162
 z212 := sizeOf162
 v212 := zeroValue162
 t213 := underlying164
 a213 := isAgg164
 z213 := sizeOf164
 t232 := underlying169
 a232 := isAgg169
 z232 := sizeOf169
 v232 := zeroValue169
 t233 := underlying170
 a233 := isAgg170
 z233 := sizeOf170
 v233 := zeroValue170
 g17 := by kernel_rfl
 g18 := by kernel_rfl
 g19 := by kernel_rfl
 i0 := by kernel_rfl
 i2 := by kernel_rfl
 i3 := by kernel_rfl
 i4 := by kernel_rfl
 i5 := by kernel_rfl
 i9 := by kernel_rfl
 i20 := by kernel_rfl
 i37 := by kernel_rfl
 i46 := by kernel_rfl
 i51 := by kernel_rfl
 i53 := by kernel_rfl
 i171 := by kernel_rfl
 i173 := by kernel_rfl
 i212 := by kernel_rfl
 i232 := by kernel_rfl
 i233 := by kernel_rfl
 m17 := by kernel_rfl
 m18 := by kernel_rfl
 m19 := by kernel_rfl }
open Go.RowKit Go.Sort Go.Lib in
theorem Tryd.strconv_Itoa (n : Int) (h0 : -9223372036854775808 ≤ n) (h1 : n ≤ 9223372036854775807) (w : World) (htab : Lib.TabIs Tryd.prog w "internal/strconv.uint64pow10" .u64 Lib.pow10Tab) :
  Calls Tryd.prog 56 #[.int .i64 n] w fun e w' => e = .returned (.string ⟨(Lib.itoa n).toArray⟩) ∧ ∃ k os, w' = grow (w.drewN k) os := Any.strconv_Itoa Tryd.laysM171 n h0 h1 w htab
open Go.RowKit Go.Sort Go.Lib in
def Tryd.laysNm216_ren : Go.Shelf.Ren := ⟨fun | 16 => 44 | n => n, fun | 24 => 27 | 9 => 9 | 4 => 4 | n => n, fun | n => n⟩
theorem Tryd.laysNm216 : Go.Proofs.Lays2.n16 Tryd.prog Tryd.laysNm216_ren := {
 mixed := by kernel_rfl
 f16 := func44.trans (congrArg some (by kernel_rfl))
 t4 := underlying4
 a4 := isAgg4
 z4 := sizeOf4
 v4 := zeroValue4
 t9 := underlying9
 a9 := isAgg9
 z9 := sizeOf9
 v9 := zeroValue9
 t24 := underlying27
 a24 := isAgg27
 z24 := sizeOf27
 v24 := zeroValue27
 i9 := by kernel_rfl }
open Go.RowKit Go.Lib in
theorem Tryd.slices_Clone_string (b off n c : Nat) (zs : List ByteArray) (w : World) (hz : n ≤ zs.length) (hbig : n * 16 ≤ 140737488355328) (hc : ∀ j, j < zs.length → w.cell? ⟨b, off + j, none⟩ = some (.string (zs.getD j ByteArray.empty))) :
  Calls Tryd.prog 44 #[.slice (some ⟨b, off, none⟩) n c] w fun e w' => ∃ v', e = .returned v' ∧ w'.ownsRow w.heap.size 9 1 v' n ((zs.take n).map (Value.string)) ∧ v' ≠ .slice none 0 0 ∧ Below w.heap.size w w' := Any.slices_Clone_string Tryd.laysNm216 b off n c zs w hz hbig hc
open Go.RowKit Go.Lib in
theorem Tryd.slices_Clone_string_nil (n c : Nat) (w : World) :
  Calls Tryd.prog 44 #[.slice none n c] w fun e w' => e = .returned (.slice none 0 0) ∧ w' = w := Any.slices_Clone_string_nil Tryd.laysNm216 n c w
open Go.RowKit Go.Lib in
theorem Tryd.slices_Clone_string_zero (a : Addr) (c : Nat) (w : World) :
  Calls Tryd.prog 44 #[.slice (some a) 0 c] w fun e w' => ∃ v', e = .returned v' ∧ w'.ownsRow w.heap.size 9 1 v' 0 [] ∧ v' ≠ .slice none 0 0 ∧ Below w.heap.size w w' := Any.slices_Clone_string_zero Tryd.laysNm216 a c w
end Go.Proofs
namespace Go.Proofs.YtmdhhjmomilhjaaDoor
set_option linter.all false
open Go.RowKit Go.MapKept
section
variable {κ : Type} [DecidableEq κ]
end
section
variable {rd : Option Nat} {P : Program} {l : List Oper} {G0 : List Nat} {W : World} {mE m0 : Mem} {L : List Res} {tch : Tch} {T : List (Nat × Value)} {κ : Type} [DecidableEq κ] {enc : κ → Value} {im p : Nat} {ins : List (Nat × κ × Value)}
end
section
variable {P : Program} {K : World → Mem → Prop} {m0 : Mem} {L : List Res} {us : List Nat} {ch : List (Nat × Bool)} {pre : List Ent} {T : List (Nat × Value)}
variable {dst : Option Nat} {ty : TypeId} {pos : String} {af : Array Edge} {gd : Option (Nat × Bool)}
end
section slice3
variable {P : Program} {K : World → Mem → Prop} {m0 : Mem} {L : List Res} {us : List Nat} {ch : List (Nat × Bool)} {pre : List Ent} {T : List (Nat × Value)} {dst : Option Nat} {ty : TypeId} {pos : String} {af : Array Edge} {gd : Option (Nat × Bool)}
theorem ob_slice3 [KC K m0 L] {t e : TypeId} {x hi mx : Operand} {o : Option Addr} {len cap sz h k : Nat} (hx : ev us ch pre T x = some (.slice o len cap)) (hhi : Bnd us ch pre T (some hi) 0 h) (hmx : Bnd us ch pre T (some mx) 0 k)
  (ht : P.underlying t = some (.slice e)) (hz : ∀ w, (sizeOf e).run P w = .ok sz w) (h1 : h ≤ k) (h2 : k ≤ cap) :
  Ob P K us ch pre T ⟨dst, .slice t x none (some hi) (some mx), ty, pos, af, gd⟩ (.eq (.slice (if k = 0 then o else o.map (·.add (0 * sz))) (h - 0) (k - 0))) :=
 Zg fun σ w m _ hn => by
  have hb : ∀ (i y : Nat) (ik : IntKind) (cd : BoundsCode), i ≤ y → (Instr.sliceBound (.int ik (i : Int)) y cd).run P w = .ok i w := fun i y ik cd hh => by
   simp [Instr.sliceBound, asIntOf, hh]
  cases hhi with
  | some g1 e1 => cases hmx with
   | some g2 e2 => subst e1; subst e2; simp [execOp, hn.ev hx, hn.ev g1, hn.ev g2, Instr.sliceAt, Instr.slice, run_underlying ht, Instr.sliceBounds, hz, hb _ _ _ _ h1, hb _ _ _ _ h2]
end slice3
end Go.Proofs.YtmdhhjmomilhjaaDoor
namespace Go.Proofs.YtmdhhjmomilhjaaDoor
open Go.Proofs.Tryd
set_option linter.all false
set_option maxRecDepth 4000
open Go.RowKit
open Go.Lib (itoa decDigits)
def zDF (k : Int) : Int := if 1 ≤ k ∧ k ≤ 5 then k else 0
def zAT (k : Int) : Bool := decide (1 ≤ k) && decide (k ≤ 5)
def zAD (k : Int) : Int := if k = 9 ∨ k = 12 then 1 else -1
theorem zCV (k : Int) : zAs k = if k = 6 then 6 else if k = 9 then 10 else if k = 10 then 11 else if k = 11 then 12 else if k = 12 then 13 else if k = 13 then 14 else 0 := rfl
theorem nameQ_itoa (n : Nat) : [39] ++ itoa (n : Int) = Zl n := by
 unfold Zl itoa
 rw [if_neg (by omega)]
 simp
theorem below_grow' (w : World) (k : Nat) (os : Array Obj) : Below w.heap.size w (Go.Sort.grow (w.drewN k) os) :=
 ⟨rfl, rfl, rfl, by simp only [Go.Sort.grow, World.drewN, Array.size_append]; omega, fun b hb => by simp only [Go.Sort.grow, World.drewN]; rw [Array.getElem?_append_left hb]⟩
theorem fn_calls {P : Program} {f : FuncId} {args : Array Value} {w : World} {m : Mem} {c : Value} (hA : Agree w m) (h : Calls P f args w fun e w' => e = .returned c ∧ Below w.heap.size w w') : FnV P f args w m fun _ _ v => v = c :=
 Calls.mono h fun e w' ⟨e1, hb⟩ => ⟨c, m, e1, ExtG.of_below hA hb, rfl⟩
theorem zBb {w w' : World} {m : Mem} {e : TypeId} {size n : Nat} {v : Value} {xs : List Value} (ha : Agree w m) (h : w'.ownsRow w.heap.size e size v n xs) (hb : Below w.heap.size w w') : Touch .free (.mrow v n size e xs) w m w' m := by
 obtain ⟨hl, h⟩ := h
 rcases h with ⟨rfl, rfl⟩ | ⟨g, cap, cur, rfl, hg, hh, h1, h2, h3, h4⟩
 ·exact ⟨(ExtG.of_below ha hb).mono (by simp), ⟨hl, none, 0, rfl, Nat.le_refl _, Nat.zero_le _, .inl rfl⟩, List.nodup_nil, fun g hg => by cases hg⟩
 ·exact mrow_new ha hl h1 h2 h3 h4 hb hg hh
theorem cloneS_t {w : World} {m : Mem} {o : Option Addr} {c : Nat} {l : List Str} (hA : Agree w m) (h : Strs m o l.length c l) (hbig : l.length ≤ 1073741824) :
  Calls Tryd.prog 44 #[.slice o l.length c] w fun e w' => ∃ v m', e = .returned v ∧ Touch .free (.mrow v l.length 1 9 (l.map S)) w m w' m' ∧ (Kn.ex (MP.made' l.length)).holds m' v := by
 cases o with
 | none =>
  cases l with
  | cons x l => obtain ⟨p, vs, e, _⟩ := h.at_ 0 x rfl; cases e
  | nil =>
   refine Calls.mono (Tryd.slices_Clone_string_nil 0 c w) fun e w' ⟨e1, e2⟩ => ⟨_, m, e1, ?_, (none, 0), rfl, Nat.le_refl _⟩
   subst e2
   exact ⟨ExtG.refl _ hA, ⟨rfl, none, 0, rfl, Nat.le_refl _, Nat.zero_le _, .inl rfl⟩, List.nodup_nil, fun g hg => by cases hg⟩
 | some p =>
  cases l with
  | nil =>
   refine Calls.mono (Tryd.slices_Clone_string_zero p c w) fun e w' ⟨v, e1, e2, _, e3⟩ => ⟨v, m, e1, zBb hA e2 e3, ?_⟩
   obtain ⟨o', cap', e4, e5, _⟩ := Res.mrow_val (zBb hA e2 e3).now
   exact ⟨(o', cap'), e4, e5⟩
  | cons x l =>
   have hr := h.row1 (f := S)
   rcases hr with hr | ⟨q, e0, hc⟩
   ·simp at hr
   ·injection e0 with e0; subst e0
    obtain ⟨b, off, spot⟩ := p
    obtain rfl : spot = none := hc.1
    refine Calls.mono (Tryd.slices_Clone_string b off (x :: l).length c ((x :: l).map fun s => (⟨s.toArray⟩ : ByteArray)) w (by simp) (by omega) (fun j hj => ?_)) fun e w' ⟨v, e1, e2, _, e3⟩ => ?_
    ·have hj' : j < (x :: l).length := by simpa using hj
     have h1 := hA.cell _ _ _ (hc.2 j (S (x :: l)[j]) (by rw [List.getElem?_map, List.getElem?_eq_getElem hj']; rfl))
     rw [h1, List.getD_eq_getElem?_getD, List.getElem?_map, List.getElem?_eq_getElem hj']; rfl
    ·rw [List.take_of_length_le (by simp), List.map_map] at e2
     have ht := zBb hA e2 e3
     obtain ⟨o', cap', e4, e5, _⟩ := Res.mrow_val ht.now
     exact ⟨v, m, e1, ht, (o', cap'), e4, e5⟩
theorem cloneR_t {w : World} {m : Mem} {o : Option Addr} {c : Nat} {l : List Str} (hA : Agree w m) (h : Strs m o l.length c l) (hbig : l.length ≤ 1073741824) :
  Calls Tryd.prog 44 #[.slice o l.length c] w fun e w' => ∃ v m', e = .returned v ∧ Touch .free (.row (nz v) l.length 1 9 (l.map S)) w m w' m' ∧ (Kn.ex (MP.sl l.length (l.map S))).holds m' v :=
 Calls.mono (cloneS_t hA h hbig) fun e w' ⟨v, m1, e1, ht, _⟩ => by
  obtain ⟨m2, ht2, o', c', e2, h1, _, h2⟩ := mrow_freeze ht.ext.agree ht.now
  exact ⟨v, m2, e1, ht.trans ht2, (o', c'), e2, h2, h1⟩
theorem cloneF_c {w : World} {m : Mem} {o : Option Addr} {c : Nat} {l : List Str} (hA : Agree w m) (h : Strs m o l.length c l) (hbig : l.length ≤ 1073741824) :
  FnV Tryd.prog 44 #[.slice o l.length c] w m fun _ m' v => (MP.strs l).p m' v :=
 Calls.mono (cloneR_t hA h hbig) fun e w' ⟨v, m2, e1, ht, (o', c'), e2, h2, h1⟩ => ⟨v, m2, e1, ht.ext, (o', c'), e2, Sl.of_row (f := fun x => [S x]) (by rw [List.map_eq_flatMap] at h2; exact h2) rfl h1 (by omega) (by omega) fun _ _ => ⟨rfl, rfl⟩⟩
abbrev Tab (w : World) : Prop := Go.Lib.TabIs Tryd.prog w "internal/strconv.uint64pow10" .u64 Go.Lib.pow10Tab
theorem zBk {W w : World} {mE m : Mem} (h : Tab W) (hX : ExtG [] W mE w m) : Tab w := by
 unfold Tab Go.Lib.TabIs World.var? at h ⊢
 cases hg : Tryd.prog.globalNamed "internal/strconv.uint64pow10" with
 | none => rw [hg] at h; cases h
 | some g =>
  rw [hg] at h
  simp only [Option.bind_some] at h ⊢
  cases hh : W.heap[g]? with
  | none => rw [hh] at h; cases h
  | some o => rw [hX.block g (ZQ hh) (by simp), hh]; rw [hh] at h; exact h
def Zx (r : Nat) : Prop := Tryd.prog.globalNamed "internal/strconv.uint64pow10" ≠ some r
theorem ZO {G : List Nat} {W w : World} {mE m : Mem} (h : Tab W) (hX : ExtG G W mE w m) (hG : ∀ r ∈ G, Zx r) : Tab w := by
 unfold Tab Go.Lib.TabIs World.var? at h ⊢
 unfold Zx at hG
 cases hg : Tryd.prog.globalNamed "internal/strconv.uint64pow10" with
 | none => rw [hg] at h; cases h
 | some g =>
  rw [hg] at h hG
  simp only [Option.bind_some] at h ⊢
  have hnG : g ∉ G := fun hh => hG g hh rfl
  cases hh : W.heap[g]? with
  | none => rw [hh] at h; cases h
  | some o => rw [hX.block g (ZQ hh) hnG, hh]; rw [hh] at h; exact h
theorem notTab_new {w : World} {r : Nat} (h : Tab w) (hr : w.heap.size ≤ r) : Zx r := by
 unfold Tab Go.Lib.TabIs World.var? at h
 unfold Zx
 intro e
 rw [e] at h
 simp only [Option.bind_some] at h
 rw [Array.getElem?_eq_none hr] at h; cases h
theorem itoa_c {w : World} {m : Mem} {n : Int} (hA : Agree w m) (hT : Tab w) (hn : Z8 n) : FnV Tryd.prog 56 #[.int .i64 n] w m fun _ _ v => v = S (Go.Lib.itoa n) :=
 fn_calls hA (Calls.mono (Tryd.strconv_Itoa n hn.1 hn.2 w hT) fun e w' ⟨e1, k, os, e2⟩ => ⟨e1, by rw [e2]; exact below_grow' w k os⟩)
set_option maxHeartbeats 400000 in
theorem atoms_c {w : World} {m : Mem} {k : Int} (hA : Agree w m)  : FnV Tryd.prog 55 #[.int .i64 k] w m (fun _ _ v => v = .tuple #[.int .i64 (zDF k), .bool (zAT k)]) := by
 refine zX (vs := [_]) func55 rfl rfl rfl fun a0 hfr0 => ?_
 have hst0 := zW hA (zf [] _ w m)
 have hM : MLe m m := MLe.refl m
 refine zB fun _ hK1 => ?_
 refine rp0 hst0 hfr0 (.cons rfl (zC rfl) <| .cons rfl (zC rfl) <| .nil) fun a1 w1 m1 hst1 hle1 hk1 => ?_
 have hfr1 := hk1.fr (.o 0 <| .nil)
 clear hst0 hfr0 hk1
 refine hK1 _ _ ?_
 refine zB fun _ hK2 => ?_
 refine zB fun _ hK3 => ?_
 refine rp0 hst1 hfr1 (.cons rfl (zD rfl) <| .nil) fun a2 w2 m2 hst2 hle2 hk2 => ?_
 have hfr2 := hk2.fr (.n 4 <| .nil)
 clear hst1 hfr1 hk2
 refine hK3 _ _ ?_
 refine zN ?_
 refine zB fun _ hK4 => ?_
 refine rp0 hst2 hfr2 (.cons rfl (zV rfl rfl) <| .cons rfl (zC rfl) <| .nil) fun a3 w3 m3 hst3 hle3 hk3 => ?_
 have hfr3 := hk3.fr (.o 4 <| .n 5 <| .nil)
 clear hst2 hfr2 hk3
 refine hK4 _ _ ?_
 refine zG hfr3 rfl rfl (fun hb5 => ?_) (fun hb5 => ?_)
 ·try simp only [nqs] at hb5
  refine zB fun _ hK5 => ?_
  refine rp0 hst3 hfr3 (.cons rfl (zC rfl) <| .cons rfl (zC rfl) <| .nil) fun a4 w4 m4 hst4 hle4 hk4 => ?_
  have hfr4 := hk4.fr (.n 2 <| .n 3 <| .nil)
  clear hst3 hfr3 hk4
  refine hK5 _ _ ?_
  refine zK ?_
  repeat (with_reducible first | refine zI ?_ | refine zF ?_)
  exact zL hst4 hfr4 rfl (.tmp rfl <| .tmp rfl <| .nil) ((by first | ((have h9 : k = 1 := by omega); subst h9; rfl) | ((have h9 : k = 2 := by omega); subst h9; rfl) | ((have h9 : k = 3 := by omega); subst h9; rfl) | ((have h9 : k = 4 := by omega); subst h9; rfl) | ((have h9 : k = 5 := by omega); subst h9; rfl) | (rw [show zDF k = 0 from if_neg (by omega), show zAT k = false from by unfold zAT; simp; omega]; rfl)))
 ·try simp only [nqs] at hb5
  refine zB fun _ hK7 => ?_
  refine rp0 hst3 hfr3 (.cons rfl (zV rfl rfl) <| .cons rfl (zC rfl) <| .nil) fun a4 w4 m4 hst4 hle4 hk4 => ?_
  have hfr4 := hk4.fr (.o 4 <| .n 7 <| .nil)
  clear hst3 hfr3 hk4
  refine hK7 _ _ ?_
  refine zG hfr4 rfl rfl (fun hb7 => ?_) (fun hb7 => ?_)
  ·try simp only [nqs] at hb7
   refine zB fun _ hK8 => ?_
   refine rp0 hst4 hfr4 (.cons rfl (zC rfl) <| .cons rfl (zC rfl) <| .nil) fun a5 w5 m5 hst5 hle5 hk5 => ?_
   have hfr5 := hk5.fr (.n 2 <| .n 3 <| .nil)
   clear hst4 hfr4 hk5
   refine hK8 _ _ ?_
   refine zK ?_
   repeat (with_reducible first | refine zI ?_ | refine zF ?_)
   exact zL hst5 hfr5 rfl (.tmp rfl <| .tmp rfl <| .nil) ((by first | ((have h9 : k = 1 := by omega); subst h9; rfl) | ((have h9 : k = 2 := by omega); subst h9; rfl) | ((have h9 : k = 3 := by omega); subst h9; rfl) | ((have h9 : k = 4 := by omega); subst h9; rfl) | ((have h9 : k = 5 := by omega); subst h9; rfl) | (rw [show zDF k = 0 from if_neg (by omega), show zAT k = false from by unfold zAT; simp; omega]; rfl)))
  ·try simp only [nqs] at hb7
   refine zB fun _ hK10 => ?_
   refine rp0 hst4 hfr4 (.cons rfl (zV rfl rfl) <| .cons rfl (zC rfl) <| .nil) fun a5 w5 m5 hst5 hle5 hk5 => ?_
   have hfr5 := hk5.fr (.o 4 <| .n 9 <| .nil)
   clear hst4 hfr4 hk5
   refine hK10 _ _ ?_
   refine zG hfr5 rfl rfl (fun hb9 => ?_) (fun hb9 => ?_)
   ·try simp only [nqs] at hb9
    refine zB fun _ hK11 => ?_
    refine rp0 hst5 hfr5 (.cons rfl (zC rfl) <| .cons rfl (zC rfl) <| .nil) fun a6 w6 m6 hst6 hle6 hk6 => ?_
    have hfr6 := hk6.fr (.n 2 <| .n 3 <| .nil)
    clear hst5 hfr5 hk6
    refine hK11 _ _ ?_
    refine zK ?_
    repeat (with_reducible first | refine zI ?_ | refine zF ?_)
    exact zL hst6 hfr6 rfl (.tmp rfl <| .tmp rfl <| .nil) ((by first | ((have h9 : k = 1 := by omega); subst h9; rfl) | ((have h9 : k = 2 := by omega); subst h9; rfl) | ((have h9 : k = 3 := by omega); subst h9; rfl) | ((have h9 : k = 4 := by omega); subst h9; rfl) | ((have h9 : k = 5 := by omega); subst h9; rfl) | (rw [show zDF k = 0 from if_neg (by omega), show zAT k = false from by unfold zAT; simp; omega]; rfl)))
   ·try simp only [nqs] at hb9
    refine zB fun _ hK13 => ?_
    refine rp0 hst5 hfr5 (.cons rfl (zV rfl rfl) <| .cons rfl (zC rfl) <| .nil) fun a6 w6 m6 hst6 hle6 hk6 => ?_
    have hfr6 := hk6.fr (.o 4 <| .n 11 <| .nil)
    clear hst5 hfr5 hk6
    refine hK13 _ _ ?_
    refine zG hfr6 rfl rfl (fun hb11 => ?_) (fun hb11 => ?_)
    ·try simp only [nqs] at hb11
     refine zB fun _ hK14 => ?_
     refine rp0 hst6 hfr6 (.cons rfl (zC rfl) <| .cons rfl (zC rfl) <| .nil) fun a7 w7 m7 hst7 hle7 hk7 => ?_
     have hfr7 := hk7.fr (.n 2 <| .n 3 <| .nil)
     clear hst6 hfr6 hk7
     refine hK14 _ _ ?_
     refine zK ?_
     repeat (with_reducible first | refine zI ?_ | refine zF ?_)
     exact zL hst7 hfr7 rfl (.tmp rfl <| .tmp rfl <| .nil) ((by first | ((have h9 : k = 1 := by omega); subst h9; rfl) | ((have h9 : k = 2 := by omega); subst h9; rfl) | ((have h9 : k = 3 := by omega); subst h9; rfl) | ((have h9 : k = 4 := by omega); subst h9; rfl) | ((have h9 : k = 5 := by omega); subst h9; rfl) | (rw [show zDF k = 0 from if_neg (by omega), show zAT k = false from by unfold zAT; simp; omega]; rfl)))
    ·try simp only [nqs] at hb11
     refine zB fun _ hK16 => ?_
     refine rp0 hst6 hfr6 (.cons rfl (zV rfl rfl) <| .cons rfl (zC rfl) <| .nil) fun a7 w7 m7 hst7 hle7 hk7 => ?_
     have hfr7 := hk7.fr (.n 13 <| .nil)
     clear hst6 hfr6 hk7
     refine hK16 _ _ ?_
     refine zG hfr7 rfl rfl (fun hb13 => ?_) (fun hb13 => ?_)
     ·try simp only [nqs] at hb13
      refine zB fun _ hK17 => ?_
      refine rp0 hst7 hfr7 (.cons rfl (zC rfl) <| .cons rfl (zC rfl) <| .nil) fun a8 w8 m8 hst8 hle8 hk8 => ?_
      have hfr8 := hk8.fr (.n 2 <| .n 3 <| .nil)
      clear hst7 hfr7 hk8
      refine hK17 _ _ ?_
      refine zK ?_
      repeat (with_reducible first | refine zI ?_ | refine zF ?_)
      exact zL hst8 hfr8 rfl (.tmp rfl <| .tmp rfl <| .nil) ((by first | ((have h9 : k = 1 := by omega); subst h9; rfl) | ((have h9 : k = 2 := by omega); subst h9; rfl) | ((have h9 : k = 3 := by omega); subst h9; rfl) | ((have h9 : k = 4 := by omega); subst h9; rfl) | ((have h9 : k = 5 := by omega); subst h9; rfl) | (rw [show zDF k = 0 from if_neg (by omega), show zAT k = false from by unfold zAT; simp; omega]; rfl)))
     ·try simp only [nqs] at hb13
      refine zJ ?_
      refine hK2 _ _ ?_
      refine zB fun _ hK19 => ?_
      refine rp0 hst7 hfr7 (.cons rfl (zC rfl) <| .cons rfl (zC rfl) <| .nil) fun a8 w8 m8 hst8 hle8 hk8 => ?_
      have hfr8 := hk8.fr (.n 2 <| .n 3 <| .nil)
      clear hst7 hfr7 hk8
      refine hK19 _ _ ?_
      refine zK ?_
      repeat (with_reducible first | refine zI ?_ | refine zF ?_)
      exact zL hst8 hfr8 rfl (.tmp rfl <| .tmp rfl <| .nil) ((by first | ((have h9 : k = 1 := by omega); subst h9; rfl) | ((have h9 : k = 2 := by omega); subst h9; rfl) | ((have h9 : k = 3 := by omega); subst h9; rfl) | ((have h9 : k = 4 := by omega); subst h9; rfl) | ((have h9 : k = 5 := by omega); subst h9; rfl) | (rw [show zDF k = 0 from if_neg (by omega), show zAT k = false from by unfold zAT; simp; omega]; rfl)))
set_option maxHeartbeats 400000 in
theorem light_c {w : World} {m : Mem} {t : Tm} {vs_t : List Value} (hA : Agree w m) (h_t : TmR m t vs_t) : FnV Tryd.prog 40 #[.agg vs_t.toArray] w m (fun _ _ v => v = .bool (ZU t)) := by
 obtain ⟨⟨oK_t, cK_t, oA_t, cA_t, oR_t, cR_t, t0_t, t1_t, t2_t, t3_t, t4_t, t5_t, u0_t, u1_t, u2_t, u3_t, u4_t, u5_t⟩, rfl, hon_t, hkk_t, haa_t, hrr_t⟩ := h_t.open_
 dsimp only at hkk_t haa_t hrr_t
 have hbg_t := hkk_t.big; have hcp_t := hkk_t.cap; have hbh_t := haa_t.big; have hcq_t := haa_t.cap
 refine zX (vs := [_]) func40 rfl rfl rfl fun a0 hfr0 => ?_
 have hst0 := zW hA (zf [] _ w m)
 have hM : MLe m m := MLe.refl m
 refine zB fun _ hK1 => ?_
 refine rp0 hst0 hfr0 (.cons rfl (zv rfl rfl) <| .cons rfl (zC rfl) <| .nil) fun a1 w1 m1 hst1 hle1 hk1 => ?_
 have hfr1 := hk1.fr (.nil)
 obtain ⟨g2, e2, hc1⟩ := hk1.ex 1 rfl
 replace hfr1 := hfr1.cons e2
 clear hst0 hfr0 hk1
 refine hK1 _ _ ?_
 refine zB fun _ hK3 => ?_
 refine rp0 hst1 hfr1 (.cons rfl (zA (off := 0) rfl underlying33 rfl rfl sizeOf3 rfl) <| .cons rfl (zE rfl hc1 isAgg3 rfl) <| .cons rfl (zc rfl (.cons rfl <| .nil) call55 (fun w m hK => by have hle_ := KC.le hK; have hA := KC.agree hK; exact atoms_c (k := t.kind) hA)) <| .cons rfl (zD rfl) <| .cons rfl (zS rfl rfl) <| .cons rfl (zS rfl rfl) <| .cons rfl (zC rfl) <| .cons rfl (zC rfl) <| .nil) fun a2 w2 m2 hst2 hle2 hk2 => ?_
 have hfr2 := hk2.fr (.n 4 <| .nil)
 clear hst1 hfr1 hk2
 refine hK3 _ _ ?_
 refine zB fun _ hK4 => ?_
 refine rp0 hst2 hfr2 (.cons rfl (zD rfl) <| .cons rfl (zC rfl) <| .nil) fun a3 w3 m3 hst3 hle3 hk3 => ?_
 have hfr3 := hk3.fr (.n 2 <| .nil)
 clear hst2 hfr2 hk3
 refine hK4 _ _ ?_
 refine zK ?_
 repeat (with_reducible first | refine zI ?_ | refine zF ?_)
 exact zL hst3 hfr3 rfl (.tmp rfl <| .nil) (rfl)
set_option maxHeartbeats 400000 in
theorem kinds_c {w : World} {m : Mem} {k : Int} (hA : Agree w m)  : FnV Tryd.prog 42 #[.int .i64 k] w m (fun _ _ v => v = .tuple #[.int .i64 (zAs k), .int .i64 (zAD k)]) := by
 refine zX (vs := [_]) func42 rfl rfl rfl fun a0 hfr0 => ?_
 have hst0 := zW hA (zf [] _ w m)
 have hM : MLe m m := MLe.refl m
 refine zB fun _ hK1 => ?_
 refine rp0 hst0 hfr0 (.cons rfl (zC rfl) <| .cons rfl (zC rfl) <| .nil) fun a1 w1 m1 hst1 hle1 hk1 => ?_
 have hfr1 := hk1.fr (.o 0 <| .nil)
 clear hst0 hfr0 hk1
 refine hK1 _ _ ?_
 refine zB fun _ hK2 => ?_
 refine zB fun _ hK3 => ?_
 refine rp0 hst1 hfr1 (.cons rfl (zD rfl) <| .nil) fun a2 w2 m2 hst2 hle2 hk2 => ?_
 have hfr2 := hk2.fr (.n 4 <| .nil)
 clear hst1 hfr1 hk2
 refine hK3 _ _ ?_
 refine zN ?_
 refine zB fun _ hK4 => ?_
 refine rp0 hst2 hfr2 (.cons rfl (zV rfl rfl) <| .cons rfl (zC rfl) <| .nil) fun a3 w3 m3 hst3 hle3 hk3 => ?_
 have hfr3 := hk3.fr (.o 4 <| .n 5 <| .nil)
 clear hst2 hfr2 hk3
 refine hK4 _ _ ?_
 refine zG hfr3 rfl rfl (fun hb5 => ?_) (fun hb5 => ?_)
 ·try simp only [nqs] at hb5
  refine zB fun _ hK5 => ?_
  refine rp0 hst3 hfr3 (.cons rfl (zC rfl) <| .cons rfl (zC rfl) <| .nil) fun a4 w4 m4 hst4 hle4 hk4 => ?_
  have hfr4 := hk4.fr (.n 2 <| .n 3 <| .nil)
  clear hst3 hfr3 hk4
  refine hK5 _ _ ?_
  refine zK ?_
  repeat (with_reducible first | refine zI ?_ | refine zF ?_)
  exact zL hst4 hfr4 rfl (.tmp rfl <| .tmp rfl <| .nil) ((by first | ((have h9 : k = 6 := by omega); subst h9; rfl) | ((have h9 : k = 9 := by omega); subst h9; rfl) | ((have h9 : k = 10 := by omega); subst h9; rfl) | ((have h9 : k = 11 := by omega); subst h9; rfl) | ((have h9 : k = 12 := by omega); subst h9; rfl) | ((have h9 : k = 13 := by omega); subst h9; rfl) | (rw [show zAs k = 0 from by rw [zCV]; repeat (rw [if_neg (by omega)])]; rw [show zAD k = -1 from if_neg (by omega)]; rfl)))
 ·try simp only [nqs] at hb5
  refine zB fun _ hK7 => ?_
  refine rp0 hst3 hfr3 (.cons rfl (zV rfl rfl) <| .cons rfl (zC rfl) <| .nil) fun a4 w4 m4 hst4 hle4 hk4 => ?_
  have hfr4 := hk4.fr (.o 4 <| .n 7 <| .nil)
  clear hst3 hfr3 hk4
  refine hK7 _ _ ?_
  refine zG hfr4 rfl rfl (fun hb7 => ?_) (fun hb7 => ?_)
  ·try simp only [nqs] at hb7
   refine zB fun _ hK8 => ?_
   refine rp0 hst4 hfr4 (.cons rfl (zC rfl) <| .cons rfl (zC rfl) <| .nil) fun a5 w5 m5 hst5 hle5 hk5 => ?_
   have hfr5 := hk5.fr (.n 2 <| .n 3 <| .nil)
   clear hst4 hfr4 hk5
   refine hK8 _ _ ?_
   refine zK ?_
   repeat (with_reducible first | refine zI ?_ | refine zF ?_)
   exact zL hst5 hfr5 rfl (.tmp rfl <| .tmp rfl <| .nil) ((by first | ((have h9 : k = 6 := by omega); subst h9; rfl) | ((have h9 : k = 9 := by omega); subst h9; rfl) | ((have h9 : k = 10 := by omega); subst h9; rfl) | ((have h9 : k = 11 := by omega); subst h9; rfl) | ((have h9 : k = 12 := by omega); subst h9; rfl) | ((have h9 : k = 13 := by omega); subst h9; rfl) | (rw [show zAs k = 0 from by rw [zCV]; repeat (rw [if_neg (by omega)])]; rw [show zAD k = -1 from if_neg (by omega)]; rfl)))
  ·try simp only [nqs] at hb7
   refine zB fun _ hK10 => ?_
   refine rp0 hst4 hfr4 (.cons rfl (zV rfl rfl) <| .cons rfl (zC rfl) <| .nil) fun a5 w5 m5 hst5 hle5 hk5 => ?_
   have hfr5 := hk5.fr (.o 4 <| .n 9 <| .nil)
   clear hst4 hfr4 hk5
   refine hK10 _ _ ?_
   refine zG hfr5 rfl rfl (fun hb9 => ?_) (fun hb9 => ?_)
   ·try simp only [nqs] at hb9
    refine zB fun _ hK11 => ?_
    refine rp0 hst5 hfr5 (.cons rfl (zC rfl) <| .cons rfl (zC rfl) <| .nil) fun a6 w6 m6 hst6 hle6 hk6 => ?_
    have hfr6 := hk6.fr (.n 2 <| .n 3 <| .nil)
    clear hst5 hfr5 hk6
    refine hK11 _ _ ?_
    refine zK ?_
    repeat (with_reducible first | refine zI ?_ | refine zF ?_)
    exact zL hst6 hfr6 rfl (.tmp rfl <| .tmp rfl <| .nil) ((by first | ((have h9 : k = 6 := by omega); subst h9; rfl) | ((have h9 : k = 9 := by omega); subst h9; rfl) | ((have h9 : k = 10 := by omega); subst h9; rfl) | ((have h9 : k = 11 := by omega); subst h9; rfl) | ((have h9 : k = 12 := by omega); subst h9; rfl) | ((have h9 : k = 13 := by omega); subst h9; rfl) | (rw [show zAs k = 0 from by rw [zCV]; repeat (rw [if_neg (by omega)])]; rw [show zAD k = -1 from if_neg (by omega)]; rfl)))
   ·try simp only [nqs] at hb9
    refine zB fun _ hK13 => ?_
    refine rp0 hst5 hfr5 (.cons rfl (zV rfl rfl) <| .cons rfl (zC rfl) <| .nil) fun a6 w6 m6 hst6 hle6 hk6 => ?_
    have hfr6 := hk6.fr (.o 4 <| .n 11 <| .nil)
    clear hst5 hfr5 hk6
    refine hK13 _ _ ?_
    refine zG hfr6 rfl rfl (fun hb11 => ?_) (fun hb11 => ?_)
    ·try simp only [nqs] at hb11
     refine zB fun _ hK14 => ?_
     refine rp0 hst6 hfr6 (.cons rfl (zC rfl) <| .cons rfl (zC rfl) <| .nil) fun a7 w7 m7 hst7 hle7 hk7 => ?_
     have hfr7 := hk7.fr (.n 2 <| .n 3 <| .nil)
     clear hst6 hfr6 hk7
     refine hK14 _ _ ?_
     refine zK ?_
     repeat (with_reducible first | refine zI ?_ | refine zF ?_)
     exact zL hst7 hfr7 rfl (.tmp rfl <| .tmp rfl <| .nil) ((by first | ((have h9 : k = 6 := by omega); subst h9; rfl) | ((have h9 : k = 9 := by omega); subst h9; rfl) | ((have h9 : k = 10 := by omega); subst h9; rfl) | ((have h9 : k = 11 := by omega); subst h9; rfl) | ((have h9 : k = 12 := by omega); subst h9; rfl) | ((have h9 : k = 13 := by omega); subst h9; rfl) | (rw [show zAs k = 0 from by rw [zCV]; repeat (rw [if_neg (by omega)])]; rw [show zAD k = -1 from if_neg (by omega)]; rfl)))
    ·try simp only [nqs] at hb11
     refine zB fun _ hK16 => ?_
     refine rp0 hst6 hfr6 (.cons rfl (zV rfl rfl) <| .cons rfl (zC rfl) <| .nil) fun a7 w7 m7 hst7 hle7 hk7 => ?_
     have hfr7 := hk7.fr (.o 4 <| .n 13 <| .nil)
     clear hst6 hfr6 hk7
     refine hK16 _ _ ?_
     refine zG hfr7 rfl rfl (fun hb13 => ?_) (fun hb13 => ?_)
     ·try simp only [nqs] at hb13
      refine zB fun _ hK17 => ?_
      refine rp0 hst7 hfr7 (.cons rfl (zC rfl) <| .cons rfl (zC rfl) <| .nil) fun a8 w8 m8 hst8 hle8 hk8 => ?_
      have hfr8 := hk8.fr (.n 2 <| .n 3 <| .nil)
      clear hst7 hfr7 hk8
      refine hK17 _ _ ?_
      refine zK ?_
      repeat (with_reducible first | refine zI ?_ | refine zF ?_)
      exact zL hst8 hfr8 rfl (.tmp rfl <| .tmp rfl <| .nil) ((by first | ((have h9 : k = 6 := by omega); subst h9; rfl) | ((have h9 : k = 9 := by omega); subst h9; rfl) | ((have h9 : k = 10 := by omega); subst h9; rfl) | ((have h9 : k = 11 := by omega); subst h9; rfl) | ((have h9 : k = 12 := by omega); subst h9; rfl) | ((have h9 : k = 13 := by omega); subst h9; rfl) | (rw [show zAs k = 0 from by rw [zCV]; repeat (rw [if_neg (by omega)])]; rw [show zAD k = -1 from if_neg (by omega)]; rfl)))
     ·try simp only [nqs] at hb13
      refine zB fun _ hK19 => ?_
      refine rp0 hst7 hfr7 (.cons rfl (zV rfl rfl) <| .cons rfl (zC rfl) <| .nil) fun a8 w8 m8 hst8 hle8 hk8 => ?_
      have hfr8 := hk8.fr (.n 15 <| .nil)
      clear hst7 hfr7 hk8
      refine hK19 _ _ ?_
      refine zG hfr8 rfl rfl (fun hb15 => ?_) (fun hb15 => ?_)
      ·try simp only [nqs] at hb15
       refine zB fun _ hK20 => ?_
       refine rp0 hst8 hfr8 (.cons rfl (zC rfl) <| .cons rfl (zC rfl) <| .nil) fun a9 w9 m9 hst9 hle9 hk9 => ?_
       have hfr9 := hk9.fr (.n 2 <| .n 3 <| .nil)
       clear hst8 hfr8 hk9
       refine hK20 _ _ ?_
       refine zK ?_
       repeat (with_reducible first | refine zI ?_ | refine zF ?_)
       exact zL hst9 hfr9 rfl (.tmp rfl <| .tmp rfl <| .nil) ((by first | ((have h9 : k = 6 := by omega); subst h9; rfl) | ((have h9 : k = 9 := by omega); subst h9; rfl) | ((have h9 : k = 10 := by omega); subst h9; rfl) | ((have h9 : k = 11 := by omega); subst h9; rfl) | ((have h9 : k = 12 := by omega); subst h9; rfl) | ((have h9 : k = 13 := by omega); subst h9; rfl) | (rw [show zAs k = 0 from by rw [zCV]; repeat (rw [if_neg (by omega)])]; rw [show zAD k = -1 from if_neg (by omega)]; rfl)))
      ·try simp only [nqs] at hb15
       refine zJ ?_
       refine hK2 _ _ ?_
       refine zB fun _ hK22 => ?_
       refine rp0 hst8 hfr8 (.cons rfl (zC rfl) <| .cons rfl (zC rfl) <| .nil) fun a9 w9 m9 hst9 hle9 hk9 => ?_
       have hfr9 := hk9.fr (.n 2 <| .n 3 <| .nil)
       clear hst8 hfr8 hk9
       refine hK22 _ _ ?_
       refine zK ?_
       repeat (with_reducible first | refine zI ?_ | refine zF ?_)
       exact zL hst9 hfr9 rfl (.tmp rfl <| .tmp rfl <| .nil) ((by first | ((have h9 : k = 6 := by omega); subst h9; rfl) | ((have h9 : k = 9 := by omega); subst h9; rfl) | ((have h9 : k = 10 := by omega); subst h9; rfl) | ((have h9 : k = 11 := by omega); subst h9; rfl) | ((have h9 : k = 12 := by omega); subst h9; rfl) | ((have h9 : k = 13 := by omega); subst h9; rfl) | (rw [show zAs k = 0 from by rw [zCV]; repeat (rw [if_neg (by omega)])]; rw [show zAD k = -1 from if_neg (by omega)]; rfl)))
set_option maxHeartbeats 400000 in
theorem binds_g {w : World} {m : Mem} {sel tl : Bool} {r n : Nat} {t : Tm} {vs_t : List Value} (hA : Agree w m) (hr : (Res.blk (.pointer (some ⟨r, 0, none⟩)) (.cells #[.bool sel, .bool tl, .int .i64 ((n : Nat) : Int)] 75)).holds w m) (h_t : TmR m t vs_t) (hb : zP t ≤ 1000000000) : FnG Tryd.prog 38 #[.pointer (some ⟨r, 0, none⟩), .agg vs_t.toArray] [r] w m (fun w' m' v => Loc [r] w.heap.size [.blk (.pointer (some ⟨r, 0, none⟩)) (.cells #[.bool sel, .bool tl, .int .i64 ((n : Nat) : Int)] 75)] w' m' ∧ v = .int .i64 (Zz sel t)) := by
 obtain ⟨⟨oK_t, cK_t, oA_t, cA_t, oR_t, cR_t, t0_t, t1_t, t2_t, t3_t, t4_t, t5_t, u0_t, u1_t, u2_t, u3_t, u4_t, u5_t⟩, rfl, hon_t, hkk_t, haa_t, hrr_t⟩ := h_t.open_
 dsimp only at hkk_t haa_t hrr_t
 have hbg_t := hkk_t.big; have hcp_t := hkk_t.cap; have hbh_t := haa_t.big; have hcq_t := haa_t.cap
 refine zX (vs := [_, _]) func38 rfl rfl rfl fun a0 hfr0 => ?_
 have hst0 := zW hA (zBS hr (by simp [Res.blocks, zj]))
 have hM : MLe m m := MLe.refl m
 refine zB fun _ hK1 => ?_
 refine rp0 hst0 hfr0 (.cons rfl (zv rfl rfl) <| .cons rfl (zC rfl) <| .nil) fun a1 w1 m1 hst1 hle1 hk1 => ?_
 have hfr1 := hk1.fr (.o 0 <| .nil)
 obtain ⟨g2, e2, hc3⟩ := hk1.ex 3 rfl
 replace hfr1 := hfr1.cons e2
 replace h_t := h_t.mono hle1
 clear hst0 hfr0 hk1
 refine hK1 _ _ ?_
 refine zB fun _ hK3 => ?_
 refine zB fun _ hK4 => ?_
 refine rp0 hst1 hfr1 (.cons rfl (zO rfl hc3 isAgg33 sizeOf33 rfl rfl) <| .cons rfl (zc rfl (.cons rfl <| .nil) call40 (fun w m hK => by have hle_ := KC.le hK; have hA := KC.agree hK; have h_t := h_t.mono hle_; exact light_c (t := t) hA h_t)) <| .cons rfl (zD rfl) <| .cons rfl (zD rfl) <| .cons rfl (zAg rfl) <| .cons rfl (zA (off := 0) rfl underlying75 rfl rfl sizeOf38 rfl) <| .cons rfl (zA (off := 0) rfl underlying38 rfl rfl sizeOf4 rfl) <| .cons rfl (zM (k := 0) (j := 0) rfl rfl isAgg4 rfl) <| .cons rfl (zD rfl) <| .cons rfl (zO rfl hc3 isAgg33 sizeOf33 rfl rfl) <| .cons rfl (zc rfl (.cons rfl <| .nil) call53 (fun w m hK => by have hle_ := KC.le hK; have hA := KC.agree hK; have h_t := h_t.mono hle_; exact quiet_c (t := t) hA h_t hb)) <| .cons rfl (ZI rfl rfl rfl) <| .cons rfl (zx rfl rfl rfl) <| .nil) fun a2 w2 m2 hst2 hle2 hk2 => ?_
 have hfr2 := hk2.fr (.n 17 <| .nil)
 clear hst1 hfr1 hk2
 refine hK4 _ _ ?_
 refine zG hfr2 rfl rfl (fun hb17 => ?_) (fun hb17 => ?_)
 ·try simp only [nqs] at hb17
  refine zB fun _ hK5 => ?_
  refine rp0 hst2 hfr2 (.cons rfl (zC rfl) <| .nil) fun a3 w3 m3 hst3 hle3 hk3 => ?_
  have hfr3 := hk3.fr (.n 4 <| .nil)
  clear hst2 hfr2 hk3
  refine hK5 _ _ ?_
  refine zK ?_
  repeat (with_reducible first | refine zI ?_ | refine zF ?_)
  exact zL hst3 hfr3 rfl (.tmp rfl <| .nil) (⟨(hst3.take 1).loc, by show Value.int .i64 7 = _; unfold Zz; simp_all⟩)
 ·try simp only [nqs] at hb17
  refine zJ ?_
  refine hK3 _ _ ?_
  refine zB fun _ hK7 => ?_
  refine rp0 hst2 hfr2 (.cons rfl (zC rfl) <| .nil) fun a3 w3 m3 hst3 hle3 hk3 => ?_
  have hfr3 := hk3.fr (.n 4 <| .nil)
  clear hst2 hfr2 hk3
  refine hK7 _ _ ?_
  refine zK ?_
  repeat (with_reducible first | refine zI ?_ | refine zF ?_)
  exact zL hst3 hfr3 rfl (.tmp rfl <| .nil) (⟨(hst3.take 1).loc, by show Value.int .i64 8 = _; unfold Zz; cases hs9 : sel <;> cases hl9 : ZU t <;> cases hq9 : quietT t <;> simp_all⟩)
theorem binds_t {w : World} {m : Mem} {sel tl : Bool} {r n : Nat} {t : Tm} {vs : List Value} (hA : Agree w m) (hr : (Res.blk (.pointer (some ⟨r, 0, none⟩)) (.cells #[.bool sel, .bool tl, .int .i64 ((n : Nat) : Int)] 75)).holds w m) (h : TmR m t vs) (hb : zP t ≤ 1000000000) :
  Calls Tryd.prog 38 #[.pointer (some ⟨r, 0, none⟩), .agg vs.toArray] w fun e w' => ∃ v m', e = .returned v ∧ Touch (Res.blk (.pointer (some ⟨r, 0, none⟩)) (.cells #[.bool sel, .bool tl, .int .i64 ((n : Nat) : Int)] 75)) (Res.blk (.pointer (some ⟨r, 0, none⟩)) (.cells #[.bool sel, .bool tl, .int .i64 ((n : Nat) : Int)] 75)) w m w' m' ∧ (Kn.eq (.int .i64 (Zz sel t))).holds m' v :=
 Calls.mono (binds_g hA hr h hb) fun e w' ⟨v, m', e1, hE, hL, hv⟩ => ⟨v, m', e1, zCZ hE hL, hv⟩
end Go.Proofs.YtmdhhjmomilhjaaDoor
namespace Go.Proofs.YtmdhhjmomilhjaaDoor
open Go.Proofs.Tryd
set_option linter.all false
set_option maxRecDepth 4000
open Go.RowKit
def BdR (m : Mem) (b : Bd) (vs : List Value) : Prop := ∃ cs, vs = .int .i64 b.kind :: S b.name :: cs ∧ CdR m b.code cs
abbrev Bds (m : Mem) (o : Option Addr) (n c : Nat) (l : List Bd) : Prop := Sl (fun m vs t => BdR m t vs) 8 m o n c l
theorem BdR.one {m : Mem} {b : Bd} {vs : List Value} (h : BdR m b vs) : vs.all (·.oneCell') = true := by
 obtain ⟨cs, rfl, h⟩ := h
 simp only [List.all_cons, h.one, Bool.and_true]; rfl
theorem BdR.mono {m m' : Mem} {b : Bd} {vs : List Value} (h : BdR m b vs) (hm : MLe m m') : BdR m' b vs := by obtain ⟨cs, e, h⟩ := h; exact ⟨cs, e, h.mono hm⟩
instance : RepR (fun m vs t => BdR m t vs) := ⟨fun hm h => h.mono hm, fun h => h.one⟩
theorem Bds.mono {m m' : Mem} {o : Option Addr} {n c : Nat} {l : List Bd} (h : Bds m o n c l) (hm : MLe m m') : Bds m' o n c l := Sl.mono h (fun _ _ e => e.mono hm) hm
def BackY (l : List Bd) (i : Nat) (m : Mem) (args : List Value) : Prop := ∃ (k : Int) (b : Bd) (vs : List Value), args = [.int .i64 k, .agg vs.toArray] ∧ BdR m b vs ∧ l[l.length - 1 - i]? = some b
theorem cd2_R {m : Mem} {k : Int} {s p : Str} {a b : Cd} {g : Nat} {vs us : List Value} (hc : CellsAt m ⟨g, 0, none⟩ (vs ++ us)) (h : CdR m a vs) (h2 : CdR m b us) : CdR m (cd2 k s p a b) (cdV (cd2 k s p a b) ⟨some ⟨g, 0, none⟩, 2, none, 0⟩) :=
 CdR.build trivial trivial (Sl.two (R := fun m vs t => CdR m t vs) hc h.len h2.len h h2) Sl.empty
theorem back_step {l : List Bd} {i : Nat} {b : Bd} {c cc : Cd} (h : Zd l c = Zd (l.take (l.length - i)) cc) (hi : i < l.length) (hb : l[l.length - 1 - i]? = some b) : Zd l c = Zd (l.take (l.length - (i + 1))) (cd2 b.kind b.name [] b.code cc) := by
 rw [h, show l.length - i = l.length - 1 - i + 1 by omega, List.take_succ, hb, show l.length - (i + 1) = l.length - 1 - i by omega]
 exact around_snoc _ _ _
def MP.backV (l : List Bd) : MP := MP.mem (fun y : Nat × Option Addr × Nat => .func (.func 70) #[] #[.pointer (some ⟨y.1, 0, none⟩)]) (fun y m => CellsAt m ⟨y.1, 0, none⟩ [.slice y.2.1 l.length y.2.2] ∧ Bds m y.2.1 l.length y.2.2 l) fun hm h => ⟨h.1.mono hm, h.2.mono hm⟩
set_option maxHeartbeats 400000 in
theorem back_c {w : World} {m : Mem} {o_l : Option Addr} {c_l : Nat} {l : List Bd} (hA : Agree w m) (h_l : Bds m o_l l.length c_l l) : FnV Tryd.prog 57 #[.slice o_l l.length c_l] w m (fun _ m v => (MP.backV l).p m v) := by
 have hb_l := h_l.big; have hc_l := h_l.cap
 refine zX (vs := [_]) func57 rfl rfl rfl fun a0 hfr0 => ?_
 have hst0 := zW hA (zf [] _ w m)
 have hM : MLe m m := MLe.refl m
 refine zB fun _ hK1 => ?_
 refine rp0 hst0 hfr0 (.cons rfl (zv rfl rfl) <| .cons rfl (zC rfl) <| .nil) fun a1 w1 m1 hst1 hle1 hk1 => ?_
 have hfr1 := hk1.fr (.nil)
 obtain ⟨g9, e2, hg9⟩ := hk1.ex 1 rfl
 replace hfr1 := hfr1.cons e2
 replace h_l := h_l.mono hle1
 clear hst0 hfr0 hk1
 refine hK1 _ _ ?_
 refine zB fun _ hK3 => ?_
 refine rp0 hst1 hfr1 (.cons rfl (zBg (.cons rfl <| .nil)) <| .cons rfl (zC rfl) <| .nil) fun a2 w2 m2 hst2 hle2 hk2 => ?_
 have hfr2 := hk2.fr (.n 2 <| .nil)
 replace h_l := h_l.mono hle2
 replace hg9 := hg9.mono hle2
 clear hst1 hfr1 hk2
 refine hK3 _ _ ?_
 refine zK ?_
 repeat (with_reducible first | refine zI ?_ | refine zF ?_)
 exact zL hst2 hfr2 rfl (.tmp rfl <| .nil) (⟨(g9, _, _), rfl, hg9, h_l⟩)
set_option maxHeartbeats 800000 in
theorem back1_c {w : World} {m : Mem} {ly : Nat} {bs : List Nat} {Ψ : Nat → World → Mem → Prop} {Ψx : World → Mem → Prop} {mY : Mem} {q : Addr} {o : Option Addr} {c : Nat} {l : List Bd} (hA : Agree w m) (hq : CellsAt m q [.slice o l.length c]) (h_l : Bds m o l.length c l) (hmY : MLe mY m) (hbs : bs.Nodup) (hp : (Res.pack bs (Ψ 0)).holds w m) (hy : ∀ i, i < l.length → YieldW Tryd.prog ly bs mY (BackY l i) (Ψ i) (Ψ (i + 1)) Ψx) : FnG Tryd.prog 70 #[.func (.yield ly) #[] #[], .pointer (some q)] bs w m (fun w m _ => (Res.pack bs fun w m => Ψ l.length w m ∨ Ψx w m).holds w m) := by
 have hb_l := h_l.big; have hc_l := h_l.cap
 refine zX (vs := [_, _]) func70 rfl rfl rfl fun a0 hfr0 => ?_
 have hst0 := zW hA (zBS hp hbs)
 have hM : MLe m m := MLe.refl m
 refine zB fun _ hK1 => ?_
 refine rp0 hst0 hfr0 (.cons rfl (ZN rfl hq isAgg91 rfl) <| .cons rfl (zY rfl underlying91) <| .cons rfl (ob_sub rfl rfl ⟨by omega, by omega⟩) <| .cons rfl (zC rfl) <| .nil) fun a1 w1 m1 hst1 hle1 hk1 => ?_
 have hfr1 := hk1.fr (.o 0 <| .o 1 <| .n 3 <| .nil)
 replace hq := hq.mono hle1
 replace h_l := h_l.mono hle1
 replace hM := hM.trans hle1
 clear hst0 hfr0 hk1
 rw [show (l.length : Int) - 1 = (l.length : Int) - 1 - ((0 : Nat) : Int) by omega] at hfr1
 refine hK1 _ _ ?_
 refine zN ?_
 refine ze (T := [(0, _), (1, _)]) (fun (y : Nat) => ([(3, .int .i64 ((l.length : Int) - 1 - (y : Int)))] : List (Nat × Value))) (fun y => [.pack bs (Ψ y)]) (fun (y : Nat) m => (y ≤ l.length)) (fun y => l.length - y) (0) ⟨hst1, MLe.refl _, hfr1.sub (.c <| .c <| .c <| .nil), Nat.zero_le _⟩ fun y a2 w2 m2 hh2 => ?_
 have hst2 := hh2.st; have hle2 := hh2.le; have hfr2 := hh2.fr; have hrel := hh2.rel; clear hh2
 replace hq := hq.mono hle2
 replace h_l := h_l.mono hle2
 clear hst1 hfr1
 replace hM := hM.trans hle2
 have hyn := hrel
 have hlh2 := hle2
 refine zB fun _ hK3 => ?_
 refine zB fun _ hK4 => ?_
 refine rp0 hst2 hfr2 (.cons rfl (zD rfl) <| .cons rfl (ob_geq rfl rfl) <| .nil) fun a3 w3 m3 hst3 hle3 hk3 => ?_
 have hfr3 := hk3.fr (.o 3 <| .o 0 <| .o 1 <| .n 8 <| .nil)
 replace hq := hq.mono hle3
 replace h_l := h_l.mono hle3
 have hlh3 := hlh2.trans hle3
 replace hM := hM.trans hle3
 clear hst2 hfr2 hk3
 refine hK4 _ _ ?_
 refine zG hfr3 rfl rfl (fun hb8 => ?_) (fun hb8 => ?_)
 ·try simp only [nqs] at hb8
  have hy9 : y < l.length := by omega
  rw [show (l.length : Int) - 1 - (y : Int) = ((l.length - 1 - y : Nat) : Int) by omega] at hfr3
  refine zJ ?_
  refine hK3 _ _ ?_
  refine zB fun _ hK5 => ?_
  refine zN ?_
  refine zB fun _ hK6 => ?_
  obtain ⟨p7, vs7, x7, ho7, hd7, hm_x7, ht7, hcv7, hl7, hv7⟩ := h_l.nth (k := (l.length - 1 - y)) (by omega)
  cases ho7
  obtain ⟨cs7, rfl, hbc7⟩ := id hv7
  obtain ⟨⟨oK7b, cK7b, oA7b, cA7b⟩, rfl, ⟨hik7b, hin7b⟩, hkk7b, haa7b⟩ := hbc7.open_
  dsimp only at hkk7b haa7b
  have hbg7b := hkk7b.big; have hcp7b := hkk7b.cap; have hbh7b := haa7b.big; have hcq7b := haa7b.cap
  obtain ⟨p8, vs8, x8, ho8, hd8, hm_x8, ht8, hcv8, hl8, hv8⟩ := h_l.nth (k := l.length - 1 - y) (by omega)
  cases ho8
  obtain ⟨cs8, rfl, hbc8⟩ := id hv8
  obtain ⟨⟨oK8b, cK8b, oA8b, cA8b⟩, rfl, ⟨hik8b, hin8b⟩, hkk8b, haa8b⟩ := hbc8.open_
  dsimp only at hkk8b haa8b
  have hbg8b := hkk8b.big; have hcp8b := hkk8b.cap; have hbh8b := haa8b.big; have hcq8b := haa8b.cap
  refine ra0 (tch := [(6, 0, (fun v => .pack bs _))]) hst3 hfr3 (.cons rfl (zD rfl) <| .cons rfl (zD rfl) <| .cons rfl (ZN rfl hq isAgg91 rfl) <| .cons rfl (zD rfl) <| .cons rfl (zH (k := l.length - 1 - y) rfl rfl underlying91 sizeOf107 rfl (by omega)) <| .cons rfl (zO rfl hcv8 isAgg107 sizeOf107 rfl rfl) <| .consT rfl rfl (fun _ => rfl) rfl (zDY rfl (.cons rfl <| .cons rfl <| .nil) (hy y hy9) (hmY.trans hM) hbs (fun w m hK => ⟨_, x8, _, rfl, hv8.mono (KC.le hK), zAz hd8⟩)) <| .consN 17 notV rfl rfl (zCn rfl rfl) <| .nil) fun a4 w4 m4 hst4 hle4 hk4 => ?_
  have hfr4 := hk4.fr (.o 3 <| .o 0 <| .o 1 <| .nil)
  obtain ⟨b17, e9, _⟩ := hk4.ex 17 rfl
  replace hfr4 := hfr4.cons (hk4.made 18 rfl e9)
  replace hst4 := hst4.fin (L' := [_]) (.cons e9 <| .nil)
  clear hst3 hfr3 hk4
  refine hK6 _ _ ?_
  refine zG hfr4 rfl rfl (fun hb18 => ?_) (fun hb18 => ?_)
  ·try simp only [nqs] at hb18
   have hst9 := hst4.weaken (k := 0) (r' := .pack bs (Ψx)) rfl rfl (fun h => ZT h fun w m h => h.elim (fun h => by have h1 : Value.bool b17 = Value.bool true := h.1; injection h1 with h1; rw [h1] at hb18; exact absurd hb18 (by decide)) (fun h => h.2))
   simp only [List.set_cons_zero] at hst9
   clear hst4; have hst4 := hst9; clear hst9
   refine zK ?_
   repeat (with_reducible first | refine zI ?_ | refine zF ?_)
   exact zL hst4 hfr4 rfl (.nil) (ZT (hst4.loc.at_ (k := 0) rfl) fun w m h => .inr h)
  ·try simp only [nqs] at hb18
   have hst9 := hst4.weaken (k := 0) (r' := .pack bs (Ψ (y + 1))) rfl rfl (fun h => ZT h fun w m h => h.elim (fun h => h.2) (fun h => by have h1 : Value.bool b17 = Value.bool false := h.1; injection h1 with h1; rw [h1] at hb18; exact absurd hb18 (by decide)))
   simp only [List.set_cons_zero] at hst9
   clear hst4; have hst4 := hst9; clear hst9
   refine zJ ?_
   refine hK5 _ _ ?_
   refine rp0 hst4 hfr4 (.cons rfl (zD rfl) <| .cons rfl (ob_sub rfl rfl ⟨by omega, by omega⟩) <| .cons rfl (zC rfl) <| .nil) fun a5 w5 m5 hst5 hle5 hk5 => ?_
   have hfr5 := hk5.fr (.o 0 <| .o 1 <| .n 3 <| .nil)
   clear hst4 hfr4 hk5
   rw [show (((l.length - 1 - y : Nat) : Int) - 1) = (l.length : Int) - 1 - ((y + 1 : Nat) : Int) by omega] at hfr5
   have zq1 := hle4.trans hle5
   have hlh5 := hlh3.trans zq1
   exact ⟨y + 1, m5, by show l.length - (y + 1) < l.length - y; omega, ⟨hst5, hlh5, hfr5.sub (.c <| .c <| .c <| .nil), by show y + 1 ≤ l.length; omega⟩⟩
 ·try simp only [nqs] at hb8
  have hge : y = l.length := by omega
  subst hge
  refine zg ?_
  repeat (with_reducible first | refine ZM ?_ | refine ZF ?_ | refine zw ?_)
  exact fn_end hst3 hfr3 rfl (.nil) (ZT (hst3.loc.at_ (k := 0) rfl) fun w m h => .inl h)
theorem back_iter {m : Mem} {q : Addr} {o : Option Addr} {c : Nat} {l : List Bd} (hq : CellsAt m q [.slice o l.length c]) (h_l : Bds m o l.length c l) : IterC Tryd.prog 70 [.pointer (some q)] l.length (BackY l) m :=
 fun l bs Ψ Ψx w m' hA hm hbs hp hy => back1_c hA (hq.mono hm) (h_l.mono hm) hm hbs hp hy
set_option maxHeartbeats 1600000 in
theorem around_c {w : World} {m : Mem} {c : Cd} {vs_c : List Value} {o_bl : Option Addr} {c_bl : Nat} {bl : List Bd} (hA : Agree w m) (h_c : CdR m c vs_c) (h_bl : Bds m o_bl bl.length c_bl bl) : FnV Tryd.prog 45 #[.agg vs_c.toArray, .slice o_bl bl.length c_bl] w m (fun _ m v => (MP.cd (Zd bl c)).p m v) := by
 obtain ⟨⟨oK_c, cK_c, oA_c, cA_c⟩, rfl, ⟨hik_c, hin_c⟩, hkk_c, haa_c⟩ := h_c.open_
 dsimp only at hkk_c haa_c
 have hbg_c := hkk_c.big; have hcp_c := hkk_c.cap; have hbh_c := haa_c.big; have hcq_c := haa_c.cap
 have hb_bl := h_bl.big; have hc_bl := h_bl.cap
 refine fn_enterM (vs := [_, _]) func45 rfl rfl fun a0 hfr0 => ?_
 have hst0 := zW hA (zf [] _ w m)
 have hM : MLe m m := MLe.refl m
 refine zB fun _ hK1 => ?_
 replace hst0 := hst0.more (r := .free) trivial List.nodup_nil (by simp [Res.blocks])
 replace hst0 := hst0.more (r := .free) trivial List.nodup_nil (by simp [Res.blocks])
 refine ra0 (tch := [(0, 0, (fun v => .blk v _)), (1, 1, (fun v => .blk v _))]) hst0 hfr0 (.consT rfl rfl (fun _ => rfl) rfl (ob_boxL rfl rfl) <| .consT rfl rfl (fun _ => rfl) rfl (zQ zeroValue46 rfl) <| .nil) fun a1 w1 m1 hst1 hle1 hk1 => ?_
 have hfr1 := hk1.fr (.o 0 <| .o 1 <| .nil)
 obtain ⟨g2, e2, _⟩ := hk1.ex 2 rfl
 replace hfr1 := hfr1.cons e2
 obtain ⟨g4, e3, _⟩ := hk1.ex 4 rfl
 replace hfr1 := hfr1.cons e3
 replace hst1 := hst1.fin (L' := [_, _]) (.cons e2 <| .cons e3 <| .nil)
 replace h_c := h_c.mono hle1
 replace h_bl := h_bl.mono hle1
 clear hst0 hfr0 hk1
 refine hK1 _ _ ?_
 refine zB fun _ hK4 => ?_
 refine zB fun _ hK5 => ?_
 refine rp0 hst1 hfr1 (.cons rfl (zD rfl) <| .cons rfl (zi (φ := MP.backV bl) rfl (.cons rfl <| .nil) call57 (fun w m hK => by have hle_ := KC.le hK; have hA := KC.agree hK; have h_bl := h_bl.mono hle_; exact FnG.mono (back_c hA h_bl) fun _ _ _ _ h => h)) <| .nil) fun a2 w2 m2 hst2 hle2 hk2 => ?_
 have hfr2 := hk2.fr (.o 0 <| .o 1 <| .o 2 <| .o 4 <| .nil)
 obtain ⟨⟨gq9, oq9, cq9⟩, e6, hq9, hlq9⟩ := hk2.ex 8 rfl
 replace hfr2 := hfr2.cons e6
 replace h_c := h_c.mono hle2
 clear hst1 hfr1 hk2
 refine hK5 _ _ ?_
 refine zN ?_
 refine zCJ (T := [(0, _), (1, _), (2, _), (4, _), (8, _)]) (fun (y : (Cd) × (CdY)) => ([.blk (.pointer (some ⟨g2, 0, none⟩)) (.cells (cdV y.1 y.2).toArray 46), _] : List Res)) (bl.length) (BackY bl) (fun i (y : (Cd) × (CdY)) m => (fun (cc : Cd) (cy : CdY) => (Zd bl c = Zd (bl.take (bl.length - i)) cc) ∧ (CdR m cc (cdV cc cy))) y.1 y.2) (fun (y : (Cd) × (CdY)) m => (fun (cc : Cd) (cy : CdY) => (False)) y.1 y.2) (c, _) hst2 (hfr2.sub (.c <| .c <| .c <| .c <| .c <| .nil)) rfl call70 ⟨by decide, by decide⟩ (fun _ _ _ _ hm h => ⟨h.1, h.2.mono hm⟩) (fun _ _ _ _ h => h) (⟨by rw [Nat.sub_zero, List.take_length], h_c⟩) (back_iter hq9 hlq9) (fun i hi y w3 m3 args l rc hle3 hY hrel _ => ?_) (fun y D l rc a3 w3 m3 hst3 hle3 hrel hfr3 => ?_) (fun y D l rc a3 w3 m3 hst3 hle3 hrel hfr3 => ?_)
 ·obtain ⟨cc, cy⟩ := y
  dsimp only at hrel
  obtain ⟨hj9, hcc9⟩ := hrel
  clear hst2 hfr2
  obtain ⟨k9, b, vb9, rfl, hbd9, hat9⟩ := hY
  obtain ⟨cs_b, rfl, hbc_b⟩ := id hbd9
  obtain ⟨⟨oK_bb, cK_bb, oA_bb, cA_bb⟩, rfl, ⟨hik_bb, hin_bb⟩, hkk_bb, haa_bb⟩ := hbc_b.open_
  dsimp only at hkk_bb haa_bb
  have hbg_bb := hkk_bb.big; have hcp_bb := hkk_bb.cap; have hbh_bb := haa_bb.big; have hcq_bb := haa_bb.cap
  refine ⟨rfl, fun G1 a3 hfr3 hst3 _ hKrf => ?_⟩
  replace hfr3 : Fr _ [(9, _), (10, _), (0, _), (1, _), (2, _), (4, _), (8, _)] a3 := hfr3
  replace hst3 : St G1 w3 m3 [_, _, _] w3 m3 := hst3
  replace hst3 := hst3.more (r := .free) trivial List.nodup_nil (by simp [Res.blocks])
  refine ra0 (tch := [(0, 3, (fun v => .blk v _)), (1, 3, (fun v => .blk v _))]) hst3 hfr3 (.consT rfl rfl (fun _ => rfl) rfl (zQ zeroValue107 rfl) <| .consT rfl rfl (fun _ => rfl) rfl (zU 6 rfl rfl rfl fun y6 => zb rfl rfl rfl rfl rfl sizeOf107 rfl rfl hbd9.one) <| .nil) fun a4 w4 m4 hst4 hle4 hk4 => ?_
  have hfr4 := hk4.fr (.o 9 <| .o 10 <| .o 0 <| .o 1 <| .o 2 <| .o 4 <| .o 8 <| .nil)
  obtain ⟨g7, e7, _⟩ := hk4.ex 6 rfl
  replace hfr4 := hfr4.cons e7
  replace hst4 := hst4.fin (L' := [_, _, _, _]) (.cons e7 <| .cons e7 <| .nil)
  try simp only [List.take_succ_cons, List.take_zero, List.drop_succ_cons, List.drop_zero, List.cons_append, List.nil_append, List.append_nil, List.length_cons, List.length_nil, Nat.zero_add, Nat.reduceAdd] at hst4
  clear hst3 hfr3 hk4
  refine hKrf _ _ _ [_, _, _, _] 2 hst4 rfl fun w5 hst5 => ?_; clear hKrf
  simp only [List.set_cons_succ, List.set_cons_zero] at hst5
  have hfr5 := hfr4; obtain ⟨a5, rfl⟩ : ∃ a, a = a4 := ⟨_, rfl⟩; obtain ⟨m5, rfl⟩ : ∃ m, m = m4 := ⟨_, rfl⟩; clear hst4 hfr4
  refine zN ?_
  refine zu 8 (by kernel_rfl) ?_
  refine zm (tch := []) hst5 hfr5 (by kernel_rfl) (by kernel_rfl) (by kernel_rfl) (.cons rfl (zA (off := 0) rfl underlying107 rfl rfl sizeOf3 rfl) <| .cons rfl (zM (j := 3) rfl rfl isAgg3 rfl) <| .cons rfl (zA (off := 1) rfl underlying107 rfl rfl sizeOf9 rfl) <| .cons rfl (zM (j := 3) rfl rfl isAgg9 rfl) <| .cons rfl (zA (off := 2) rfl underlying107 rfl rfl sizeOf46 rfl) <| .cons rfl (Zo (j := 3) rfl rfl isAgg46 sizeOf46 rfl rfl) <| .cons rfl (zd (j := 0) rfl rfl isAgg46 sizeOf46 rfl) <| .cons rfl (Z4 rfl rfl underlying43 sizeOf46 zeroValue46 rfl rfl rfl rfl rfl) <| .nil) fun a6 w6 m6 hst6 hle6 hk6 => ?_
  have hfr6 := hk6.fr (.o 9 <| .o 10 <| .o 0 <| .o 1 <| .o 2 <| .o 4 <| .o 8 <| .o 6 <| .n 12 <| .n 14 <| .nil)
  obtain ⟨g18, e8, h18⟩ := hk6.ex 18 rfl
  replace hfr6 := hfr6.cons e8
  clear hst5 hfr5 hk6
  have zq1 := hle4.trans hle6
  replace hcc9 := hcc9.mono zq1
  replace hbc_b := hbc_b.mono zq1
  have hnew9 : CdR m6 (cd2 b.kind b.name [] b.code cc) _ := cd2_R (k := b.kind) (s := b.name) (p := []) h18 hbc_b hcc9
  refine zm (tch := [(1, 0, (fun _ => .blk _ _))]) hst6 hfr6 (by kernel_rfl) (by kernel_rfl) (by kernel_rfl) (.cons rfl (zq (cs := cdV (cd2 b.kind b.name [] b.code cc) ⟨some ⟨g18, 0, none⟩, 2, none, 0⟩) (.cons rfl <| .cons rfl <| .cons rfl <| .nil) underlying46 zeroValue46 (.cons sizeOf3 <| .cons sizeOf9 <| .cons sizeOf9 <| .cons sizeOf3 <| .cons sizeOf43 <| .cons sizeOf44 <| .nil) (rfl)) <| .consT rfl rfl (fun _ => rfl) rfl (za rfl rfl rfl sizeOf46 rfl rfl rfl) <| .nil) fun a7 w7 m7 hst7 hle7 hk7 => ?_
  have hfr7 := hk7.fr (.o 9 <| .o 10 <| .o 0 <| .o 1 <| .o 2 <| .o 4 <| .o 8 <| .o 6 <| .o 12 <| .o 14 <| .o 18 <| .nil)
  replace hst7 := hst7.fin (L' := [_, _, _, _]) (.cons rfl <| .nil)
  try simp only [List.take_succ_cons, List.take_zero, List.drop_succ_cons, List.drop_zero, List.cons_append, List.nil_append, List.append_nil, List.length_cons, List.length_nil, Nat.zero_add, Nat.reduceAdd] at hst7
  clear hst6 hfr6 hk7
  repeat (with_reducible first | refine ZM ?_ | refine ZF ?_ | refine zw ?_)
  replace hnew9 := hnew9.mono hle7
  exact RoundQ.next ((cd2 b.kind b.name [] b.code cc), ⟨some ⟨g18, 0, none⟩, 2, none, 0⟩) (n0 := 2) (k := 2) hst7 rfl rfl rfl (⟨back_step hj9 hi hat9, hnew9⟩)
 ·obtain ⟨cc, cy⟩ := y
  dsimp only at hrel
  obtain ⟨hj9, hcc9⟩ := hrel
  clear hst2 hfr2
  replace hst3 : St _ _ _ [_, _, Zm l rc, zCM D] w3 m3 := hst3
  rw [Nat.sub_self, List.take_zero] at hj9
  have hj8 : Zd bl c = cc := hj9
  refine hK4 _ _ ?_
  refine zB fun _ hK9 => ?_
  refine ra0 (tch := [(1, 1, (fun _ => .blk _ _))]) hst3 hfr3 (.cons rfl (zd (j := 0) rfl rfl isAgg46 sizeOf46 rfl) <| .consT rfl rfl (fun _ => rfl) rfl (za rfl rfl rfl sizeOf46 rfl rfl rfl) <| .nil) fun a4 w4 m4 hst4 hle4 hk4 => ?_
  have hfr4 := hk4.fr (.o 0 <| .o 1 <| .o 2 <| .o 4 <| .o 8 <| .nil)
  replace hst4 := hst4.fin (L' := [_, _, _, _]) (.cons rfl <| .nil)
  try simp only [List.take_succ_cons, List.take_zero, List.drop_succ_cons, List.drop_zero, List.cons_append, List.nil_append, List.append_nil, List.length_cons, List.length_nil, Nat.zero_add, Nat.reduceAdd] at hst4
  clear hst3 hfr3 hk4
  refine hK9 _ _ ?_
  refine zK ?_
  repeat (with_reducible first | refine zI ?_ | refine zF ?_)
  replace hcc9 := hcc9.mono hle4
  exact fn_retM hst4 (k := 3) rfl hfr4 rfl (fun w hstE => .cell rfl (zn (zl (hstE.loc.at_ (k := 1) rfl)) isAgg46 sizeOf46) <| .nil) (fun w => ⟨cy, by rw [hj8]; rfl, by rw [hj8]; exact hcc9⟩)
 ·exact hrel.elim
end Go.Proofs.YtmdhhjmomilhjaaDoor
namespace Go.Proofs.YtmdhhjmomilhjaaDoor
open Go.Proofs.Tryd
set_option linter.all false
set_option maxRecDepth 4000
open Go.RowKit
open Go.Lib (itoa decDigits)
abbrev zBV (f : Nat) : Prop := ∀ {w : World} {m : Mem} {sel tl : Bool} {r n : Nat} {t : Tm} {vs_t : List Value} (hA : Agree w m) (hr : (Res.blk (.pointer (some ⟨r, 0, none⟩)) (.cells #[.bool sel, .bool tl, .int .i64 ((n : Nat) : Int)] 75)).holds w m) (h_t : TmR m t vs_t) (hT : Tab w) (hL : LwT t) (hf : zP t ≤ f) (hbk : zt t ≤ 1000000000) (hnb : n + zP t ≤ 1000000000) (hNT : Zx r),
 FnG Tryd.prog 31 #[.pointer (some ⟨r, 0, none⟩), .agg vs_t.toArray] [r] w m (fun w' m' v => Loc [r] w.heap.size [.blk (.pointer (some ⟨r, 0, none⟩)) (.cells #[.bool sel, .bool tl, .int .i64 (((zT sel tl f t n).2 : Nat) : Int)] 75)] w' m' ∧ (MP.cd (zT sel tl f t n).1).p m' v)
theorem zAk {f : Nat} (ih : zBV f) {w : World} {m : Mem} {sel tl : Bool} {r n : Nat} {t : Tm} {vs : List Value} (hA : Agree w m) (hr : (Res.blk (.pointer (some ⟨r, 0, none⟩)) (.cells #[.bool sel, .bool tl, .int .i64 ((n : Nat) : Int)] 75)).holds w m) (h : TmR m t vs) (hT : Tab w) (hL : LwT t) (hf : zP t ≤ f) (hbk : zt t ≤ 1000000000) (hnb : n + zP t ≤ 1000000000) (hNT : Zx r) :
  Calls Tryd.prog 31 #[.pointer (some ⟨r, 0, none⟩), .agg vs.toArray] w fun e w' => ∃ v m', e = .returned v ∧ Touch (Res.blk (.pointer (some ⟨r, 0, none⟩)) (.cells #[.bool sel, .bool tl, .int .i64 ((n : Nat) : Int)] 75)) (Res.blk (.pointer (some ⟨r, 0, none⟩)) (.cells #[.bool sel, .bool tl, .int .i64 (((zT sel tl f t n).2 : Nat) : Int)] 75)) w m w' m' ∧ (Kn.ex (MP.cd (zT sel tl f t n).1)).holds m' v :=
 Calls.mono (ih hA hr h hT hL hf hbk hnb hNT) fun e w' ⟨v, m', e1, hE, hl, hv⟩ => ⟨v, m', e1, zCZ hE hl, hv⟩
set_option maxHeartbeats 3200000 in
theorem atom_g {w : World} {m : Mem} {sel tl : Bool} {r n : Nat} {t : Tm} {vs_t : List Value} {f : Nat} (hA : Agree w m) (hr : (Res.blk (.pointer (some ⟨r, 0, none⟩)) (.cells #[.bool sel, .bool tl, .int .i64 ((n : Nat) : Int)] 75)).holds w m) (h_t : TmR m t vs_t) (hT : Tab w) (ih : zBV f) (hl : ZU t = true) (hL : LwT t) (hf : zP t ≤ f + 1) (hbk : zt t ≤ 1000000000) (hnb : n + zP t ≤ 1000000000) (hNT : Zx r) : FnG Tryd.prog 41 #[.pointer (some ⟨r, 0, none⟩), .agg vs_t.toArray] [r] w m (fun w' m' v => Loc [r] w.heap.size [.blk (.pointer (some ⟨r, 0, none⟩)) (.cells #[.bool sel, .bool tl, .int .i64 (((ZS sel tl (zT sel tl f) t n).2 : Nat) : Int)] 75)] w' m' ∧ (MP.cd (ZS sel tl (zT sel tl f) t n).1).p m' v) := by
 obtain ⟨⟨oK_t, cK_t, oA_t, cA_t, oR_t, cR_t, t0_t, t1_t, t2_t, t3_t, t4_t, t5_t, u0_t, u1_t, u2_t, u3_t, u4_t, u5_t⟩, rfl, hon_t, hkk_t, haa_t, hrr_t⟩ := h_t.open_
 dsimp only at hkk_t haa_t hrr_t
 have hbg_t := hkk_t.big; have hcp_t := hkk_t.cap; have hbh_t := haa_t.big; have hcq_t := haa_t.cap
 refine zX (vs := [_, _]) func41 rfl rfl rfl fun a0 hfr0 => ?_
 have hst0 := zW hA (zBS hr (by simp [Res.blocks, zj]))
 have hM : MLe m m := MLe.refl m
 have hNTs : ∀ q ∈ [r], Zx q := fun q hq => by rw [List.mem_singleton] at hq; rw [hq]; exact hNT
 have hce := zr t
 have hbe := Zi t
 have hln := hL.here.lens
 have hl5 := hl; unfold ZU at hl5; simp only [Bool.and_eq_true, decide_eq_true_eq] at hl5
 refine zB fun _ hK1 => ?_
 replace hst0 := hst0.more (r := .free) trivial List.nodup_nil (by simp [Res.blocks])
 refine ra0 (tch := [(1, 1, (fun v => .blk v _))]) hst0 hfr0 (.cons rfl (zv rfl rfl) <| .consT rfl rfl (fun _ => rfl) rfl (zQ zeroValue46 rfl) <| .nil) fun a1 w1 m1 hst1 hle1 hk1 => ?_
 have hfr1 := hk1.fr (.o 0 <| .nil)
 obtain ⟨g2, e2, hc3⟩ := hk1.ex 3 rfl
 replace hfr1 := hfr1.cons e2
 obtain ⟨g3, e3, _⟩ := hk1.ex 4 rfl
 replace hfr1 := hfr1.cons e3
 replace hst1 := hst1.fin (L' := [_, _]) (.cons e3 <| .nil)
 replace h_t := h_t.mono hle1
 replace hkk_t := hkk_t.mono hle1
 replace haa_t := haa_t.mono hle1
 replace hrr_t := hrr_t.mono hle1
 replace hM := hM.trans hle1
 clear hst0 hfr0 hk1
 refine hK1 _ _ ?_
 refine zB fun _ hK4 => ?_
 replace hst1 := hst1.more (r := .free) trivial List.nodup_nil (by simp [Res.blocks])
 refine ra0 (tch := [(1, 2, (fun v => .blk v _)), (2, 2, (fun v => .blk v _))]) hst1 hfr1 (.cons rfl (zq (.nil) underlying46 zeroValue46 (.cons sizeOf3 <| .cons sizeOf9 <| .cons sizeOf9 <| .cons sizeOf3 <| .cons sizeOf43 <| .cons sizeOf44 <| .nil) rfl) <| .consT rfl rfl (fun _ => rfl) rfl (zQ zeroValue46 rfl) <| .consT rfl rfl (fun _ => rfl) rfl (zU 5 rfl rfl rfl fun y5 => zb rfl rfl rfl rfl rfl sizeOf46 rfl rfl rfl) <| .nil) fun a2 w2 m2 hst2 hle2 hk2 => ?_
 have hfr2 := hk2.fr (.o 0 <| .o 3 <| .o 4 <| .nil)
 obtain ⟨g5, e5, _⟩ := hk2.ex 5 rfl
 replace hfr2 := hfr2.cons e5
 replace hst2 := hst2.fin (L' := [_, _, _]) (.cons e5 <| .cons e5 <| .nil)
 try simp only [List.take_succ_cons, List.take_zero, List.drop_succ_cons, List.drop_zero, List.cons_append, List.nil_append, List.append_nil, List.length_cons, List.length_nil, Nat.zero_add, Nat.reduceAdd] at hst2
 replace h_t := h_t.mono hle2
 replace hkk_t := hkk_t.mono hle2
 replace haa_t := haa_t.mono hle2
 replace hrr_t := hrr_t.mono hle2
 replace hc3 := hc3.mono hle2
 replace hM := hM.trans hle2
 clear hst1 hfr1 hk2
 refine hK4 _ _ ?_
 refine zB fun _ hK6 => ?_
 refine ra0 (tch := [(7, 2, (fun _ => .blk _ _))]) hst2 hfr2 (.cons rfl (zA (off := 0) rfl underlying33 rfl rfl sizeOf3 rfl) <| .cons rfl (zE rfl hc3 isAgg3 rfl) <| .cons rfl (zc rfl (.cons rfl <| .nil) call55 (fun w m hK => by have hle_ := KC.le hK; have hA := KC.agree hK; exact atoms_c (k := t.kind) hA)) <| .cons rfl (zD rfl) <| .cons rfl (zS rfl rfl) <| .cons rfl (zS rfl rfl) <| .cons rfl (zA (off := 0) rfl underlying46 rfl rfl sizeOf3 rfl) <| .consT rfl rfl (fun _ => rfl) rfl (ZE rfl rfl rfl sizeOf3 rfl rfl rfl) <| .nil) fun a3 w3 m3 hst3 hle3 hk3 => ?_
 have hfr3 := hk3.fr (.o 0 <| .o 3 <| .o 4 <| .o 5 <| .nil)
 replace hst3 := hst3.fin (L' := [_, _, _]) (.cons rfl <| .nil)
 try simp only [List.take_succ_cons, List.take_zero, List.drop_succ_cons, List.drop_zero, List.cons_append, List.nil_append, List.append_nil, List.length_cons, List.length_nil, Nat.zero_add, Nat.reduceAdd] at hst3
 replace h_t := h_t.mono hle3
 replace hkk_t := hkk_t.mono hle3
 replace haa_t := haa_t.mono hle3
 replace hrr_t := hrr_t.mono hle3
 replace hc3 := hc3.mono hle3
 replace hM := hM.trans hle3
 clear hst2 hfr2 hk3
 have hak : zDF t.kind = t.kind := if_pos (by omega)
 rw [hak] at hst3
 refine hK6 _ _ ?_
 refine zB fun _ hK7 => ?_
 refine zB fun _ hK8 => ?_
 refine rp0 hst3 hfr3 (.cons rfl (zA (off := 0) rfl underlying33 rfl rfl sizeOf3 rfl) <| .cons rfl (zE rfl hc3 isAgg3 rfl) <| .nil) fun a4 w4 m4 hst4 hle4 hk4 => ?_
 have hfr4 := hk4.fr (.o 0 <| .o 3 <| .o 4 <| .o 5 <| .n 15 <| .nil)
 replace h_t := h_t.mono hle4
 replace hkk_t := hkk_t.mono hle4
 replace haa_t := haa_t.mono hle4
 replace hrr_t := hrr_t.mono hle4
 replace hc3 := hc3.mono hle4
 replace hM := hM.trans hle4
 clear hst3 hfr3 hk4
 refine hK8 _ _ ?_
 refine zN ?_
 refine zB fun _ hK9 => ?_
 refine zN ?_
 refine zB fun _ hK10 => ?_
 refine zN ?_
 refine zB fun _ hK11 => ?_
 refine zN ?_
 refine zB fun _ hK12 => ?_
 refine zB fun _ hK13 => ?_
 refine zB fun _ hK14 => ?_
 refine zB fun _ hK15 => ?_
 refine rp0 hst4 hfr4 (.cons rfl (zV rfl rfl) <| .cons rfl (zC rfl) <| .nil) fun a5 w5 m5 hst5 hle5 hk5 => ?_
 have hfr5 := hk5.fr (.o 0 <| .o 3 <| .o 4 <| .o 5 <| .o 15 <| .n 16 <| .nil)
 replace h_t := h_t.mono hle5
 replace hkk_t := hkk_t.mono hle5
 replace haa_t := haa_t.mono hle5
 replace hrr_t := hrr_t.mono hle5
 replace hc3 := hc3.mono hle5
 replace hM := hM.trans hle5
 clear hst4 hfr4 hk5
 refine hK15 _ _ ?_
 refine zG hfr5 rfl rfl (fun hb16 => ?_) (fun hb16 => ?_)
 ·try simp only [nqs] at hb16
  refine zJ ?_
  refine hK14 _ _ ?_
  refine zG hfr5 rfl rfl (fun hb16x => ?_) (fun hb16x => ?_)
  ·try simp only [nqs] at hb16x
   refine zg ?_
   refine hK11 _ _ ?_
   refine zB fun _ hK16 => ?_
   refine ra0 (tch := [(3, 2, (fun _ => .blk _ _))]) hst5 hfr5 (.cons rfl (zA (off := 4) rfl underlying33 rfl rfl sizeOf3 rfl) <| .cons rfl (zE rfl hc3 isAgg3 rfl) <| .cons rfl (zA (off := 3) rfl underlying46 rfl rfl sizeOf3 rfl) <| .consT rfl rfl (fun _ => rfl) rfl (ZE rfl rfl rfl sizeOf3 rfl rfl rfl) <| .nil) fun a6 w6 m6 hst6 hle6 hk6 => ?_
   have hfr6 := hk6.fr (.o 4 <| .o 5 <| .nil)
   replace hst6 := hst6.fin (L' := [_, _, _]) (.cons rfl <| .nil)
   try simp only [List.take_succ_cons, List.take_zero, List.drop_succ_cons, List.drop_zero, List.cons_append, List.nil_append, List.append_nil, List.length_cons, List.length_nil, Nat.zero_add, Nat.reduceAdd] at hst6
   clear hst5 hfr5 hk6
   have hbd : (ZS sel tl (zT sel tl f) t n) = (⟨t.kind, [], [], t.n, [], []⟩, n) := by rw [bodyA (by omega) (by omega) (by omega) (by omega) hl, if_neg (by omega), if_pos (by omega)]
   refine hK16 _ _ ?_
   refine zg ?_
   refine hK7 _ _ ?_
   refine zB fun _ hK17 => ?_
   refine ra0 (tch := [(1, 1, (fun _ => .blk _ _))]) hst6 hfr6 (.cons rfl (zd (j := 2) rfl rfl isAgg46 sizeOf46 rfl) <| .consT rfl rfl (fun _ => rfl) rfl (za rfl rfl rfl sizeOf46 rfl rfl rfl) <| .nil) fun a7 w7 m7 hst7 hle7 hk7 => ?_
   have hfr7 := hk7.fr (.o 4 <| .nil)
   replace hst7 := hst7.fin (L' := [_, _, _]) (.cons rfl <| .nil)
   try simp only [List.take_succ_cons, List.take_zero, List.drop_succ_cons, List.drop_zero, List.cons_append, List.nil_append, List.append_nil, List.length_cons, List.length_nil, Nat.zero_add, Nat.reduceAdd] at hst7
   clear hst6 hfr6 hk7
   refine hK17 _ _ ?_
   refine zK ?_
   repeat (with_reducible first | refine zI ?_ | refine zF ?_)
   exact zL hst7 hfr7 rfl (.cell rfl (zn (zl (hst7.loc.at_ (k := 1) rfl)) isAgg46 sizeOf46) <| .nil) (⟨by rw [hbd]; exact (hst7.take 1).loc, ⟨none, 0, none, 0⟩, by rw [hbd]; rfl, by rw [hbd]; exact CdR.build trivial trivial Sl.empty Sl.empty⟩)
  ·exfalso; try simp only [nqs] at hb16x
   first | exact absurd hb16x hb16 | exact absurd hb16 hb16x | simp_all
 ·try simp only [nqs] at hb16
  refine rp0 hst5 hfr5 (.cons rfl (zV rfl rfl) <| .cons rfl (zC rfl) <| .nil) fun a6 w6 m6 hst6 hle6 hk6 => ?_
  have hfr6 := hk6.fr (.o 0 <| .o 3 <| .o 4 <| .o 5 <| .o 15 <| .n 16 <| .nil)
  clear hst5 hfr5 hk6
  refine hK14 _ _ ?_
  refine zG hfr6 rfl rfl (fun hb16 => ?_) (fun hb16 => ?_)
  ·try simp only [nqs] at hb16
   refine zg ?_
   refine hK11 _ _ ?_
   refine zB fun _ hK19 => ?_
   replace hc3 := hc3.mono hle6
   refine ra0 (tch := [(3, 2, (fun _ => .blk _ _))]) hst6 hfr6 (.cons rfl (zA (off := 4) rfl underlying33 rfl rfl sizeOf3 rfl) <| .cons rfl (zE rfl hc3 isAgg3 rfl) <| .cons rfl (zA (off := 3) rfl underlying46 rfl rfl sizeOf3 rfl) <| .consT rfl rfl (fun _ => rfl) rfl (ZE rfl rfl rfl sizeOf3 rfl rfl rfl) <| .nil) fun a7 w7 m7 hst7 hle7 hk7 => ?_
   have hfr7 := hk7.fr (.o 4 <| .o 5 <| .nil)
   replace hst7 := hst7.fin (L' := [_, _, _]) (.cons rfl <| .nil)
   try simp only [List.take_succ_cons, List.take_zero, List.drop_succ_cons, List.drop_zero, List.cons_append, List.nil_append, List.append_nil, List.length_cons, List.length_nil, Nat.zero_add, Nat.reduceAdd] at hst7
   clear hst6 hfr6 hk7
   have hbd : (ZS sel tl (zT sel tl f) t n) = (⟨t.kind, [], [], t.n, [], []⟩, n) := by rw [bodyA (by omega) (by omega) (by omega) (by omega) hl, if_neg (by omega), if_pos (by omega)]
   refine hK19 _ _ ?_
   refine zg ?_
   refine hK7 _ _ ?_
   refine zB fun _ hK20 => ?_
   refine ra0 (tch := [(1, 1, (fun _ => .blk _ _))]) hst7 hfr7 (.cons rfl (zd (j := 2) rfl rfl isAgg46 sizeOf46 rfl) <| .consT rfl rfl (fun _ => rfl) rfl (za rfl rfl rfl sizeOf46 rfl rfl rfl) <| .nil) fun a8 w8 m8 hst8 hle8 hk8 => ?_
   have hfr8 := hk8.fr (.o 4 <| .nil)
   replace hst8 := hst8.fin (L' := [_, _, _]) (.cons rfl <| .nil)
   try simp only [List.take_succ_cons, List.take_zero, List.drop_succ_cons, List.drop_zero, List.cons_append, List.nil_append, List.append_nil, List.length_cons, List.length_nil, Nat.zero_add, Nat.reduceAdd] at hst8
   clear hst7 hfr7 hk8
   refine hK20 _ _ ?_
   refine zK ?_
   repeat (with_reducible first | refine zI ?_ | refine zF ?_)
   exact zL hst8 hfr8 rfl (.cell rfl (zn (zl (hst8.loc.at_ (k := 1) rfl)) isAgg46 sizeOf46) <| .nil) (⟨by rw [hbd]; exact (hst8.take 1).loc, ⟨none, 0, none, 0⟩, by rw [hbd]; rfl, by rw [hbd]; exact CdR.build trivial trivial Sl.empty Sl.empty⟩)
  ·try simp only [nqs] at hb16
   refine zJ ?_
   refine hK13 _ _ ?_
   refine zB fun _ hK22 => ?_
   refine zB fun _ hK23 => ?_
   refine rp0 hst6 hfr6 (.cons rfl (zV rfl rfl) <| .cons rfl (zC rfl) <| .nil) fun a7 w7 m7 hst7 hle7 hk7 => ?_
   have hfr7 := hk7.fr (.o 0 <| .o 3 <| .o 4 <| .o 5 <| .o 15 <| .n 19 <| .nil)
   clear hst6 hfr6 hk7
   refine hK23 _ _ ?_
   refine zG hfr7 rfl rfl (fun hb19 => ?_) (fun hb19 => ?_)
   ·try simp only [nqs] at hb19
    refine zg ?_
    refine hK10 _ _ ?_
    refine zu 6 (by kernel_rfl) ?_
    have zq1 := hle6.trans hle7
    replace hkk_t := hkk_t.mono zq1
    obtain ⟨p24, vs24, x24, ho24, hd24, hm_x24, ht24, hcv24, hl24, hv24⟩ := hkk_t.nth (k := 0) (by omega)
    cases ho24
    obtain ⟨⟨oK24, cK24, oA24, cA24, oR24, cR24, t024, t124, t224, t324, t424, t524, u024, u124, u224, u324, u424, u524⟩, rfl, hon24, hkk24, haa24, hrr24⟩ := hv24.open_
    dsimp only at hkk24 haa24 hrr24
    have hbg24 := hkk24.big; have hcp24 := hkk24.cap; have hbh24 := haa24.big; have hcq24 := haa24.cap
    have hk0 : kid t 0 = x24 := Zr hd24
    replace h_t := h_t.mono zq1
    replace haa_t := haa_t.mono zq1
    replace hrr_t := hrr_t.mono zq1
    replace hc3 := hc3.mono zq1
    replace hM := hM.trans zq1
    refine zm (tch := [(5, 0, (fun _ => .blk (.pointer (some ⟨r, 0, none⟩)) (.cells #[.bool sel, .bool tl, .int .i64 ((((zT sel tl f) x24 (n)).2 : Nat) : Int)] 75)))]) hst7 hfr7 (by kernel_rfl) (by kernel_rfl) (by kernel_rfl) (.cons rfl (zD rfl) <| .cons rfl (zA (off := 5) rfl underlying33 rfl rfl sizeOf24 rfl) <| .cons rfl (zE rfl hc3 isAgg24 rfl) <| .cons rfl (zH (k := 0) rfl rfl underlying24 sizeOf33 rfl (by omega)) <| .cons rfl (zO rfl hcv24 isAgg33 sizeOf33 rfl rfl) <| .consT rfl rfl (fun _ => rfl) rfl (Za rfl (.cons rfl <| .cons rfl <| .nil) call31 (κ := .ex (MP.cd ((zT sel tl f) x24 (n)).1)) (fun σ w m hK hr hkn => by have hle_ := KC.le hK; have hA := KC.agree hK; have hM := hM.trans hle_; have h_t := h_t.mono hle_; have hkk_t := hkk_t.mono hle_; have haa_t := haa_t.mono hle_; have hrr_t := hrr_t.mono hle_; have hc3 := hc3.mono hle_; have hcv24 := hcv24.mono hle_; have hv24 := hv24.mono hle_; have hkk24 := hkk24.mono hle_; have haa24 := haa24.mono hle_; have hrr24 := hrr24.mono hle_; have hT := ZO hT hK.st.ext hNTs; exact zAk ih hA hr hv24 hT (hL.kid hm_x24) (by have := ZH hm_x24; omega) (by have := Zc hm_x24; omega) (by have := ZH hm_x24; omega) hNT)) <| .nil) fun a8 w8 m8 hst8 hle8 hk8 => ?_
    have hfr8 := hk8.fr (.o 0 <| .o 3 <| .o 4 <| .o 5 <| .o 15 <| .nil)
    obtain ⟨yc, e25, hyc⟩ := hk8.ex 31 rfl
    replace hfr8 := hfr8.cons e25
    replace hst8 := hst8.fin (L' := [_, _, _]) (.cons e25 <| .nil)
    clear hst7 hfr7 hk8
    refine ops_cut 1 (by kernel_rfl) ?_
    refine zm (tch := []) hst8 hfr8 (by kernel_rfl) (by kernel_rfl) (by kernel_rfl) (.cons rfl (z8 rfl underlying43 sizeOf46 zeroValue46 rfl rfl rfl rfl) <| .nil) fun a9 w9 m9 hst9 hle9 hk9 => ?_
    have hfr9 := hk9.fr (.o 0 <| .o 3 <| .o 4 <| .o 5 <| .o 15 <| .o 31 <| .nil)
    obtain ⟨g32, e26, h32⟩ := hk9.ex 32 rfl
    replace hfr9 := hfr9.cons e26
    clear hst8 hfr8 hk9
    refine zm (tch := [(1, 2, (fun _ => .blk _ _))]) hst9 hfr9 (by kernel_rfl) (by kernel_rfl) (by kernel_rfl) (.cons rfl (zA (off := 4) rfl underlying46 rfl rfl sizeOf43 rfl) <| .consT rfl rfl (fun _ => rfl) rfl (ZE rfl rfl rfl sizeOf43 rfl rfl rfl) <| .nil) fun a10 w10 m10 hst10 hle10 hk10 => ?_
    have hfr10 := hk10.fr (.o 0 <| .o 3 <| .o 4 <| .o 5 <| .o 15 <| .o 31 <| .o 32 <| .nil)
    replace hst10 := hst10.fin (L' := [_, _, _]) (.cons rfl <| .nil)
    try simp only [List.take_succ_cons, List.take_zero, List.drop_succ_cons, List.drop_zero, List.cons_append, List.nil_append, List.append_nil, List.length_cons, List.length_nil, Nat.zero_add, Nat.reduceAdd] at hst10
    clear hst9 hfr9 hk10
    have hbd : (ZS sel tl (zT sel tl f) t n) = (⟨5, t.name, [], 0, [((zT sel tl f) x24 n).1], []⟩, ((zT sel tl f) x24 n).2) := by rw [body5 (by omega), hk0]
    have hk5 : t.kind = 5 := by omega
    rw [hk5] at hst10
    refine hK9 _ _ ?_
    refine zB fun _ hK27 => ?_
    have zq2 := hle9.trans hle10
    have zq3 := hle8.trans zq2
    replace hc3 := hc3.mono zq3
    refine ra0 (tch := [(3, 2, (fun _ => .blk _ _))]) hst10 hfr10 (.cons rfl (zA (off := 2) rfl underlying33 rfl rfl sizeOf9 rfl) <| .cons rfl (zE rfl hc3 isAgg9 rfl) <| .cons rfl (zA (off := 1) rfl underlying46 rfl rfl sizeOf9 rfl) <| .consT rfl rfl (fun _ => rfl) rfl (ZE rfl rfl rfl sizeOf9 rfl rfl rfl) <| .nil) fun a11 w11 m11 hst11 hle11 hk11 => ?_
    have hfr11 := hk11.fr (.o 4 <| .o 5 <| .nil)
    replace hst11 := hst11.fin (L' := [_, _, _]) (.cons rfl <| .nil)
    try simp only [List.take_succ_cons, List.take_zero, List.drop_succ_cons, List.drop_zero, List.cons_append, List.nil_append, List.append_nil, List.length_cons, List.length_nil, Nat.zero_add, Nat.reduceAdd] at hst11
    clear hst10 hfr10 hk11
    refine hK27 _ _ ?_
    refine zg ?_
    refine hK7 _ _ ?_
    refine zB fun _ hK28 => ?_
    refine ra0 (tch := [(1, 1, (fun _ => .blk _ _))]) hst11 hfr11 (.cons rfl (zd (j := 2) rfl rfl isAgg46 sizeOf46 rfl) <| .consT rfl rfl (fun _ => rfl) rfl (za rfl rfl rfl sizeOf46 rfl rfl rfl) <| .nil) fun a12 w12 m12 hst12 hle12 hk12 => ?_
    have hfr12 := hk12.fr (.o 4 <| .nil)
    replace hst12 := hst12.fin (L' := [_, _, _]) (.cons rfl <| .nil)
    try simp only [List.take_succ_cons, List.take_zero, List.drop_succ_cons, List.drop_zero, List.cons_append, List.nil_append, List.append_nil, List.length_cons, List.length_nil, Nat.zero_add, Nat.reduceAdd] at hst12
    clear hst11 hfr11 hk12
    refine hK28 _ _ ?_
    refine zK ?_
    repeat (with_reducible first | refine zI ?_ | refine zF ?_)
    have zq4 := hle11.trans hle12
    have zq5 := zq2.trans zq4
    replace hyc := hyc.mono zq5
    have zq6 := hle10.trans zq4
    replace h32 := h32.mono zq6
    exact zL hst12 hfr12 rfl (.cell rfl (zn (zl (hst12.loc.at_ (k := 1) rfl)) isAgg46 sizeOf46) <| .nil) (⟨by rw [hbd]; exact (hst12.take 1).loc, ⟨(some ⟨g32, 0, none⟩), 1, none, 0⟩, by rw [hbd]; rfl, by rw [hbd]; exact CdR.build trivial trivial (Sl.one (R := fun m vs t => CdR m t vs) h32 hyc.len hyc) Sl.empty⟩)
   ·try simp only [nqs] at hb19
    refine zJ ?_
    refine hK22 _ _ ?_
    refine zB fun _ hK30 => ?_
    refine rp0 hst7 hfr7 (.cons rfl (zV rfl rfl) <| .cons rfl (zC rfl) <| .nil) fun a8 w8 m8 hst8 hle8 hk8 => ?_
    have hfr8 := hk8.fr (.o 3 <| .o 4 <| .o 5 <| .n 21 <| .nil)
    clear hst7 hfr7 hk8
    refine hK30 _ _ ?_
    refine zG hfr8 rfl rfl (fun hb21 => ?_) (fun hb21 => ?_)
    ·try simp only [nqs] at hb21
     have hbd : (ZS sel tl (zT sel tl f) t n) = (⟨1, t.name, [], 0, [], []⟩, n) := by rw [bodyA (by omega) (by omega) (by omega) (by omega) hl, if_pos (by omega), if_neg (by omega), show t.kind = 1 by omega]
     have hk1 : t.kind = 1 := by omega
     rw [hk1] at hst8
     refine zg ?_
     refine hK9 _ _ ?_
     refine zB fun _ hK31 => ?_
     have zq7 := hle7.trans hle8
     have zq8 := hle6.trans zq7
     replace hc3 := hc3.mono zq8
     refine ra0 (tch := [(3, 2, (fun _ => .blk _ _))]) hst8 hfr8 (.cons rfl (zA (off := 2) rfl underlying33 rfl rfl sizeOf9 rfl) <| .cons rfl (zE rfl hc3 isAgg9 rfl) <| .cons rfl (zA (off := 1) rfl underlying46 rfl rfl sizeOf9 rfl) <| .consT rfl rfl (fun _ => rfl) rfl (ZE rfl rfl rfl sizeOf9 rfl rfl rfl) <| .nil) fun a9 w9 m9 hst9 hle9 hk9 => ?_
     have hfr9 := hk9.fr (.o 4 <| .o 5 <| .nil)
     replace hst9 := hst9.fin (L' := [_, _, _]) (.cons rfl <| .nil)
     try simp only [List.take_succ_cons, List.take_zero, List.drop_succ_cons, List.drop_zero, List.cons_append, List.nil_append, List.append_nil, List.length_cons, List.length_nil, Nat.zero_add, Nat.reduceAdd] at hst9
     clear hst8 hfr8 hk9
     refine hK31 _ _ ?_
     refine zg ?_
     refine hK7 _ _ ?_
     refine zB fun _ hK32 => ?_
     refine ra0 (tch := [(1, 1, (fun _ => .blk _ _))]) hst9 hfr9 (.cons rfl (zd (j := 2) rfl rfl isAgg46 sizeOf46 rfl) <| .consT rfl rfl (fun _ => rfl) rfl (za rfl rfl rfl sizeOf46 rfl rfl rfl) <| .nil) fun a10 w10 m10 hst10 hle10 hk10 => ?_
     have hfr10 := hk10.fr (.o 4 <| .nil)
     replace hst10 := hst10.fin (L' := [_, _, _]) (.cons rfl <| .nil)
     try simp only [List.take_succ_cons, List.take_zero, List.drop_succ_cons, List.drop_zero, List.cons_append, List.nil_append, List.append_nil, List.length_cons, List.length_nil, Nat.zero_add, Nat.reduceAdd] at hst10
     clear hst9 hfr9 hk10
     refine hK32 _ _ ?_
     refine zK ?_
     repeat (with_reducible first | refine zI ?_ | refine zF ?_)
     exact zL hst10 hfr10 rfl (.cell rfl (zn (zl (hst10.loc.at_ (k := 1) rfl)) isAgg46 sizeOf46) <| .nil) (⟨by rw [hbd]; exact (hst10.take 1).loc, ⟨none, 0, none, 0⟩, by rw [hbd]; rfl, by rw [hbd]; exact CdR.build trivial trivial Sl.empty Sl.empty⟩)
    ·try simp only [nqs] at hb21
     have hbd : (ZS sel tl (zT sel tl f) t n) = (⟨4, [], [], 0, [], []⟩, n) := by rw [bodyA (by omega) (by omega) (by omega) (by omega) hl, if_neg (by omega), if_neg (by omega), show t.kind = 4 by omega]
     have hk4 : t.kind = 4 := by omega
     rw [hk4] at hst8
     refine zJ ?_
     refine hK12 _ _ ?_
     refine zg ?_
     refine hK7 _ _ ?_
     refine zB fun _ hK34 => ?_
     refine ra0 (tch := [(1, 1, (fun _ => .blk _ _))]) hst8 hfr8 (.cons rfl (zd (j := 2) rfl rfl isAgg46 sizeOf46 rfl) <| .consT rfl rfl (fun _ => rfl) rfl (za rfl rfl rfl sizeOf46 rfl rfl rfl) <| .nil) fun a9 w9 m9 hst9 hle9 hk9 => ?_
     have hfr9 := hk9.fr (.o 4 <| .nil)
     replace hst9 := hst9.fin (L' := [_, _, _]) (.cons rfl <| .nil)
     try simp only [List.take_succ_cons, List.take_zero, List.drop_succ_cons, List.drop_zero, List.cons_append, List.nil_append, List.append_nil, List.length_cons, List.length_nil, Nat.zero_add, Nat.reduceAdd] at hst9
     clear hst8 hfr8 hk9
     refine hK34 _ _ ?_
     refine zK ?_
     repeat (with_reducible first | refine zI ?_ | refine zF ?_)
     exact zL hst9 hfr9 rfl (.cell rfl (zn (zl (hst9.loc.at_ (k := 1) rfl)) isAgg46 sizeOf46) <| .nil) (⟨by rw [hbd]; exact (hst9.take 1).loc, ⟨none, 0, none, 0⟩, by rw [hbd]; rfl, by rw [hbd]; exact CdR.build trivial trivial Sl.empty Sl.empty⟩)
set_option maxHeartbeats 3200000 in
theorem take_g {w : World} {m : Mem} {sel tl : Bool} {r n : Nat} {o_ks : Option Addr} {c_ks : Nat} {ks : List Tm} {f : Nat} (hA : Agree w m) (hr : (Res.blk (.pointer (some ⟨r, 0, none⟩)) (.cells #[.bool sel, .bool tl, .int .i64 ((n : Nat) : Int)] 75)).holds w m) (h_ks : Tms m o_ks ks.length c_ks ks) (hT : Tab w) (ih : zBV f) (hL : ∀ u ∈ ks, LwT u) (hf : ∀ u ∈ ks, zP u ≤ f) (hbk : ∀ u ∈ ks, zt u ≤ 1000000000) (hnb : n + zR ks ≤ 1000000000) (hNT : Zx r) : FnG Tryd.prog 43 #[.pointer (some ⟨r, 0, none⟩), .slice o_ks ks.length c_ks] [r] w m (fun w' m' v => ∃ (o1 : Option Addr) (c1 : Nat) (o2 : Option Addr) (c2 : Nat), v = .tuple #[.slice o1 (Zu (zT sel tl f) ks n).length c1, .slice o2 (zAe sel (zT sel tl f) ks n).length c2] ∧ Cds m' o1 (Zu (zT sel tl f) ks n).length c1 (Zu (zT sel tl f) ks n) ∧ Bds m' o2 (zAe sel (zT sel tl f) ks n).length c2 (zAe sel (zT sel tl f) ks n) ∧ Loc [r] w.heap.size [.blk (.pointer (some ⟨r, 0, none⟩)) (.cells #[.bool sel, .bool tl, .int .i64 ((zAS (zT sel tl f) ks n : Nat) : Int)] 75), .rowx (nz (.slice o1 (Zu (zT sel tl f) ks n).length c1)) (Zu (zT sel tl f) ks n).length 6 46 (MP.reads (fun m vs t => CdR m t vs) 6 (Zu (zT sel tl f) ks n))] w' m') := by
 have hb_ks := h_ks.big; have hc_ks := h_ks.cap
 refine zX (vs := [_, _]) func43 rfl rfl rfl fun a0 hfr0 => ?_
 have hst0 := zW hA (zBS hr (by simp [Res.blocks, zj]))
 have hM : MLe m m := MLe.refl m
 have hNTs : ∀ q ∈ [r], Zx q := fun q hq => by rw [List.mem_singleton] at hq; rw [hq]; exact hNT
 have hkl9 := Z1 ks
 refine zB fun _ hK1 => ?_
 refine rp0 hst0 hfr0 (.cons rfl (zC rfl) <| .cons rfl (zC rfl) <| .nil) fun a1 w1 m1 hst1 hle1 hk1 => ?_
 have hfr1 := hk1.fr (.o 0 <| .o 1 <| .n 4 <| .n 5 <| .nil)
 replace h_ks := h_ks.mono hle1
 replace hM := hM.trans hle1
 clear hst0 hfr0 hk1
 refine hK1 _ _ ?_
 refine zB fun _ hK2 => ?_
 refine zB fun _ hK3 => ?_
 refine rp0 hst1 hfr1 (.cons rfl (zD rfl) <| .cons rfl (zY rfl underlying24) <| .cons rfl (zD rfl) <| .nil) fun a2 w2 m2 hst2 hle2 hk2 => ?_
 have hfr2 := hk2.fr (.o 0 <| .o 4 <| .o 5 <| .n 10 <| .n 11 <| .n 12 <| .nil)
 replace h_ks := h_ks.mono hle2
 replace hM := hM.trans hle2
 clear hst1 hfr1 hk2
 have hst2 := hst2.more (r := .rowx (.slice none 0 0) 0 6 46 (MP.reads (fun m vs t => CdR m t vs) 6 [])) zAP List.nodup_nil (by simp [Res.blocks, zy])
 have hsl_O : Cds m2 none ([] : List Cd).length 0 ([] : List Cd) := Sl.empty
 have hst2 := hst2.more (r := .rowx (.slice none 0 0) 0 8 107 (MP.reads (fun m vs t => BdR m t vs) 8 [])) zAP List.nodup_nil (by simp [Res.blocks, zy])
 have hsl_B : Bds m2 none ([] : List Bd).length 0 ([] : List Bd) := Sl.empty
 refine hK3 _ _ ?_
 refine zN ?_
 refine ze (T := [(0, _), (10, _), (11, _)]) (fun (y : Nat × Nat × Option Addr × Nat × List Cd × Option Addr × Nat × List Bd) => ([(4, .slice y.2.2.1 y.2.2.2.2.1.length y.2.2.2.1), (5, .slice y.2.2.2.2.2.1 y.2.2.2.2.2.2.2.length y.2.2.2.2.2.2.1), (12, .int .i64 (y.1 : Int))] : List (Nat × Value))) (fun y => [.blk (.pointer (some ⟨r, 0, none⟩)) (.cells #[.bool sel, .bool tl, .int .i64 ((y.2.1 : Nat) : Int)] 75), .rowx (nz (.slice y.2.2.1 y.2.2.2.2.1.length y.2.2.2.1)) y.2.2.2.2.1.length 6 46 (MP.reads (fun m vs t => CdR m t vs) 6 y.2.2.2.2.1), .rowx (nz (.slice y.2.2.2.2.2.1 y.2.2.2.2.2.2.2.length y.2.2.2.2.2.2.1)) y.2.2.2.2.2.2.2.length 8 107 (MP.reads (fun m vs t => BdR m t vs) 8 y.2.2.2.2.2.2.2)]) (fun (y : Nat × Nat × Option Addr × Nat × List Cd × Option Addr × Nat × List Bd) m => (fun (y : Nat) (nq : Nat) (gao : Option Addr) (gap : Nat) (ga : List Cd) (gbo : Option Addr) (gbp : Nat) (gb : List Bd) => (y ≤ ks.length) ∧ (Cds m gao ga.length gap ga) ∧ (Zu (zT sel tl f) ks n = ga ++ Zu (zT sel tl f) (ks.drop y) nq ∧ ga.length ≤ y) ∧ (Bds m gbo gb.length gbp gb) ∧ (zAe sel (zT sel tl f) ks n = gb ++ zAe sel (zT sel tl f) (ks.drop y) nq ∧ gb.length ≤ y) ∧ (zAS (zT sel tl f) ks n = zAS (zT sel tl f) (ks.drop y) nq) ∧ (nq + zR (ks.drop y) ≤ n + zR ks)) y.1 y.2.1 y.2.2.1 y.2.2.2.1 y.2.2.2.2.1 y.2.2.2.2.2.1 y.2.2.2.2.2.2.1 y.2.2.2.2.2.2.2) (fun y => ks.length - y.1) ((0, n, none, 0, ([] : List Cd), none, 0, ([] : List Bd))) ⟨hst2, MLe.refl _, hfr2.sub (.c <| .c <| .c <| .c <| .c <| .c <| .nil), ⟨Nat.zero_le _, hsl_O, ⟨rfl, Nat.le_refl _⟩, hsl_B, ⟨rfl, Nat.le_refl _⟩, rfl, Nat.le_refl _⟩⟩ fun y a3 w3 m3 hh3 => ?_
 have hst3 := hh3.st; have hle3 := hh3.le; have hfr3 := hh3.fr; have hrel := hh3.rel; clear hh3
 replace h_ks := h_ks.mono hle3
 replace hsl_O := hsl_O.mono hle3
 replace hsl_B := hsl_B.mono hle3
 clear hst2 hfr2
 replace hM := hM.trans hle3
 obtain ⟨y, nq, gao, gap, ga, gbo, gbp, gb⟩ := y
 dsimp only at hrel hfr3 hst3
 obtain ⟨hyn, hsl_ga, hlen_ga, hsl_gb, hlen_gb, hj1, hj2⟩ := hrel
 have hlh3 := hle3
 refine zB fun _ hK5 => ?_
 refine rp0 hst3 hfr3 (.cons rfl (z7 rfl rfl) <| .nil) fun a4 w4 m4 hst4 hle4 hk4 => ?_
 have hfr4 := hk4.fr (.o 4 <| .o 5 <| .o 12 <| .o 0 <| .o 10 <| .o 11 <| .n 13 <| .nil)
 replace h_ks := h_ks.mono hle4
 replace hsl_O := hsl_O.mono hle4
 replace hsl_B := hsl_B.mono hle4
 replace hsl_ga := hsl_ga.mono hle4
 replace hsl_gb := hsl_gb.mono hle4
 have hlh4 := hlh3.trans hle4
 replace hM := hM.trans hle4
 clear hst3 hfr3 hk4
 refine hK5 _ _ ?_
 refine zB fun _ hK6 => ?_
 refine zG hfr4 rfl rfl (fun hb13 => ?_) (fun hb13 => ?_)
 ·try simp only [nqs] at hb13
  refine zJ ?_
  refine hK6 _ _ ?_
  refine zB fun _ hK7 => ?_
  refine zN ?_
  refine zB fun _ hK8 => ?_
  obtain ⟨p9, vs9, x9, ho9, hd9, hm_x9, ht9, hcv9, hl9, hv9⟩ := h_ks.nth (k := y) (by omega)
  cases ho9
  obtain ⟨⟨oK9, cK9, oA9, cA9, oR9, cR9, t09, t19, t29, t39, t49, t59, u09, u19, u29, u39, u49, u59⟩, rfl, hon9, hkk9, haa9, hrr9⟩ := hv9.open_
  dsimp only at hkk9 haa9 hrr9
  have hbg9 := hkk9.big; have hcp9 := hkk9.cap; have hbh9 := haa9.big; have hcq9 := haa9.cap
  rw [hd9] at hlen_ga hlen_gb hj1 hj2
  rw [Zu] at hlen_ga; rw [zAe] at hlen_gb; rw [zAS] at hj1; rw [zR] at hj2
  have hLx := hL _ hm_x9; have hfx := hf _ hm_x9; have hbx := hbk _ hm_x9
  have hgn := zBc sel tl f x9 nq hLx hfx
  replace hst4 := hst4.more (r := .free) trivial List.nodup_nil (by simp [Res.blocks])
  refine ra0 (tch := [(2, 3, (fun v => .blk v _)), (3, 3, (fun v => .blk v _))]) hst4 hfr4 (.cons rfl (zH (k := y) rfl rfl underlying24 sizeOf33 rfl (by omega)) <| .cons rfl (zO rfl hcv9 isAgg33 sizeOf33 rfl rfl) <| .consT rfl rfl (fun _ => rfl) rfl (zQ zeroValue33 rfl) <| .consT rfl rfl (fun _ => rfl) rfl (zU 7 rfl rfl rfl fun y7 => zb rfl rfl rfl rfl rfl sizeOf33 rfl rfl hv9.one) <| .nil) fun a5 w5 m5 hst5 hle5 hk5 => ?_
  have hfr5 := hk5.fr (.o 4 <| .o 5 <| .o 12 <| .o 0 <| .o 10 <| .o 11 <| .nil)
  obtain ⟨g10, e10, _⟩ := hk5.ex 7 rfl
  replace hfr5 := hfr5.cons e10
  replace hst5 := hst5.fin (L' := [_, _, _, _]) (.cons e10 <| .cons e10 <| .nil)
  try simp only [List.take_succ_cons, List.take_zero, List.drop_succ_cons, List.drop_zero, List.cons_append, List.nil_append, List.append_nil, List.length_cons, List.length_nil, Nat.zero_add, Nat.reduceAdd] at hst5
  clear hst4 hfr4 hk5
  refine hK8 _ _ ?_
  refine zB fun _ hK11 => ?_
  refine zu 3 (by kernel_rfl) ?_
  replace h_ks := h_ks.mono hle5
  replace hsl_O := hsl_O.mono hle5
  replace hsl_B := hsl_B.mono hle5
  replace hsl_ga := hsl_ga.mono hle5
  replace hsl_gb := hsl_gb.mono hle5
  replace hcv9 := hcv9.mono hle5
  replace hv9 := hv9.mono hle5
  replace hkk9 := hkk9.mono hle5
  replace haa9 := haa9.mono hle5
  replace hrr9 := hrr9.mono hle5
  replace hM := hM.trans hle5
  refine zm (tch := [(2, 0, (fun _ => .blk (.pointer (some ⟨r, 0, none⟩)) (.cells #[.bool sel, .bool tl, .int .i64 ((((zT sel tl f) x9 (nq)).2 : Nat) : Int)] 75)))]) hst5 hfr5 (by kernel_rfl) (by kernel_rfl) (by kernel_rfl) (.cons rfl (zD rfl) <| .cons rfl (zd (j := 3) rfl rfl isAgg33 sizeOf33 rfl) <| .consT rfl rfl (fun _ => rfl) rfl (Za rfl (.cons rfl <| .cons rfl <| .nil) call31 (κ := .ex (MP.cd ((zT sel tl f) x9 (nq)).1)) (fun σ w m hK hr hkn => by have hle_ := KC.le hK; have hA := KC.agree hK; have hM := hM.trans hle_; have h_ks := h_ks.mono hle_; have hsl_O := hsl_O.mono hle_; have hsl_B := hsl_B.mono hle_; have hsl_ga := hsl_ga.mono hle_; have hsl_gb := hsl_gb.mono hle_; have hcv9 := hcv9.mono hle_; have hv9 := hv9.mono hle_; have hkk9 := hkk9.mono hle_; have haa9 := haa9.mono hle_; have hrr9 := hrr9.mono hle_; have hT := ZO hT hK.st.ext hNTs; exact zAk ih hA hr hv9 hT hLx (by omega) (by omega) (by omega) hNT)) <| .nil) fun a6 w6 m6 hst6 hle6 hk6 => ?_
  have hfr6 := hk6.fr (.o 4 <| .o 5 <| .o 12 <| .o 0 <| .o 10 <| .o 11 <| .o 7 <| .nil)
  obtain ⟨yc, e12, hyc⟩ := hk6.ex 18 rfl
  replace hfr6 := hfr6.cons e12
  replace hst6 := hst6.fin (L' := [_, _, _, _]) (.cons e12 <| .nil)
  clear hst5 hfr5 hk6
  replace hst6 := hst6.more (r := .free) trivial List.nodup_nil (by simp [Res.blocks])
  refine zm (tch := [(0, 4, (fun v => .blk v _)), (1, 4, (fun v => .blk v _))]) hst6 hfr6 (by kernel_rfl) (by kernel_rfl) (by kernel_rfl) (.consT rfl rfl (fun _ => rfl) rfl (zQ zeroValue46 rfl) <| .consT rfl rfl (fun _ => rfl) rfl (zU 8 rfl rfl rfl fun y8 => zb rfl rfl rfl rfl rfl sizeOf46 rfl rfl rfl) <| .nil) fun a7 w7 m7 hst7 hle7 hk7 => ?_
  have hfr7 := hk7.fr (.o 4 <| .o 5 <| .o 12 <| .o 0 <| .o 10 <| .o 11 <| .o 7 <| .o 18 <| .nil)
  obtain ⟨g13, e13, _⟩ := hk7.ex 8 rfl
  replace hfr7 := hfr7.cons e13
  replace hst7 := hst7.fin (L' := [_, _, _, _, _]) (.cons e13 <| .cons e13 <| .nil)
  try simp only [List.take_succ_cons, List.take_zero, List.drop_succ_cons, List.drop_zero, List.cons_append, List.nil_append, List.append_nil, List.length_cons, List.length_nil, Nat.zero_add, Nat.reduceAdd] at hst7
  clear hst6 hfr6 hk7
  refine hK11 _ _ ?_
  refine zB fun _ hK14 => ?_
  refine zB fun _ hK15 => ?_
  have zq1 := hle6.trans hle7
  replace hv9 := hv9.mono zq1
  refine rp0 hst7 hfr7 (.cons rfl (zd (j := 3) rfl rfl isAgg33 sizeOf33 rfl) <| .cons rfl (zc rfl (.cons rfl <| .nil) call40 (fun w m hK => by have hle_ := KC.le hK; have hA := KC.agree hK; have hv9 := hv9.mono hle_; exact light_c (t := x9) hA hv9)) <| .cons rfl (Zn rfl) <| .nil) fun a8 w8 m8 hst8 hle8 hk8 => ?_
  have hfr8 := hk8.fr (.o 4 <| .o 5 <| .o 12 <| .o 0 <| .o 10 <| .o 11 <| .o 7 <| .o 8 <| .n 21 <| .nil)
  clear hst7 hfr7 hk8
  refine hK15 _ _ ?_
  refine zG hfr8 rfl rfl (fun hb21 => ?_) (fun hb21 => ?_)
  ·try simp only [nqs] at hb21
   have hlx : ZU x9 = false := by simpa using hb21
   have hka : (kidA (zT sel tl f) x9 nq) = zCE (Zl (((zT sel tl f) x9 nq).2 + 1)) := by unfold kidA; rw [hlx]; rfl
   have hkn : (zCs (zT sel tl f) x9 nq) = ((zT sel tl f) x9 nq).2 + 1 := by unfold zCs; rw [hlx]; rfl
   have hkb : kidB sel (zT sel tl f) x9 nq = [⟨Zz sel x9, Zl (((zT sel tl f) x9 nq).2 + 1), ((zT sel tl f) x9 nq).1⟩] := by unfold kidB; rw [hlx]; rfl
   rw [hka, hkn] at hlen_ga; rw [hkb, hkn] at hlen_gb; rw [hkn] at hj1
   refine zB fun _ hK16 => ?_
   refine ra0 (tch := [(7, 0, (fun _ => .blk _ _))]) hst8 hfr8 (.cons rfl (zD rfl) <| .cons rfl (zAg rfl) <| .cons rfl (zA (off := 2) rfl underlying75 rfl rfl sizeOf3 rfl) <| .cons rfl (zM (j := 0) rfl rfl isAgg3 rfl) <| .cons rfl (zk rfl rfl ⟨by omega, by omega⟩) <| .cons rfl (zAg rfl) <| .cons rfl (zA (off := 2) rfl underlying75 rfl rfl sizeOf3 rfl) <| .consT rfl rfl (fun _ => rfl) rfl (ZE rfl rfl rfl sizeOf3 rfl rfl rfl) <| .nil) fun a9 w9 m9 hst9 hle9 hk9 => ?_
   have hfr9 := hk9.fr (.o 4 <| .o 5 <| .o 12 <| .o 0 <| .o 10 <| .o 11 <| .o 7 <| .o 8 <| .nil)
   replace hst9 := hst9.fin (L' := [_, _, _, _, _]) (.cons rfl <| .nil)
   try simp only [List.take_succ_cons, List.take_zero, List.drop_succ_cons, List.drop_zero, List.cons_append, List.nil_append, List.append_nil, List.length_cons, List.length_nil, Nat.zero_add, Nat.reduceAdd] at hst9
   clear hst8 hfr8 hk9
   rw [show ((((zT sel tl f) x9 nq).2 : Nat) : Int) + 1 = ((((zT sel tl f) x9 nq).2 + 1 : Nat) : Int) by omega] at hst9
   refine hK16 _ _ ?_
   refine zB fun _ hK17 => ?_
   have hin9 : Z8 ((((zT sel tl f) x9 nq).2 + 1 : Nat) : Int) := ⟨by omega, by omega⟩
   have hit9 := Go.Lib.itoa_length_le _ hin9.1 hin9.2
   have zq2 := hle8.trans hle9
   have zq3 := zq1.trans zq2
   replace h_ks := h_ks.mono zq3
   replace hsl_O := hsl_O.mono zq3
   replace hsl_B := hsl_B.mono zq3
   replace hsl_ga := hsl_ga.mono zq3
   replace hsl_gb := hsl_gb.mono zq3
   replace hcv9 := hcv9.mono zq3
   replace hkk9 := hkk9.mono zq3
   replace haa9 := haa9.mono zq3
   replace hrr9 := hrr9.mono zq3
   have zq4 := hle7.trans zq2
   replace hyc := hyc.mono zq4
   replace hv9 := hv9.mono zq2
   refine rp0 hst9 hfr9 (.cons rfl (zD rfl) <| .cons rfl (zAg rfl) <| .cons rfl (zA (off := 2) rfl underlying75 rfl rfl sizeOf3 rfl) <| .cons rfl (zM (j := 0) rfl rfl isAgg3 rfl) <| .cons rfl (zc rfl (.cons rfl <| .nil) call56 (fun w m hK => by have hle_ := KC.le hK; have hA := KC.agree hK; have hT := ZO hT hK.st.ext hNTs; have h_ks := h_ks.mono hle_; have hsl_O := hsl_O.mono hle_; have hsl_B := hsl_B.mono hle_; have hsl_ga := hsl_ga.mono hle_; have hsl_gb := hsl_gb.mono hle_; have hcv9 := hcv9.mono hle_; have hv9 := hv9.mono hle_; have hkk9 := hkk9.mono hle_; have haa9 := haa9.mono hle_; have hrr9 := hrr9.mono hle_; have hyc := hyc.mono hle_; exact itoa_c hA hT (by assumption))) <| .cons rfl (ob_sadd rfl rfl (by first | omega | (simp only [List.length_append, List.length_cons, List.length_nil, List.length_map]; omega))) <| .cons rfl (zC rfl) <| .nil) fun a10 w10 m10 hst10 hle10 hk10 => ?_
   have hfr10 := hk10.fr (.o 4 <| .o 5 <| .o 12 <| .o 0 <| .o 10 <| .o 11 <| .o 7 <| .o 8 <| .n 9 <| .nil)
   clear hst9 hfr9 hk10
   rw [nameQ_itoa] at hfr10
   refine hK17 _ _ ?_
   refine zB fun _ hK18 => ?_
   have zq5 := zq3.trans hle10
   replace hM := hM.trans zq5
   replace h_ks := h_ks.mono hle10
   replace hsl_O := hsl_O.mono hle10
   replace hsl_B := hsl_B.mono hle10
   replace hsl_ga := hsl_ga.mono hle10
   replace hsl_gb := hsl_gb.mono hle10
   replace hcv9 := hcv9.mono hle10
   replace hv9 := hv9.mono hle10
   replace hkk9 := hkk9.mono hle10
   replace haa9 := haa9.mono hle10
   replace hrr9 := hrr9.mono hle10
   replace hyc := hyc.mono hle10
   refine zz (tch := [(3, 0, (fun _ => .blk (.pointer (some ⟨r, 0, none⟩)) (.cells #[.bool sel, .bool tl, .int .i64 ((((zT sel tl f) x9 nq).2 + 1 : Nat) : Int)] 75))), (8, 2, (fun v => .rowx (nz v) _ _ _ _))]) (fun _ => mixed) hst10 hfr10 (by kernel_rfl) (by kernel_rfl) (by kernel_rfl) (.cons rfl (zD rfl) <| .cons rfl (zD rfl) <| .cons rfl (zd (j := 3) rfl rfl isAgg33 sizeOf33 rfl) <| .consT rfl rfl (fun _ => rfl) rfl (Za rfl (.cons rfl <| .cons rfl <| .nil) call38 (κ := .eq (.int .i64 (Zz sel x9))) (fun σ w m hK hr hkn => by have hle_ := KC.le hK; have hA := KC.agree hK; have hM := hM.trans hle_; have h_ks := h_ks.mono hle_; have hsl_O := hsl_O.mono hle_; have hsl_B := hsl_B.mono hle_; have hsl_ga := hsl_ga.mono hle_; have hsl_gb := hsl_gb.mono hle_; have hcv9 := hcv9.mono hle_; have hv9 := hv9.mono hle_; have hkk9 := hkk9.mono hle_; have haa9 := haa9.mono hle_; have hrr9 := hrr9.mono hle_; have hyc := hyc.mono hle_; have hT := ZO hT hK.st.ext hNTs; exact binds_t hA hr hv9 (by omega))) <| .cons rfl (zD rfl) <| .cons rfl (zd (j := 4) rfl rfl isAgg46 sizeOf46 rfl) <| .cons rfl (zq (.cons rfl <| .cons rfl <| .cons rfl <| .nil) underlying107 zeroValue107 (.cons sizeOf3 <| .cons sizeOf9 <| .cons sizeOf46 <| .nil) rfl) <| .cons rfl (z8 rfl underlying91 sizeOf107 zeroValue107 rfl rfl rfl rfl) <| .consT rfl rfl (fun _ => rfl) rfl (zU 42 rfl rfl rfl fun y42 => ZZ (size := 8) (bytes := 120) (l := gb) (l' := [(⟨Zz sel x9, Zl (((zT sel tl f) x9 nq).2 + 1), ((zT sel tl f) x9 nq).1⟩ : Bd)]) rfl rfl (fun _ => by first | exact .inl rfl | exact .inr (.inl rfl)) underlying91 type107 rfl rfl rfl rfl (fun w m hK => Sl.one (R := fun m vs t => BdR m t vs) hK.2 rfl ⟨_, rfl, hyc.mono (KC.le hK)⟩) rfl (by decide) (by simp only [maxLen]; omega) (by omega)) <| .consA 43 rfl rfl <| .nil) fun a11 w11 m11 hst11 hle11 hk11 => ?_
   have hfr11 := hk11.fr (.o 4 <| .o 12 <| .o 0 <| .o 10 <| .o 11 <| .o 8 <| .o 9 <| .nil)
   obtain ⟨⟨B_19o, B_19p⟩, e20, hsl_B_19⟩ := hk11.ex 43 rfl
   replace hfr11 := hfr11.cons (hk11.same 5 rfl e20)
   replace hst11 := hst11.fin (L' := [_, _, _, _, _]) (.cons rfl <| .cons e20 <| .nil)
   clear hst10 hfr10 hk11
   replace hsl_B_19 : Bds m11 B_19o (gb ++ [(⟨Zz sel x9, Zl (((zT sel tl f) x9 nq).2 + 1), ((zT sel tl f) x9 nq).1⟩ : Bd)]).length B_19p (gb ++ [(⟨Zz sel x9, Zl (((zT sel tl f) x9 nq).2 + 1), ((zT sel tl f) x9 nq).1⟩ : Bd)]) := hsl_B_19
   refine hK18 _ _ ?_
   refine ra0 (tch := [(2, 4, (fun _ => .blk _ _))]) hst11 hfr11 (.cons rfl (zD rfl) <| .cons rfl (zq (cs := cdV (zCE (Zl (((zT sel tl f) x9 nq).2 + 1))) ⟨none, 0, none, 0⟩) (.cons rfl <| .cons rfl <| .nil) underlying46 zeroValue46 (.cons sizeOf3 <| .cons sizeOf9 <| .cons sizeOf9 <| .cons sizeOf3 <| .cons sizeOf43 <| .cons sizeOf44 <| .nil) (rfl)) <| .consT rfl rfl (fun _ => rfl) rfl (za rfl rfl rfl sizeOf46 rfl rfl rfl) <| .nil) fun a12 w12 m12 hst12 hle12 hk12 => ?_
   have hfr12 := hk12.fr (.o 4 <| .o 12 <| .o 0 <| .o 10 <| .o 11 <| .o 8 <| .o 5 <| .nil)
   replace hst12 := hst12.fin (L' := [_, _, _, _, _]) (.cons rfl <| .nil)
   try simp only [List.take_succ_cons, List.take_zero, List.drop_succ_cons, List.drop_zero, List.cons_append, List.nil_append, List.append_nil, List.length_cons, List.length_nil, Nat.zero_add, Nat.reduceAdd] at hst12
   clear hst11 hfr11 hk12
   have hvr : CdR m12 (zCE (Zl (((zT sel tl f) x9 nq).2 + 1))) (cdV (zCE (Zl (((zT sel tl f) x9 nq).2 + 1))) ⟨none, 0, none, 0⟩) := CdR.build trivial trivial Sl.empty Sl.empty
   refine hK14 _ _ ?_
   refine zu 2 (by kernel_rfl) ?_
   refine zm (tch := []) hst12 hfr12 (by kernel_rfl) (by kernel_rfl) (by kernel_rfl) (.cons rfl (zD rfl) <| .cons rfl (zd (j := 4) rfl rfl isAgg46 sizeOf46 rfl) <| .nil) fun a13 w13 m13 hst13 hle13 hk13 => ?_
   have hfr13 := hk13.fr (.o 4 <| .o 12 <| .o 0 <| .o 10 <| .o 11 <| .o 8 <| .o 5 <| .n 46 <| .n 47 <| .nil)
   clear hst12 hfr12 hk13
   replace hvr := hvr.mono hle13
   refine zm (tch := [(1, 1, (fun v => .rowx (nz v) _ _ _ _))]) hst13 hfr13 (by kernel_rfl) (by kernel_rfl) (by kernel_rfl) (.cons rfl (z8 rfl underlying43 sizeOf46 zeroValue46 rfl rfl rfl rfl) <| .consT rfl rfl (fun _ => rfl) rfl (zU 48 rfl rfl rfl fun y48 => ZZ (size := 6) (bytes := 96) (l := ga) (l' := [(zCE (Zl (((zT sel tl f) x9 nq).2 + 1)))]) rfl rfl (fun _ => by first | exact .inl rfl | exact .inr (.inl rfl)) underlying43 type46 rfl rfl rfl rfl (fun w m hK => Sl.one (R := fun m vs t => CdR m t vs) hK.2 rfl (hvr.mono (KC.le hK))) rfl (by decide) (by simp only [maxLen]; omega) (by omega)) <| .consA 49 rfl rfl <| .nil) fun a14 w14 m14 hst14 hle14 hk14 => ?_
   have hfr14 := hk14.fr (.o 12 <| .o 0 <| .o 10 <| .o 11 <| .o 8 <| .o 5 <| .o 46 <| .o 47 <| .nil)
   obtain ⟨⟨O_21o, O_21p⟩, e22, hsl_O_21⟩ := hk14.ex 49 rfl
   replace hfr14 := hfr14.cons e22
   replace hfr14 := hfr14.cons (hk14.same 4 rfl e22)
   replace hst14 := hst14.fin (L' := [_, _, _, _, _]) (.cons e22 <| .nil)
   clear hst13 hfr13 hk14
   replace hsl_O_21 : Cds m14 O_21o (ga ++ [(zCE (Zl (((zT sel tl f) x9 nq).2 + 1)))]).length O_21p (ga ++ [(zCE (Zl (((zT sel tl f) x9 nq).2 + 1)))]) := hsl_O_21
   refine hK7 _ _ ?_
   refine rp0 hst14 hfr14 (.cons rfl (zk rfl rfl ⟨by omega, by omega⟩) <| .cons rfl (zD rfl) <| .nil) fun a15 w15 m15 hst15 hle15 hk15 => ?_
   have hfr15 := hk15.fr (.o 0 <| .o 10 <| .o 11 <| .o 5 <| .o 4 <| .n 12 <| .nil)
   clear hst14 hfr14 hk15
   have hst15 := hst15.take 3
   have zq6 := hle14.trans hle15
   have zq7 := hle13.trans zq6
   have zq8 := hle12.trans zq7
   replace hsl_B_19 := hsl_B_19.mono zq8
   replace hsl_O_21 := hsl_O_21.mono hle15
   have zq9 := hle11.trans zq8
   have zq10 := zq5.trans zq9
   have zq11 := hle5.trans zq10
   have hlh15 := hlh4.trans zq11
   exact ⟨(y + 1, (((zT sel tl f) x9 nq).2 + 1), O_21o, O_21p, (ga ++ [(zCE (Zl (((zT sel tl f) x9 nq).2 + 1)))]), B_19o, B_19p, (gb ++ [(⟨Zz sel x9, Zl (((zT sel tl f) x9 nq).2 + 1), ((zT sel tl f) x9 nq).1⟩ : Bd)])), m15, by show ks.length - (y + 1) < ks.length - y; omega, ⟨hst15, hlh15, hfr15.sub (.c <| .c <| .c <| .c <| .c <| .c <| .nil), ⟨by show y + 1 ≤ ks.length; omega, hsl_O_21, ⟨by rw [hlen_ga.1]; simp, by show (ga ++ [_]).length ≤ y + 1; simp; exact hlen_ga.2⟩, hsl_B_19, ⟨by simp [hlen_gb.1], by show (gb ++ [_]).length ≤ y + 1; simp; exact hlen_gb.2⟩, hj1, by show (((zT sel tl f) x9 nq).2 + 1) + zR (ks.drop (y + 1)) ≤ n + zR ks; omega⟩⟩⟩
  ·try simp only [nqs] at hb21
   have hlx : ZU x9 = true := by simpa using hb21
   have hka : (kidA (zT sel tl f) x9 nq) = ((zT sel tl f) x9 nq).1 := by unfold kidA; rw [hlx]; rfl
   have hkn : (zCs (zT sel tl f) x9 nq) = ((zT sel tl f) x9 nq).2 := by unfold zCs; rw [hlx]; rfl
   have hkb : kidB sel (zT sel tl f) x9 nq = [] := by unfold kidB; rw [hlx]; rfl
   rw [hka, hkn] at hlen_ga; rw [hkb, hkn, List.nil_append] at hlen_gb; rw [hkn] at hj1
   refine zJ ?_
   refine hK14 _ _ ?_
   refine zu 2 (by kernel_rfl) ?_
   refine zm (tch := []) hst8 hfr8 (by kernel_rfl) (by kernel_rfl) (by kernel_rfl) (.cons rfl (zD rfl) <| .cons rfl (zd (j := 4) rfl rfl isAgg46 sizeOf46 rfl) <| .nil) fun a9 w9 m9 hst9 hle9 hk9 => ?_
   have hfr9 := hk9.fr (.o 4 <| .o 5 <| .o 12 <| .o 0 <| .o 10 <| .o 11 <| .o 7 <| .o 8 <| .n 46 <| .n 47 <| .nil)
   clear hst8 hfr8 hk9
   have zq12 := hle8.trans hle9
   have zq13 := hle7.trans zq12
   replace hyc := hyc.mono zq13
   refine zm (tch := [(1, 1, (fun v => .rowx (nz v) _ _ _ _))]) hst9 hfr9 (by kernel_rfl) (by kernel_rfl) (by kernel_rfl) (.cons rfl (z8 rfl underlying43 sizeOf46 zeroValue46 rfl rfl rfl rfl) <| .consT rfl rfl (fun _ => rfl) rfl (zU 48 rfl rfl rfl fun y48 => ZZ (size := 6) (bytes := 96) (l := ga) (l' := [((zT sel tl f) x9 nq).1]) rfl rfl (fun _ => by first | exact .inl rfl | exact .inr (.inl rfl)) underlying43 type46 rfl rfl rfl rfl (fun w m hK => Sl.one (R := fun m vs t => CdR m t vs) hK.2 rfl (hyc.mono (KC.le hK))) rfl (by decide) (by simp only [maxLen]; omega) (by omega)) <| .consA 49 rfl rfl <| .nil) fun a10 w10 m10 hst10 hle10 hk10 => ?_
   have hfr10 := hk10.fr (.o 5 <| .o 12 <| .o 0 <| .o 10 <| .o 11 <| .o 7 <| .o 8 <| .o 46 <| .o 47 <| .nil)
   obtain ⟨⟨O_23o, O_23p⟩, e24, hsl_O_23⟩ := hk10.ex 49 rfl
   replace hfr10 := hfr10.cons e24
   replace hfr10 := hfr10.cons (hk10.same 4 rfl e24)
   replace hst10 := hst10.fin (L' := [_, _, _, _, _]) (.cons e24 <| .nil)
   clear hst9 hfr9 hk10
   replace hsl_O_23 : Cds m10 O_23o (ga ++ [((zT sel tl f) x9 nq).1]).length O_23p (ga ++ [((zT sel tl f) x9 nq).1]) := hsl_O_23
   refine hK7 _ _ ?_
   refine rp0 hst10 hfr10 (.cons rfl (zk rfl rfl ⟨by omega, by omega⟩) <| .cons rfl (zD rfl) <| .nil) fun a11 w11 m11 hst11 hle11 hk11 => ?_
   have hfr11 := hk11.fr (.o 5 <| .o 0 <| .o 10 <| .o 11 <| .o 4 <| .n 12 <| .nil)
   clear hst10 hfr10 hk11
   have hst11 := hst11.take 3
   have zq14 := hle10.trans hle11
   have zq15 := zq12.trans zq14
   have zq16 := zq1.trans zq15
   replace hsl_gb := hsl_gb.mono zq16
   replace hsl_O_23 := hsl_O_23.mono hle11
   have zq17 := hle5.trans zq16
   have hlh11 := hlh4.trans zq17
   exact ⟨(y + 1, ((zT sel tl f) x9 nq).2, O_23o, O_23p, (ga ++ [((zT sel tl f) x9 nq).1]), gbo, gbp, gb), m11, by show ks.length - (y + 1) < ks.length - y; omega, ⟨hst11, hlh11, hfr11.sub (.c <| .c <| .c <| .c <| .c <| .c <| .nil), ⟨by show y + 1 ≤ ks.length; omega, hsl_O_23, ⟨by rw [hlen_ga.1]; simp, by show (ga ++ [_]).length ≤ y + 1; simp; exact hlen_ga.2⟩, hsl_gb, ⟨by simp [hlen_gb.1], Nat.le_succ_of_le hlen_gb.2⟩, hj1, by show ((zT sel tl f) x9 nq).2 + zR (ks.drop (y + 1)) ≤ n + zR ks; omega⟩⟩⟩
 ·try simp only [nqs] at hb13
  have hge : y = ks.length := by omega
  rw [List.drop_of_length_le (by omega)] at hlen_ga hlen_gb hj1
  rw [Zu, List.append_nil] at hlen_ga
  rw [zAe, List.append_nil] at hlen_gb
  rw [zAS] at hj1
  refine zg ?_
  refine hK2 _ _ ?_
  refine zB fun _ hK25 => ?_
  refine rp0 hst4 hfr4 (.cons rfl (zD rfl) <| .cons rfl (zD rfl) <| .cons rfl (zC rfl) <| .cons rfl (zC rfl) <| .nil) fun a5 w5 m5 hst5 hle5 hk5 => ?_
  have hfr5 := hk5.fr (.o 12 <| .n 4 <| .n 5 <| .nil)
  clear hst4 hfr4 hk5
  refine hK25 _ _ ?_
  refine zK ?_
  repeat (with_reducible first | refine zI ?_ | refine zF ?_)
  replace hsl_ga := hsl_ga.mono hle5
  replace hsl_gb := hsl_gb.mono hle5
  exact zL hst5 hfr5 rfl (.tmp rfl <| .tmp rfl <| .nil) (⟨_, _, _, _, by rw [hlen_ga.1, hlen_gb.1]; rfl, by rw [hlen_ga.1]; exact hsl_ga, by rw [hlen_gb.1]; exact hsl_gb, by rw [hlen_ga.1, hj1]; exact (hst5.take 2).loc⟩)
end Go.Proofs.YtmdhhjmomilhjaaDoor
namespace Go.Proofs.YtmdhhjmomilhjaaDoor
open Go.Proofs.Tryd
set_option linter.all false
set_option maxRecDepth 4000
open Go.RowKit
def promptC (t : Tm) (c : Cd) (az : List Ca) : Cd := ⟨15, t.name, [], 0, [c], az⟩
theorem strs_cut1 {m : Mem} {o : Option Addr} {c : Nat} {l : List Str} (h : Strs m o l.length c l) (h1 : l.length = 2) : Strs m (if 1 = 0 then o else o.map (fun (x : Addr) => x.add (0 * 1))) (1 - 0) (1 - 0) (l.take 1) := by
 have h2 := h.cut (l := 0) (k := 1) (by omega) (by omega)
 have hc := h.cap
 rw [if_neg (show ¬ c = 0 by omega), List.drop_zero] at h2
 rw [if_neg (by omega)]
 exact ⟨h2.len, Nat.le_refl _, h2.big, h2.at_⟩
theorem tm_eq {m : Mem} {t u : Tm} {vs : List Value} (h : TmR m t vs) (e : u = t) : TmR m u vs := e ▸ h
theorem caR_of {m : Mem} {s : Str} {l : List Str} {tl : Bool} {b : Cd} {o : Option Addr} {k c : Nat} {vs : List Value} (hs : Strs m o k c l) (hb : CdR m b vs) : CaR m ⟨s, l, tl, b⟩ (S s :: .slice o k c :: .bool tl :: vs) := by
 obtain rfl := hs.len
 exact ⟨o, c, vs, rfl, hs, hb⟩
theorem last_two {a : Ar} (h : (zBf a).2 = true) : a.vars.length = 2 := by
 by_cases hc : zEG a
 ·exact hc.1
 ·rw [zBp hc] at h; cases h
theorem atom_t {f : Nat} (ih : zBV f) {w : World} {m : Mem} {sel tl : Bool} {r n : Nat} {t : Tm} {vs : List Value} (hA : Agree w m) (hr : (Res.blk (.pointer (some ⟨r, 0, none⟩)) (.cells #[.bool sel, .bool tl, .int .i64 ((n : Nat) : Int)] 75)).holds w m) (h : TmR m t vs) (hT : Tab w) (hl : ZU t = true) (hL : LwT t) (hf : zP t ≤ f + 1) (hbk : zt t ≤ 1000000000) (hnb : n + zP t ≤ 1000000000) (hNT : Zx r) :
  Calls Tryd.prog 41 #[.pointer (some ⟨r, 0, none⟩), .agg vs.toArray] w fun e w' => ∃ v m', e = .returned v ∧ Touch (Res.blk (.pointer (some ⟨r, 0, none⟩)) (.cells #[.bool sel, .bool tl, .int .i64 ((n : Nat) : Int)] 75)) (Res.blk (.pointer (some ⟨r, 0, none⟩)) (.cells #[.bool sel, .bool tl, .int .i64 (((ZS sel tl (zT sel tl f) t n).2 : Nat) : Int)] 75)) w m w' m' ∧ (Kn.ex (MP.cd (ZS sel tl (zT sel tl f) t n).1)).holds m' v :=
 Calls.mono (atom_g hA hr h hT ih hl hL hf hbk hnb hNT) fun e w' ⟨v, m', e1, hE, hl, hv⟩ => ⟨v, m', e1, zCZ hE hl, hv⟩
theorem take_r {f : Nat} (ih : zBV f) {w : World} {m : Mem} {sel tl : Bool} {r n : Nat} {ks : List Tm} {o : Option Addr} {k c : Nat} (hA : Agree w m) (hr : (Res.blk (.pointer (some ⟨r, 0, none⟩)) (.cells #[.bool sel, .bool tl, .int .i64 ((n : Nat) : Int)] 75)).holds w m) (h : Tms m o k c ks) (hT : Tab w) (hL : ∀ u ∈ ks, LwT u) (hf : ∀ u ∈ ks, zP u ≤ f) (hbk : ∀ u ∈ ks, zt u ≤ 1000000000) (hnb : n + zR ks ≤ 1000000000) (hNT : Zx r) :
  FnR Tryd.prog 43 #[.pointer (some ⟨r, 0, none⟩), .slice o k c] [.blk (.pointer (some ⟨r, 0, none⟩)) (.cells #[.bool sel, .bool tl, .int .i64 ((n : Nat) : Int)] 75)] w m (fun rs' m' v => ∃ (o1 : Option Addr) (c1 : Nat) (o2 : Option Addr) (c2 : Nat), rs' = [.blk (.pointer (some ⟨r, 0, none⟩)) (.cells #[.bool sel, .bool tl, .int .i64 ((zAS (zT sel tl f) ks n : Nat) : Int)] 75), .rowx (nz (.slice o1 (Zu (zT sel tl f) ks n).length c1)) (Zu (zT sel tl f) ks n).length 6 46 (MP.reads (fun m vs t => CdR m t vs) 6 (Zu (zT sel tl f) ks n))] ∧ v = .tuple #[.slice o1 (Zu (zT sel tl f) ks n).length c1, .slice o2 (zAe sel (zT sel tl f) ks n).length c2] ∧ Cds m' o1 (Zu (zT sel tl f) ks n).length c1 (Zu (zT sel tl f) ks n) ∧ Bds m' o2 (zAe sel (zT sel tl f) ks n).length c2 (zAe sel (zT sel tl f) ks n)) := by
 obtain rfl := h.len
 exact FnG.mono (take_g hA hr h hT ih hL hf hbk hnb hNT) fun w' m' v hE ⟨o1, c1, o2, c2, e, h1, h2, h3⟩ => ⟨_, h3, o1, c1, o2, c2, rfl, e, h1, h2⟩
set_option maxHeartbeats 3200000 in
theorem prompt_g {w : World} {m : Mem} {sel tl : Bool} {r n : Nat} {t : Tm} {vs_t : List Value} {f : Nat} (hA : Agree w m) (hr : (Res.blk (.pointer (some ⟨r, 0, none⟩)) (.cells #[.bool sel, .bool tl, .int .i64 ((n : Nat) : Int)] 75)).holds w m) (h_t : TmR m t vs_t) (hT : Tab w) (ih : zBV f) (hk14 : t.kind = 14) (hL : LwT t) (hf : zP t ≤ f + 1) (hbk : zt t ≤ 1000000000) (hnb : n + zP t ≤ 1000000000) (hNT : Zx r) : FnG Tryd.prog 39 #[.pointer (some ⟨r, 0, none⟩), .agg vs_t.toArray] [r] w m (fun w' m' v => Loc [r] w.heap.size [.blk (.pointer (some ⟨r, 0, none⟩)) (.cells #[.bool sel, .bool tl, .int .i64 (((ZS sel tl (zT sel tl f) t n).2 : Nat) : Int)] 75)] w' m' ∧ (MP.cd (ZS sel tl (zT sel tl f) t n).1).p m' v) := by
 obtain ⟨⟨oK_t, cK_t, oA_t, cA_t, oR_t, cR_t, t0_t, t1_t, t2_t, t3_t, t4_t, t5_t, u0_t, u1_t, u2_t, u3_t, u4_t, u5_t⟩, rfl, hon_t, hkk_t, haa_t, hrr_t⟩ := h_t.open_
 dsimp only at hkk_t haa_t hrr_t
 have hbg_t := hkk_t.big; have hcp_t := hkk_t.cap; have hbh_t := haa_t.big; have hcq_t := haa_t.cap
 refine zX (vs := [_, _]) func39 rfl rfl rfl fun a0 hfr0 => ?_
 have hst0 := zW hA (zBS hr (by simp [Res.blocks, zj]))
 have hM : MLe m m := MLe.refl m
 have hNTs : ∀ q ∈ [r], Zx q := fun q hq => by rw [List.mem_singleton] at hq; rw [hq]; exact hNT
 have hce := zr t
 have hbe := Zi t
 have hln := hL.here.lens
 have hal9 := zAH t.arms
 refine zB fun _ hK1 => ?_
 replace hst0 := hst0.more (r := .free) trivial List.nodup_nil (by simp [Res.blocks])
 refine ra0 (tch := [(1, 1, (fun v => .blk v _))]) hst0 hfr0 (.cons rfl (zv rfl rfl) <| .consT rfl rfl (fun _ => rfl) rfl (zQ zeroValue46 rfl) <| .nil) fun a1 w1 m1 hst1 hle1 hk1 => ?_
 have hfr1 := hk1.fr (.o 0 <| .nil)
 obtain ⟨g2, e2, hc3⟩ := hk1.ex 3 rfl
 replace hfr1 := hfr1.cons e2
 obtain ⟨g3, e3, _⟩ := hk1.ex 4 rfl
 replace hfr1 := hfr1.cons e3
 replace hst1 := hst1.fin (L' := [_, _]) (.cons e3 <| .nil)
 replace h_t := h_t.mono hle1
 replace hkk_t := hkk_t.mono hle1
 replace haa_t := haa_t.mono hle1
 replace hrr_t := hrr_t.mono hle1
 replace hM := hM.trans hle1
 clear hst0 hfr0 hk1
 refine hK1 _ _ ?_
 refine zB fun _ hK4 => ?_
 obtain ⟨p5, vs5, x5, ho5, hd5, hm_x5, ht5, hcv5, hl5, hv5⟩ := hkk_t.nth (k := 0) (by omega)
 cases ho5
 obtain ⟨⟨oK5, cK5, oA5, cA5, oR5, cR5, t05, t15, t25, t35, t45, t55, u05, u15, u25, u35, u45, u55⟩, rfl, hon5, hkk5, haa5, hrr5⟩ := hv5.open_
 dsimp only at hkk5 haa5 hrr5
 have hbg5 := hkk5.big; have hcp5 := hkk5.cap; have hbh5 := haa5.big; have hcq5 := haa5.cap
 have hk0 : kid t 0 = x5 := Zr hd5
 have hca := ZH hm_x5; have hba := Zc hm_x5
 have hga := zBc sel tl f x5 n (hL.kid hm_x5) (by omega)
 replace hst1 := hst1.more (r := .free) trivial List.nodup_nil (by simp [Res.blocks])
 refine zz (tch := [(7, 0, (fun _ => .blk (.pointer (some ⟨r, 0, none⟩)) (.cells #[.bool sel, .bool tl, .int .i64 ((((zT sel tl f) x5 (n)).2 : Nat) : Int)] 75))), (10, 2, (fun v => .blk v _)), (11, 2, (fun v => .blkx v _ _))]) (fun _ => mixed) hst1 hfr1 (by kernel_rfl) (by kernel_rfl) (by kernel_rfl) (.cons rfl (zA (off := 2) rfl underlying33 rfl rfl sizeOf9 rfl) <| .cons rfl (zE rfl hc3 isAgg9 rfl) <| .cons rfl (zD rfl) <| .cons rfl (zA (off := 5) rfl underlying33 rfl rfl sizeOf24 rfl) <| .cons rfl (zE rfl hc3 isAgg24 rfl) <| .cons rfl (zH (k := 0) rfl rfl underlying24 sizeOf33 rfl (by omega)) <| .cons rfl (zO rfl hcv5 isAgg33 sizeOf33 rfl rfl) <| .consT rfl rfl (fun _ => rfl) rfl (Za rfl (.cons rfl <| .cons rfl <| .nil) call31 (κ := .ex (MP.cd ((zT sel tl f) x5 (n)).1)) (fun σ w m hK hr hkn => by have hle_ := KC.le hK; have hA := KC.agree hK; have hM := hM.trans hle_; have h_t := h_t.mono hle_; have hkk_t := hkk_t.mono hle_; have haa_t := haa_t.mono hle_; have hrr_t := hrr_t.mono hle_; have hc3 := hc3.mono hle_; have hcv5 := hcv5.mono hle_; have hv5 := hv5.mono hle_; have hkk5 := hkk5.mono hle_; have haa5 := haa5.mono hle_; have hrr5 := hrr5.mono hle_; have hT := ZO hT hK.st.ext hNTs; exact zAk ih hA hr hv5 hT (hL.kid hm_x5) (by omega) (by omega) (by omega) hNT)) <| .cons rfl (zBx 19 rfl rfl rfl fun y19 => z8 rfl underlying43 sizeOf46 zeroValue46 rfl rfl rfl rfl) <| .cons rfl (zh 20 rfl rfl rfl fun y20 => zq (.cons rfl <| .cons rfl <| .cons rfl <| .nil) underlying46 zeroValue46 (.cons sizeOf3 <| .cons sizeOf9 <| .cons sizeOf9 <| .cons sizeOf3 <| .cons sizeOf43 <| .cons sizeOf44 <| .nil) rfl) <| .consT rfl rfl (fun _ => rfl) rfl (zQ zeroValue46 rfl) <| .consT rfl rfl (fun _ => rfl) rfl (zU 5 rfl rfl rfl fun y5 => ZJ 21 rfl rfl rfl fun y21 => zb rfl rfl rfl rfl rfl sizeOf46 rfl rfl rfl) <| .nil) fun a2 w2 m2 hst2 hle2 hk2 => ?_
 have hfr2 := hk2.fr (.o 0 <| .o 3 <| .o 4 <| .nil)
 obtain ⟨y6, e6, hy6⟩ := hk2.ex 19 rfl
 obtain ⟨g5, e7, _⟩ := hk2.ex 5 rfl
 replace hfr2 := hfr2.cons e7
 replace hst2 := hst2.fin (L' := [_, _, _]) (.cons e6 <| .cons e7 <| .cons e7 <| .nil)
 try simp only [List.take_succ_cons, List.take_zero, List.drop_succ_cons, List.drop_zero, List.cons_append, List.nil_append, List.append_nil, List.length_cons, List.length_nil, Nat.zero_add, Nat.reduceAdd] at hst2
 obtain ⟨⟨ya9, ga9⟩, ⟨hya9, hga9⟩, hst2⟩ := hst2.unx (k := 2) rfl (fun _ => rfl)
 replace h_t := h_t.mono hle2
 replace hkk_t := hkk_t.mono hle2
 replace haa_t := haa_t.mono hle2
 replace hrr_t := hrr_t.mono hle2
 replace hc3 := hc3.mono hle2
 replace hcv5 := hcv5.mono hle2
 replace hv5 := hv5.mono hle2
 replace hkk5 := hkk5.mono hle2
 replace haa5 := haa5.mono hle2
 replace hrr5 := hrr5.mono hle2
 replace hM := hM.trans hle2
 clear hst1 hfr1 hk2
 have hst2 := hst2.more (r := .rowx (.slice none 0 0) 0 9 78 (MP.reads (fun m vs t => CaR m t vs) 9 [])) zAP List.nodup_nil (by simp [Res.blocks, zy])
 have hsl_ar : Cas m2 none ([] : List Ca).length 0 ([] : List Ca) := Sl.empty
 refine hK4 _ _ ?_
 refine zB fun _ hK9 => ?_
 refine zB fun _ hK10 => ?_
 refine rp0 hst2 hfr2 (.cons rfl (zA (off := 6) rfl underlying33 rfl rfl sizeOf25 rfl) <| .cons rfl (zE rfl hc3 isAgg25 rfl) <| .cons rfl (zY rfl underlying25) <| .cons rfl (zD rfl) <| .nil) fun a3 w3 m3 hst3 hle3 hk3 => ?_
 have hfr3 := hk3.fr (.o 0 <| .o 4 <| .o 5 <| .n 23 <| .n 24 <| .n 25 <| .nil)
 replace h_t := h_t.mono hle3
 replace hkk_t := hkk_t.mono hle3
 replace haa_t := haa_t.mono hle3
 replace hrr_t := hrr_t.mono hle3
 replace hc3 := hc3.mono hle3
 replace hcv5 := hcv5.mono hle3
 replace hv5 := hv5.mono hle3
 replace hkk5 := hkk5.mono hle3
 replace haa5 := haa5.mono hle3
 replace hrr5 := hrr5.mono hle3
 replace hya9 := hya9.mono hle3
 replace hga9 := hga9.mono hle3
 replace hsl_ar := hsl_ar.mono hle3
 replace hM := hM.trans hle3
 clear hst2 hfr2 hk3
 refine hK10 _ _ ?_
 refine zN ?_
 refine ze (T := [(0, _), (4, _), (5, _), (23, _), (24, _)]) (fun (y : Nat × Nat × Option Addr × Nat × List Ca) => ([(25, .int .i64 (y.1 : Int))] : List (Nat × Value))) (fun y => [.blk (.pointer (some ⟨r, 0, none⟩)) (.cells #[.bool sel, .bool tl, .int .i64 ((y.2.1 : Nat) : Int)] 75), _, .blk (.pointer (some ⟨g5, 0, none⟩)) (.cells (cdV (promptC t ((zT sel tl f) x5 n).1 y.2.2.2.2) ⟨some ⟨ga9, 0, none⟩, 1, y.2.2.1, y.2.2.2.1⟩).toArray 46), .rowx (nz (.slice y.2.2.1 y.2.2.2.2.length y.2.2.2.1)) y.2.2.2.2.length 9 78 (MP.reads (fun m vs t => CaR m t vs) 9 y.2.2.2.2)]) (fun (y : Nat × Nat × Option Addr × Nat × List Ca) m => (fun (y : Nat) (nq : Nat) (gao : Option Addr) (gap : Nat) (ga : List Ca) => (y ≤ t.arms.length) ∧ (Cas m gao ga.length gap ga) ∧ (proA tl (zT sel tl f) 0 t.arms ((zT sel tl f) x5 n).2 = ga ++ proA tl (zT sel tl f) y (t.arms.drop y) nq ∧ ga.length = y) ∧ (proN tl (zT sel tl f) 0 t.arms ((zT sel tl f) x5 n).2 = proN tl (zT sel tl f) y (t.arms.drop y) nq) ∧ (nq + zo (t.arms.drop y) ≤ ((zT sel tl f) x5 n).2 + zo t.arms)) y.1 y.2.1 y.2.2.1 y.2.2.2.1 y.2.2.2.2) (fun y => t.arms.length - y.1) ((0, ((zT sel tl f) x5 n).2, none, 0, ([] : List Ca))) ⟨hst3, MLe.refl _, hfr3.sub (.c <| .c <| .c <| .c <| .c <| .c <| .nil), ⟨Nat.zero_le _, hsl_ar, ⟨rfl, rfl⟩, rfl, Nat.le_refl _⟩⟩ fun y a4 w4 m4 hh4 => ?_
 have hst4 := hh4.st; have hle4 := hh4.le; have hfr4 := hh4.fr; have hrel := hh4.rel; clear hh4
 replace h_t := h_t.mono hle4
 replace hkk_t := hkk_t.mono hle4
 replace haa_t := haa_t.mono hle4
 replace hrr_t := hrr_t.mono hle4
 replace hc3 := hc3.mono hle4
 replace hcv5 := hcv5.mono hle4
 replace hv5 := hv5.mono hle4
 replace hkk5 := hkk5.mono hle4
 replace haa5 := haa5.mono hle4
 replace hrr5 := hrr5.mono hle4
 replace hya9 := hya9.mono hle4
 replace hga9 := hga9.mono hle4
 replace hsl_ar := hsl_ar.mono hle4
 clear hst3 hfr3
 replace hM := hM.trans hle4
 obtain ⟨y, nq, gao, gap, ga⟩ := y
 dsimp only at hrel hfr4 hst4
 obtain ⟨hyn, hsl_ga, hlen_ga, hj1, hj2⟩ := hrel
 have hlh4 := hle4
 refine zB fun _ hK12 => ?_
 refine rp0 hst4 hfr4 (.cons rfl (z7 rfl rfl) <| .nil) fun a5 w5 m5 hst5 hle5 hk5 => ?_
 have hfr5 := hk5.fr (.o 25 <| .o 0 <| .o 4 <| .o 5 <| .o 23 <| .o 24 <| .n 26 <| .nil)
 replace h_t := h_t.mono hle5
 replace hkk_t := hkk_t.mono hle5
 replace haa_t := haa_t.mono hle5
 replace hrr_t := hrr_t.mono hle5
 replace hc3 := hc3.mono hle5
 replace hcv5 := hcv5.mono hle5
 replace hv5 := hv5.mono hle5
 replace hkk5 := hkk5.mono hle5
 replace haa5 := haa5.mono hle5
 replace hrr5 := hrr5.mono hle5
 replace hya9 := hya9.mono hle5
 replace hga9 := hga9.mono hle5
 replace hsl_ar := hsl_ar.mono hle5
 replace hsl_ga := hsl_ga.mono hle5
 have hlh5 := hlh4.trans hle5
 replace hM := hM.trans hle5
 clear hst4 hfr4 hk5
 refine hK12 _ _ ?_
 refine zB fun _ hK13 => ?_
 refine zG hfr5 rfl rfl (fun hb26 => ?_) (fun hb26 => ?_)
 ·try simp only [nqs] at hb26
  refine zJ ?_
  refine hK13 _ _ ?_
  refine zB fun _ hK14 => ?_
  refine zN ?_
  refine zB fun _ hK15 => ?_
  obtain ⟨p16, vs16, x16, ho16, hd16, hm_x16, ht16, hcv16, hl16, hv16⟩ := haa_t.nth (k := y) (by omega)
  cases ho16
  obtain ⟨oV16, cV16, bs16, rfl, hva16, hbd16⟩ := hv16.open_
  have hbv16 := hva16.big; have hcv16_ := hva16.cap
  obtain ⟨⟨oK16b, cK16b, oA16b, cA16b, oR16b, cR16b, t016b, t116b, t216b, t316b, t416b, t516b, u016b, u116b, u216b, u316b, u416b, u516b⟩, rfl, hon16b, hkk16b, haa16b, hrr16b⟩ := hbd16.open_
  dsimp only at hkk16b haa16b hrr16b
  have hbg16b := hkk16b.big; have hcp16b := hkk16b.cap; have hbh16b := haa16b.big; have hcq16b := haa16b.cap
  rw [hd16] at hlen_ga hj1 hj2
  rw [proA] at hlen_ga; rw [proN] at hj1; rw [ZD] at hj2
  have hLa := hL.arm hm_x16; have hcx := zAE hm_x16; have hbx := zBT hm_x16; have hsl9 := sum_len x16.vars
  have hpl := pro_low (tl := tl) (i := y) hLa
  have hgn := zBc sel tl f (zAJ tl y x16) nq hpl.1 (by omega)
  replace hst5 := hst5.more (r := .free) trivial List.nodup_nil (by simp [Res.blocks])
  refine ra0 (tch := [(3, 4, (fun v => .blk v _)), (5, 4, (fun v => .blk v _))]) hst5 hfr5 (.cons rfl (zD rfl) <| .cons rfl (zH (k := y) rfl rfl underlying25 sizeOf72 rfl (by omega)) <| .cons rfl (zO rfl hcv16 isAgg72 sizeOf72 rfl rfl) <| .consT rfl rfl (fun _ => rfl) rfl (zQ zeroValue72 rfl) <| .cons rfl (zC rfl) <| .consT rfl rfl (fun _ => rfl) rfl (zU 7 rfl rfl rfl fun y7 => zb rfl rfl rfl rfl rfl sizeOf72 rfl rfl hv16.one) <| .nil) fun a6 w6 m6 hst6 hle6 hk6 => ?_
  have hfr6 := hk6.fr (.o 25 <| .o 0 <| .o 4 <| .o 5 <| .o 23 <| .o 24 <| .n 6 <| .nil)
  obtain ⟨g17, e17, _⟩ := hk6.ex 7 rfl
  replace hfr6 := hfr6.cons e17
  replace hst6 := hst6.fin (L' := [_, _, _, _, _]) (.cons e17 <| .cons e17 <| .nil)
  try simp only [List.take_succ_cons, List.take_zero, List.drop_succ_cons, List.drop_zero, List.cons_append, List.nil_append, List.append_nil, List.length_cons, List.length_nil, Nat.zero_add, Nat.reduceAdd] at hst6
  clear hst5 hfr5 hk6
  refine hK15 _ _ ?_
  refine zB fun _ hK18 => ?_
  replace hst6 := hst6.more (r := .free) trivial List.nodup_nil (by simp [Res.blocks])
  replace hva16 := hva16.mono hle6
  refine zz (tch := [(6, 5, (fun v => .blk v _)), (7, 5, (fun v => .blkx v _ _))]) (fun _ => mixed) hst6 hfr6 (by kernel_rfl) (by kernel_rfl) (by kernel_rfl) (.cons rfl (zA (off := 0) rfl underlying72 rfl rfl sizeOf9 rfl) <| .cons rfl (zM (j := 4) rfl rfl isAgg9 rfl) <| .cons rfl (zA (off := 1) rfl underlying72 rfl rfl sizeOf27 rfl) <| .cons rfl (zM (j := 4) rfl rfl isAgg27 rfl) <| .cons rfl (zi (φ := MP.strs (x16.vars)) rfl (.cons rfl <| .nil) call44 (fun w m hK => by have hle_ := KC.le hK; have hA := KC.agree hK; have hva16 := hva16.mono hle_; exact FnG.mono (cloneF_c hA hva16 (by omega)) fun _ _ _ _ h => h)) <| .cons rfl (zh 34 rfl rfl rfl fun y34 => zq (.cons rfl <| .cons rfl <| .nil) underlying78 zeroValue78 (.cons sizeOf9 <| .cons sizeOf27 <| .cons sizeOf4 <| .cons sizeOf46 <| .nil) rfl) <| .consT rfl rfl (fun _ => rfl) rfl (zQ zeroValue78 rfl) <| .consT rfl rfl (fun _ => rfl) rfl (zU 8 rfl rfl rfl fun y8 => ZJ 35 rfl rfl rfl fun y35 => zb rfl rfl rfl rfl rfl sizeOf78 rfl rfl rfl) <| .nil) fun a7 w7 m7 hst7 hle7 hk7 => ?_
  have hfr7 := hk7.fr (.o 25 <| .o 0 <| .o 4 <| .o 5 <| .o 23 <| .o 24 <| .o 6 <| .o 7 <| .nil)
  obtain ⟨g19, e19, _⟩ := hk7.ex 8 rfl
  replace hfr7 := hfr7.cons e19
  replace hst7 := hst7.fin (L' := [_, _, _, _, _, _]) (.cons e19 <| .cons e19 <| .nil)
  try simp only [List.take_succ_cons, List.take_zero, List.drop_succ_cons, List.drop_zero, List.cons_append, List.nil_append, List.append_nil, List.length_cons, List.length_nil, Nat.zero_add, Nat.reduceAdd] at hst7
  obtain ⟨⟨oV9, cV9⟩, hV9, hst7⟩ := hst7.unx (k := 5) rfl (fun _ => rfl)
  clear hst6 hfr6 hk7
  refine hK18 _ _ ?_
  refine zB fun _ hK21 => ?_
  replace hst7 := hst7.more (r := .free) trivial List.nodup_nil (by simp [Res.blocks])
  have zq1 := hle6.trans hle7
  replace hbd16 := hbd16.mono zq1
  refine ra0 (tch := [(2, 6, (fun v => .blk v _)), (3, 6, (fun v => .blk v _))]) hst7 hfr7 (.cons rfl (zA (off := 2) rfl underlying72 rfl rfl sizeOf33 rfl) <| .cons rfl (Zo (j := 4) rfl rfl isAgg33 sizeOf33 rfl rfl) <| .consT rfl rfl (fun _ => rfl) rfl (zQ zeroValue33 rfl) <| .consT rfl rfl (fun _ => rfl) rfl (zU 9 rfl rfl rfl fun y9 => zb rfl rfl rfl rfl rfl sizeOf33 rfl rfl (by exact hbd16.one)) <| .nil) fun a8 w8 m8 hst8 hle8 hk8 => ?_
  have hfr8 := hk8.fr (.o 25 <| .o 0 <| .o 4 <| .o 5 <| .o 23 <| .o 24 <| .o 6 <| .o 7 <| .o 8 <| .nil)
  obtain ⟨g22, e22, _⟩ := hk8.ex 9 rfl
  replace hfr8 := hfr8.cons e22
  replace hst8 := hst8.fin (L' := [_, _, _, _, _, _, _]) (.cons e22 <| .cons e22 <| .nil)
  try simp only [List.take_succ_cons, List.take_zero, List.drop_succ_cons, List.drop_zero, List.cons_append, List.nil_append, List.append_nil, List.length_cons, List.length_nil, Nat.zero_add, Nat.reduceAdd] at hst8
  clear hst7 hfr7 hk8
  refine hK21 _ _ ?_
  refine zB fun _ hK23 => ?_
  refine zB fun _ hK24 => ?_
  refine zu 2 (by kernel_rfl) ?_
  have zq2 := zq1.trans hle8
  replace hv16 := hv16.mono zq2
  refine zm (tch := []) hst8 hfr8 (by kernel_rfl) (by kernel_rfl) (by kernel_rfl) (.cons rfl (zd (j := 4) rfl rfl isAgg72 sizeOf72 rfl) <| .cons rfl (zi (φ := MP.lastV x16) rfl (.cons rfl <| .nil) call54 (fun w m hK => by have hle_ := KC.le hK; have hA := KC.agree hK; have hv16 := hv16.mono hle_; exact FnG.mono (last_c (a := x16) hA hv16 hLa.sh (by omega)) fun _ _ _ _ h => h)) <| .nil) fun a9 w9 m9 hst9 hle9 hk9 => ?_
  have hfr9 := hk9.fr (.o 25 <| .o 0 <| .o 4 <| .o 5 <| .o 23 <| .o 24 <| .o 6 <| .o 7 <| .o 8 <| .o 9 <| .nil)
  obtain ⟨⟨⟨xl9, yl9⟩, bl9⟩, e25, hl9, hlq⟩ := hk9.ex 40 rfl
  replace hfr9 := hfr9.cons e25
  clear hst8 hfr8 hk9
  dsimp only at hl9 hlq
  replace hst9 := hst9.more (r := .free) trivial List.nodup_nil (by simp [Res.blocks])
  refine zm (tch := [(3, 7, (fun v => .blk v _)), (4, 7, (fun v => .blk v _))]) hst9 hfr9 (by kernel_rfl) (by kernel_rfl) (by kernel_rfl) (.cons rfl (zD rfl) <| .cons rfl (zS rfl rfl) <| .cons rfl (zS rfl rfl) <| .consT rfl rfl (fun _ => rfl) rfl (zQ zeroValue33 rfl) <| .consT rfl rfl (fun _ => rfl) rfl (zU 10 rfl rfl rfl fun y10 => zb rfl rfl rfl rfl rfl sizeOf33 rfl rfl hl9.one) <| .cons rfl (zC rfl) <| .nil) fun a10 w10 m10 hst10 hle10 hk10 => ?_
  have hfr10 := hk10.fr (.o 25 <| .o 0 <| .o 4 <| .o 5 <| .o 23 <| .o 24 <| .o 6 <| .o 7 <| .o 8 <| .o 9 <| .o 40 <| .n 11 <| .nil)
  obtain ⟨g26, e26, _⟩ := hk10.ex 10 rfl
  replace hfr10 := hfr10.cons e26
  replace hst10 := hst10.fin (L' := [_, _, _, _, _, _, _, _]) (.cons e26 <| .cons e26 <| .nil)
  try simp only [List.take_succ_cons, List.take_zero, List.drop_succ_cons, List.drop_zero, List.cons_append, List.nil_append, List.append_nil, List.length_cons, List.length_nil, Nat.zero_add, Nat.reduceAdd] at hst10
  clear hst9 hfr9 hk10
  refine hK24 _ _ ?_
  refine zB fun _ hK27 => ?_
  refine rp0 hst10 hfr10 (.cons rfl (zD rfl) <| .cons rfl (zD rfl) <| .cons rfl (zD rfl) <| .cons rfl (zAg rfl) <| .cons rfl (zA (off := 0) rfl underlying75 rfl rfl sizeOf38 rfl) <| .cons rfl (zA (off := 1) rfl underlying38 rfl rfl sizeOf4 rfl) <| .cons rfl (zM (k := 1) (j := 0) rfl rfl isAgg4 rfl) <| .cons rfl (ZI rfl rfl rfl) <| .cons rfl (zD rfl) <| .cons rfl (zD rfl) <| .cons rfl (zAw rfl rfl) <| .cons rfl (ZI rfl rfl rfl) <| .nil) fun a11 w11 m11 hst11 hle11 hk11 => ?_
  have hfr11 := hk11.fr (.o 25 <| .o 0 <| .o 4 <| .o 5 <| .o 23 <| .o 24 <| .o 8 <| .o 9 <| .o 10 <| .n 54 <| .nil)
  clear hst10 hfr10 hk11
  refine hK27 _ _ ?_
  refine zG hfr11 rfl rfl (fun hb54 => ?_) (fun hb54 => ?_)
  ·try simp only [nqs] at hb54
   have hlp : (zBf x16).2 = true := by rw [← hlq]; exact hb54.1.1
   have hl2 := last_two hlp
   have hpc : zCF tl y x16 = true := by unfold zCF; rw [hlp, hb54.1.2, decide_eq_true (show 0 < y by omega)]; rfl
   have hpt : zAJ tl y x16 = xl9 := by unfold zAJ; rw [if_pos hpc, ← hlq]
   have hpv : zCv tl y x16 = x16.vars.take 1 := by unfold zCv; rw [if_pos hpc]
   have zq3 := hle10.trans hle11
   have zq4 := hle9.trans zq3
   have zq5 := hle8.trans zq4
   replace hV9 := hV9.mono zq5
   have hc9 := hV9.cap
   replace hl9 := hl9.mono zq3
   refine zz (tch := [(5, 5, (fun _ => .blk _ _)), (7, 5, (fun _ => .blk _ _)), (8, 6, (fun _ => .blk _ _))]) (fun _ => mixed) hst11 hfr11 (by kernel_rfl) (by kernel_rfl) (by kernel_rfl) (.cons rfl (zA (off := 1) rfl underlying78 rfl rfl sizeOf27 rfl) <| .cons rfl (zM (j := 5) rfl rfl isAgg27 rfl) <| .cons rfl (ob_slice3 (h := 1) (k := 1) rfl (.some rfl rfl) (.some rfl rfl) underlying27 sizeOf9 (by omega) (by omega)) <| .cons rfl (zd (j := 7) rfl rfl isAgg33 sizeOf33 rfl) <| .cons rfl (zA (off := 2) rfl underlying78 rfl rfl sizeOf4 rfl) <| .consT rfl rfl (fun _ => rfl) rfl (ZE rfl rfl rfl sizeOf4 rfl rfl rfl) <| .cons rfl (zA (off := 1) rfl underlying78 rfl rfl sizeOf27 rfl) <| .consT rfl rfl (fun _ => rfl) rfl (ZE rfl rfl rfl sizeOf27 rfl rfl rfl) <| .consT rfl rfl (fun _ => rfl) rfl (za rfl rfl rfl sizeOf33 rfl rfl hl9.one) <| .nil) fun a12 w12 m12 hst12 hle12 hk12 => ?_
   have hfr12 := hk12.fr (.o 25 <| .o 0 <| .o 4 <| .o 5 <| .o 23 <| .o 24 <| .o 8 <| .o 9 <| .nil)
   replace hst12 := hst12.fin (L' := [_, _, _, _, _, _, _, _]) (.cons rfl <| .cons rfl <| .cons rfl <| .nil)
   try simp only [List.take_succ_cons, List.take_zero, List.drop_succ_cons, List.drop_zero, List.cons_append, List.nil_append, List.append_nil, List.length_cons, List.length_nil, Nat.zero_add, Nat.reduceAdd] at hst12
   clear hst11 hfr11 hk12
   replace hV9 := hV9.mono hle12
   have hV8 := strs_cut1 hV9 hl2
   refine hK23 _ _ ?_
   refine zB fun _ hK28 => ?_
   refine zu 3 (by kernel_rfl) ?_
   replace hl9 := hl9.mono hle12
   have hbb9 := tm_eq hl9 hpt
   have zq6 := zq4.trans hle12
   have zq7 := zq2.trans zq6
   replace h_t := h_t.mono zq7
   replace hkk_t := hkk_t.mono zq7
   replace haa_t := haa_t.mono zq7
   replace hrr_t := hrr_t.mono zq7
   replace hc3 := hc3.mono zq7
   replace hcv5 := hcv5.mono zq7
   replace hv5 := hv5.mono zq7
   replace hkk5 := hkk5.mono zq7
   replace haa5 := haa5.mono zq7
   replace hrr5 := hrr5.mono zq7
   replace hya9 := hya9.mono zq7
   replace hga9 := hga9.mono zq7
   replace hsl_ar := hsl_ar.mono zq7
   replace hsl_ga := hsl_ga.mono zq7
   replace hcv16 := hcv16.mono zq7
   replace hkk16b := hkk16b.mono zq7
   replace haa16b := haa16b.mono zq7
   replace hrr16b := hrr16b.mono zq7
   replace hM := hM.trans zq7
   have zq8 := zq5.trans hle12
   have zq9 := hle7.trans zq8
   replace hva16 := hva16.mono zq9
   replace hbd16 := hbd16.mono zq8
   replace hv16 := hv16.mono zq6
   refine zm (tch := [(2, 0, (fun _ => .blk (.pointer (some ⟨r, 0, none⟩)) (.cells #[.bool sel, .bool tl, .int .i64 ((((zT sel tl f) (zAJ tl y x16) (nq)).2 : Nat) : Int)] 75)))]) hst12 hfr12 (by kernel_rfl) (by kernel_rfl) (by kernel_rfl) (.cons rfl (zD rfl) <| .cons rfl (zd (j := 6) rfl rfl isAgg33 sizeOf33 rfl) <| .consT rfl rfl (fun _ => rfl) rfl (Za rfl (.cons rfl <| .cons rfl <| .nil) call31 (κ := .ex (MP.cd ((zT sel tl f) (zAJ tl y x16) (nq)).1)) (fun σ w m hK hr hkn => by have hle_ := KC.le hK; have hA := KC.agree hK; have hM := hM.trans hle_; have h_t := h_t.mono hle_; have hkk_t := hkk_t.mono hle_; have haa_t := haa_t.mono hle_; have hrr_t := hrr_t.mono hle_; have hc3 := hc3.mono hle_; have hcv5 := hcv5.mono hle_; have hv5 := hv5.mono hle_; have hkk5 := hkk5.mono hle_; have haa5 := haa5.mono hle_; have hrr5 := hrr5.mono hle_; have hya9 := hya9.mono hle_; have hga9 := hga9.mono hle_; have hsl_ar := hsl_ar.mono hle_; have hsl_ga := hsl_ga.mono hle_; have hcv16 := hcv16.mono hle_; have hv16 := hv16.mono hle_; have hva16 := hva16.mono hle_; have hbd16 := hbd16.mono hle_; have hkk16b := hkk16b.mono hle_; have haa16b := haa16b.mono hle_; have hrr16b := hrr16b.mono hle_; have hV9 := hV9.mono hle_; have hl9 := hl9.mono hle_; have hV8 := hV8.mono hle_; have hbb9 := hbb9.mono hle_; have hT := ZO hT hK.st.ext hNTs; exact zAk ih hA hr hbb9 hT hpl.1 (by omega) (by omega) (by omega) hNT)) <| .nil) fun a13 w13 m13 hst13 hle13 hk13 => ?_
   have hfr13 := hk13.fr (.o 25 <| .o 0 <| .o 4 <| .o 5 <| .o 23 <| .o 24 <| .o 8 <| .o 9 <| .nil)
   obtain ⟨yc9, e29, hyc9⟩ := hk13.ex 63 rfl
   replace hfr13 := hfr13.cons e29
   replace hst13 := hst13.fin (L' := [_, _, _, _, _, _, _, _]) (.cons e29 <| .nil)
   clear hst12 hfr12 hk13
   refine zm (tch := [(1, 5, (fun _ => .blk _ _))]) hst13 hfr13 (by kernel_rfl) (by kernel_rfl) (by kernel_rfl) (.cons rfl (zA (off := 3) rfl underlying78 rfl rfl sizeOf46 rfl) <| .consT rfl rfl (fun _ => rfl) rfl (ZE rfl rfl rfl sizeOf46 rfl rfl rfl) <| .nil) fun a14 w14 m14 hst14 hle14 hk14 => ?_
   have hfr14 := hk14.fr (.o 25 <| .o 0 <| .o 4 <| .o 5 <| .o 23 <| .o 24 <| .o 8 <| .o 9 <| .o 63 <| .nil)
   replace hst14 := hst14.fin (L' := [_, _, _, _, _, _, _, _]) (.cons rfl <| .nil)
   try simp only [List.take_succ_cons, List.take_zero, List.drop_succ_cons, List.drop_zero, List.cons_append, List.nil_append, List.append_nil, List.length_cons, List.length_nil, Nat.zero_add, Nat.reduceAdd] at hst14
   clear hst13 hfr13 hk14
   refine hK28 _ _ ?_
   have zq10 := hle13.trans hle14
   replace hV8 := hV8.mono zq10
   replace hyc9 := hyc9.mono hle14
   refine ra0 (tch := [(4, 3, (fun v => .rowx (nz v) _ _ _ _)), (6, 2, (fun u => .blk _ (.cells (_ ++ [u] ++ _).toArray _)))]) hst14 hfr14 (.cons rfl (zA (off := 5) rfl underlying46 rfl rfl sizeOf44 rfl) <| .cons rfl (zM (j := 2) rfl rfl isAgg44 rfl) <| .cons rfl (zd (j := 5) rfl rfl isAgg78 sizeOf78 rfl) <| .cons rfl (z8 rfl underlying44 sizeOf78 zeroValue78 rfl rfl rfl rfl) <| .consT rfl rfl (fun _ => rfl) rfl (zU 68 rfl rfl rfl fun y68 => ZZ (size := 9) (bytes := 144) (l := ga) (l' := [(⟨x16.name, zCv tl y x16, zCF tl y x16, ((zT sel tl f) (zAJ tl y x16) nq).1⟩ : Ca)]) rfl rfl (fun _ => by first | exact .inl rfl | exact .inr (.inl rfl)) underlying44 type78 rfl rfl rfl rfl (fun w m hK => Sl.one (R := fun m vs t => CaR m t vs) hK.2 rfl (by rw [hpv, hpc]; exact caR_of (hV8.mono (KC.le hK)) (hyc9.mono (KC.le hK)))) rfl (by decide) (by simp only [maxLen]; omega) (by omega)) <| .cons rfl (zA (off := 5) rfl underlying46 rfl rfl sizeOf44 rfl) <| .consT rfl rfl (fun _ => rfl) rfl (zU 69 rfl rfl rfl fun y69 => zAI rfl rfl rfl rfl rfl sizeOf44 rfl rfl rfl) <| .nil) fun a15 w15 m15 hst15 hle15 hk15 => ?_
   have hfr15 := hk15.fr (.o 25 <| .o 0 <| .o 4 <| .o 5 <| .o 23 <| .o 24 <| .nil)
   obtain ⟨⟨ar_30o, ar_30p⟩, e31, hsl_ar_30⟩ := hk15.ex 69 rfl
   replace hst15 := hst15.fin (L' := [_, _, _, _, _, _, _, _]) (.cons e31 <| .cons e31 <| .nil)
   try simp only [List.take_succ_cons, List.take_zero, List.drop_succ_cons, List.drop_zero, List.cons_append, List.nil_append, List.append_nil, List.length_cons, List.length_nil, Nat.zero_add, Nat.reduceAdd] at hst15
   clear hst14 hfr14 hk15
   replace hsl_ar_30 : Cas m15 ar_30o (ga ++ [(⟨x16.name, zCv tl y x16, zCF tl y x16, ((zT sel tl f) (zAJ tl y x16) nq).1⟩ : Ca)]).length ar_30p (ga ++ [(⟨x16.name, zCv tl y x16, zCF tl y x16, ((zT sel tl f) (zAJ tl y x16) nq).1⟩ : Ca)]) := hsl_ar_30
   refine hK14 _ _ ?_
   refine rp0 hst15 hfr15 (.cons rfl (zk rfl rfl ⟨by omega, by omega⟩) <| .cons rfl (zD rfl) <| .nil) fun a16 w16 m16 hst16 hle16 hk16 => ?_
   have hfr16 := hk16.fr (.o 0 <| .o 4 <| .o 5 <| .o 23 <| .o 24 <| .n 25 <| .nil)
   clear hst15 hfr15 hk16
   have hst16 := hst16.take 4
   replace hsl_ar_30 := hsl_ar_30.mono hle16
   have zq11 := hle15.trans hle16
   have zq12 := zq10.trans zq11
   have zq13 := zq7.trans zq12
   have hlh16 := hlh5.trans zq13
   exact ⟨(y + 1, ((zT sel tl f) (zAJ tl y x16) nq).2, ar_30o, ar_30p, (ga ++ [(⟨x16.name, zCv tl y x16, zCF tl y x16, ((zT sel tl f) (zAJ tl y x16) nq).1⟩ : Ca)])), m16, by show t.arms.length - (y + 1) < t.arms.length - y; omega, ⟨hst16, hlh16, hfr16.sub (.c <| .c <| .c <| .c <| .c <| .c <| .nil), ⟨by show y + 1 ≤ t.arms.length; omega, hsl_ar_30, ⟨by rw [hlen_ga.1]; simp, by show (ga ++ [_]).length = y + 1; simp; exact hlen_ga.2⟩, hj1, by show ((zT sel tl f) (zAJ tl y x16) nq).2 + zo (t.arms.drop (y + 1)) ≤ _; omega⟩⟩⟩
  ·try simp only [nqs] at hb54
   have hpc : zCF tl y x16 = false := by unfold zCF; rw [← hlq]; show (bl9 && tl && decide (0 < y)) = false; rcases hb54 with (h | h) | h; (rw [h]; rfl); (rw [h, Bool.and_false]; rfl); (rw [decide_eq_false (by omega), Bool.and_false])
   have hpt : zAJ tl y x16 = x16.body := by unfold zAJ; rw [hpc]; rfl
   have hpv : zCv tl y x16 = x16.vars := by unfold zCv; rw [hpc]; rfl
   refine zJ ?_
   refine hK23 _ _ ?_
   refine zB fun _ hK32 => ?_
   refine zu 3 (by kernel_rfl) ?_
   have zq14 := hle10.trans hle11
   have zq15 := hle9.trans zq14
   have zq16 := hle8.trans zq15
   replace hbd16 := hbd16.mono zq16
   have hbb9 := tm_eq hbd16 hpt
   have zq17 := zq2.trans zq15
   replace h_t := h_t.mono zq17
   replace hkk_t := hkk_t.mono zq17
   replace haa_t := haa_t.mono zq17
   replace hrr_t := hrr_t.mono zq17
   replace hc3 := hc3.mono zq17
   replace hcv5 := hcv5.mono zq17
   replace hv5 := hv5.mono zq17
   replace hkk5 := hkk5.mono zq17
   replace haa5 := haa5.mono zq17
   replace hrr5 := hrr5.mono zq17
   replace hya9 := hya9.mono zq17
   replace hga9 := hga9.mono zq17
   replace hsl_ar := hsl_ar.mono zq17
   replace hsl_ga := hsl_ga.mono zq17
   replace hcv16 := hcv16.mono zq17
   replace hkk16b := hkk16b.mono zq17
   replace haa16b := haa16b.mono zq17
   replace hrr16b := hrr16b.mono zq17
   replace hM := hM.trans zq17
   have zq18 := hle7.trans zq16
   replace hva16 := hva16.mono zq18
   replace hV9 := hV9.mono zq16
   replace hv16 := hv16.mono zq15
   replace hl9 := hl9.mono zq14
   refine zm (tch := [(2, 0, (fun _ => .blk (.pointer (some ⟨r, 0, none⟩)) (.cells #[.bool sel, .bool tl, .int .i64 ((((zT sel tl f) (zAJ tl y x16) (nq)).2 : Nat) : Int)] 75)))]) hst11 hfr11 (by kernel_rfl) (by kernel_rfl) (by kernel_rfl) (.cons rfl (zD rfl) <| .cons rfl (zd (j := 6) rfl rfl isAgg33 sizeOf33 rfl) <| .consT rfl rfl (fun _ => rfl) rfl (Za rfl (.cons rfl <| .cons rfl <| .nil) call31 (κ := .ex (MP.cd ((zT sel tl f) (zAJ tl y x16) (nq)).1)) (fun σ w m hK hr hkn => by have hle_ := KC.le hK; have hA := KC.agree hK; have hM := hM.trans hle_; have h_t := h_t.mono hle_; have hkk_t := hkk_t.mono hle_; have haa_t := haa_t.mono hle_; have hrr_t := hrr_t.mono hle_; have hc3 := hc3.mono hle_; have hcv5 := hcv5.mono hle_; have hv5 := hv5.mono hle_; have hkk5 := hkk5.mono hle_; have haa5 := haa5.mono hle_; have hrr5 := hrr5.mono hle_; have hya9 := hya9.mono hle_; have hga9 := hga9.mono hle_; have hsl_ar := hsl_ar.mono hle_; have hsl_ga := hsl_ga.mono hle_; have hcv16 := hcv16.mono hle_; have hv16 := hv16.mono hle_; have hva16 := hva16.mono hle_; have hbd16 := hbd16.mono hle_; have hkk16b := hkk16b.mono hle_; have haa16b := haa16b.mono hle_; have hrr16b := hrr16b.mono hle_; have hV9 := hV9.mono hle_; have hl9 := hl9.mono hle_; have hbb9 := hbb9.mono hle_; have hT := ZO hT hK.st.ext hNTs; exact zAk ih hA hr hbb9 hT hpl.1 (by omega) (by omega) (by omega) hNT)) <| .nil) fun a12 w12 m12 hst12 hle12 hk12 => ?_
   have hfr12 := hk12.fr (.o 25 <| .o 0 <| .o 4 <| .o 5 <| .o 23 <| .o 24 <| .o 8 <| .o 9 <| .o 10 <| .nil)
   obtain ⟨yc9, e33, hyc9⟩ := hk12.ex 63 rfl
   replace hfr12 := hfr12.cons e33
   replace hst12 := hst12.fin (L' := [_, _, _, _, _, _, _, _]) (.cons e33 <| .nil)
   clear hst11 hfr11 hk12
   refine zm (tch := [(1, 5, (fun _ => .blk _ _))]) hst12 hfr12 (by kernel_rfl) (by kernel_rfl) (by kernel_rfl) (.cons rfl (zA (off := 3) rfl underlying78 rfl rfl sizeOf46 rfl) <| .consT rfl rfl (fun _ => rfl) rfl (ZE rfl rfl rfl sizeOf46 rfl rfl rfl) <| .nil) fun a13 w13 m13 hst13 hle13 hk13 => ?_
   have hfr13 := hk13.fr (.o 25 <| .o 0 <| .o 4 <| .o 5 <| .o 23 <| .o 24 <| .o 8 <| .o 9 <| .o 10 <| .o 63 <| .nil)
   replace hst13 := hst13.fin (L' := [_, _, _, _, _, _, _, _]) (.cons rfl <| .nil)
   try simp only [List.take_succ_cons, List.take_zero, List.drop_succ_cons, List.drop_zero, List.cons_append, List.nil_append, List.append_nil, List.length_cons, List.length_nil, Nat.zero_add, Nat.reduceAdd] at hst13
   clear hst12 hfr12 hk13
   refine hK32 _ _ ?_
   have zq19 := hle12.trans hle13
   replace hV9 := hV9.mono zq19
   replace hyc9 := hyc9.mono hle13
   refine ra0 (tch := [(4, 3, (fun v => .rowx (nz v) _ _ _ _)), (6, 2, (fun u => .blk _ (.cells (_ ++ [u] ++ _).toArray _)))]) hst13 hfr13 (.cons rfl (zA (off := 5) rfl underlying46 rfl rfl sizeOf44 rfl) <| .cons rfl (zM (j := 2) rfl rfl isAgg44 rfl) <| .cons rfl (zd (j := 5) rfl rfl isAgg78 sizeOf78 rfl) <| .cons rfl (z8 rfl underlying44 sizeOf78 zeroValue78 rfl rfl rfl rfl) <| .consT rfl rfl (fun _ => rfl) rfl (zU 68 rfl rfl rfl fun y68 => ZZ (size := 9) (bytes := 144) (l := ga) (l' := [(⟨x16.name, zCv tl y x16, zCF tl y x16, ((zT sel tl f) (zAJ tl y x16) nq).1⟩ : Ca)]) rfl rfl (fun _ => by first | exact .inl rfl | exact .inr (.inl rfl)) underlying44 type78 rfl rfl rfl rfl (fun w m hK => Sl.one (R := fun m vs t => CaR m t vs) hK.2 rfl (by rw [hpv, hpc]; exact caR_of (hV9.mono (KC.le hK)) (hyc9.mono (KC.le hK)))) rfl (by decide) (by simp only [maxLen]; omega) (by omega)) <| .cons rfl (zA (off := 5) rfl underlying46 rfl rfl sizeOf44 rfl) <| .consT rfl rfl (fun _ => rfl) rfl (zU 69 rfl rfl rfl fun y69 => zAI rfl rfl rfl rfl rfl sizeOf44 rfl rfl rfl) <| .nil) fun a14 w14 m14 hst14 hle14 hk14 => ?_
   have hfr14 := hk14.fr (.o 25 <| .o 0 <| .o 4 <| .o 5 <| .o 23 <| .o 24 <| .nil)
   obtain ⟨⟨ar_34o, ar_34p⟩, e35, hsl_ar_34⟩ := hk14.ex 69 rfl
   replace hst14 := hst14.fin (L' := [_, _, _, _, _, _, _, _]) (.cons e35 <| .cons e35 <| .nil)
   try simp only [List.take_succ_cons, List.take_zero, List.drop_succ_cons, List.drop_zero, List.cons_append, List.nil_append, List.append_nil, List.length_cons, List.length_nil, Nat.zero_add, Nat.reduceAdd] at hst14
   clear hst13 hfr13 hk14
   replace hsl_ar_34 : Cas m14 ar_34o (ga ++ [(⟨x16.name, zCv tl y x16, zCF tl y x16, ((zT sel tl f) (zAJ tl y x16) nq).1⟩ : Ca)]).length ar_34p (ga ++ [(⟨x16.name, zCv tl y x16, zCF tl y x16, ((zT sel tl f) (zAJ tl y x16) nq).1⟩ : Ca)]) := hsl_ar_34
   refine hK14 _ _ ?_
   refine rp0 hst14 hfr14 (.cons rfl (zk rfl rfl ⟨by omega, by omega⟩) <| .cons rfl (zD rfl) <| .nil) fun a15 w15 m15 hst15 hle15 hk15 => ?_
   have hfr15 := hk15.fr (.o 0 <| .o 4 <| .o 5 <| .o 23 <| .o 24 <| .n 25 <| .nil)
   clear hst14 hfr14 hk15
   have hst15 := hst15.take 4
   replace hsl_ar_34 := hsl_ar_34.mono hle15
   have zq20 := hle14.trans hle15
   have zq21 := zq19.trans zq20
   have zq22 := zq17.trans zq21
   have hlh15 := hlh5.trans zq22
   exact ⟨(y + 1, ((zT sel tl f) (zAJ tl y x16) nq).2, ar_34o, ar_34p, (ga ++ [(⟨x16.name, zCv tl y x16, zCF tl y x16, ((zT sel tl f) (zAJ tl y x16) nq).1⟩ : Ca)])), m15, by show t.arms.length - (y + 1) < t.arms.length - y; omega, ⟨hst15, hlh15, hfr15.sub (.c <| .c <| .c <| .c <| .c <| .c <| .nil), ⟨by show y + 1 ≤ t.arms.length; omega, hsl_ar_34, ⟨by rw [hlen_ga.1]; simp, by show (ga ++ [_]).length = y + 1; simp; exact hlen_ga.2⟩, hj1, by show ((zT sel tl f) (zAJ tl y x16) nq).2 + zo (t.arms.drop (y + 1)) ≤ _; omega⟩⟩⟩
 ·try simp only [nqs] at hb26
  have hge : y = t.arms.length := by omega
  rw [List.drop_of_length_le (by omega)] at hlen_ga hj1
  rw [proA, List.append_nil] at hlen_ga
  rw [proN] at hj1
  refine zg ?_
  refine hK9 _ _ ?_
  refine zB fun _ hK36 => ?_
  refine ra0 (tch := [(1, 1, (fun _ => .blk _ _))]) hst5 hfr5 (.cons rfl (zd (j := 2) rfl rfl isAgg46 sizeOf46 rfl) <| .consT rfl rfl (fun _ => rfl) rfl (za rfl rfl rfl sizeOf46 rfl rfl rfl) <| .nil) fun a6 w6 m6 hst6 hle6 hk6 => ?_
  have hfr6 := hk6.fr (.o 25 <| .o 4 <| .nil)
  replace hst6 := hst6.fin (L' := [_, _, _, _]) (.cons rfl <| .nil)
  try simp only [List.take_succ_cons, List.take_zero, List.drop_succ_cons, List.drop_zero, List.cons_append, List.nil_append, List.append_nil, List.length_cons, List.length_nil, Nat.zero_add, Nat.reduceAdd] at hst6
  clear hst5 hfr5 hk6
  refine hK36 _ _ ?_
  refine zK ?_
  repeat (with_reducible first | refine zI ?_ | refine zF ?_)
  replace hya9 := hya9.mono hle6
  replace hga9 := hga9.mono hle6
  replace hsl_ga := hsl_ga.mono hle6
  exact zL hst6 hfr6 rfl (.cell rfl (zn (zl (hst6.loc.at_ (k := 1) rfl)) isAgg46 sizeOf46) <| .nil) (⟨by rw [body14 hk14, hk0, hj1]; exact (hst6.take 1).loc, ⟨_, _, _, _⟩, by rw [body14 hk14, hk0, hlen_ga.1]; rfl, by rw [body14 hk14, hk0, hlen_ga.1]; exact CdR.build trivial trivial (Sl.one (R := fun m vs t => CdR m t vs) hga9 hya9.len hya9) hsl_ga⟩)
end Go.Proofs.YtmdhhjmomilhjaaDoor
namespace Go.Proofs.YtmdhhjmomilhjaaDoor
open Go.Proofs.Tryd
set_option linter.all false
set_option maxRecDepth 4000
open Go.RowKit
theorem kindsN_neg {t : Tm} (h : zAD t.kind < 0) : zp t = t.kids.length := by
 unfold zAD at h; unfold zp
 split at h
 ·omega
 ·rename_i h2; rw [if_neg h2]
theorem kindsN_pos {t : Tm} (h : ¬ zAD t.kind < 0) : zAD t.kind = ((zp t : Nat) : Int) := by
 unfold zAD at h ⊢; unfold zp
 split at h
 ·rename_i h2; rw [if_pos h2, if_pos h2]; rfl
 ·omega
theorem from_le {t : Tm} (h : headL t) : zp t ≤ t.kids.length := by
 obtain ⟨h1, h2, h3, h4, h5⟩ := h.lens
 unfold zp
 split
 ·rename_i hk; rcases hk with hk | hk
  ·have := h3 hk; omega
  ·have := h4 (.inl hk); omega
 ·omega
theorem out_named {k : Int} (h : (zAs k = 11 ∨ zAs k = 12) ∨ zAs k = 14) : k = 10 ∨ k = 11 ∨ k = 13 := by
 unfold zAs at h
 repeat' split at h
 all_goals omega
theorem zDo {k : Int} (h : (¬ zAs k = 11 ∧ ¬ zAs k = 12) ∧ ¬ zAs k = 14) : ¬ (k = 10 ∨ k = 11 ∨ k = 13) := fun h2 => by
 unfold zAs at h
 rcases h2 with rfl | rfl | rfl <;> simp at h
theorem mem_cut {t : Tm} {k : Nat} {u : Tm} (h : u ∈ (t.kids.take k).drop 0) : u ∈ t.kids := List.mem_of_mem_take (List.mem_of_mem_drop h)
theorem mem_cut2 {t : Tm} {k j : Nat} {u : Tm} (h : u ∈ (t.kids.take k).drop j) : u ∈ t.kids := List.mem_of_mem_take (List.mem_of_mem_drop h)
theorem takeA_len (g : Gen) : ∀ (l : List Tm) (n : Nat), (Zu g l n).length = l.length
 | [], _ => rfl
 | t :: ts, n => by rw [Zu, List.length_cons, takeA_len g ts]; rfl
theorem prompt_t {f : Nat} (ih : zBV f) {w : World} {m : Mem} {sel tl : Bool} {r n : Nat} {t : Tm} {vs : List Value} (hA : Agree w m) (hr : (Res.blk (.pointer (some ⟨r, 0, none⟩)) (.cells #[.bool sel, .bool tl, .int .i64 ((n : Nat) : Int)] 75)).holds w m) (h : TmR m t vs) (hT : Tab w) (hk14 : t.kind = 14) (hL : LwT t) (hf : zP t ≤ f + 1) (hbk : zt t ≤ 1000000000) (hnb : n + zP t ≤ 1000000000) (hNT : Zx r) :
  Calls Tryd.prog 39 #[.pointer (some ⟨r, 0, none⟩), .agg vs.toArray] w fun e w' => ∃ v m', e = .returned v ∧ Touch (Res.blk (.pointer (some ⟨r, 0, none⟩)) (.cells #[.bool sel, .bool tl, .int .i64 ((n : Nat) : Int)] 75)) (Res.blk (.pointer (some ⟨r, 0, none⟩)) (.cells #[.bool sel, .bool tl, .int .i64 (((ZS sel tl (zT sel tl f) t n).2 : Nat) : Int)] 75)) w m w' m' ∧ (Kn.ex (MP.cd (ZS sel tl (zT sel tl f) t n).1)).holds m' v :=
 Calls.mono (prompt_g hA hr h hT ih hk14 hL hf hbk hnb hNT) fun e w' ⟨v, m', e1, hE, hl, hv⟩ => ⟨v, m', e1, zCZ hE hl, hv⟩
set_option maxHeartbeats 3200000 in
theorem code_s {w : World} {m : Mem} {sel tl : Bool} {r n : Nat} {t : Tm} {vs_t : List Value} {f : Nat} (hA : Agree w m) (hr : (Res.blk (.pointer (some ⟨r, 0, none⟩)) (.cells #[.bool sel, .bool tl, .int .i64 ((n : Nat) : Int)] 75)).holds w m) (h_t : TmR m t vs_t) (hT : Tab w) (ih : zBV f) (hL : LwT t) (hf : zP t ≤ f + 1) (hbk : zt t ≤ 1000000000) (hnb : n + zP t ≤ 1000000000) (hNT : Zx r) : FnG Tryd.prog 31 #[.pointer (some ⟨r, 0, none⟩), .agg vs_t.toArray] [r] w m (fun w' m' v => Loc [r] w.heap.size [.blk (.pointer (some ⟨r, 0, none⟩)) (.cells #[.bool sel, .bool tl, .int .i64 (((ZS sel tl (zT sel tl f) t n).2 : Nat) : Int)] 75)] w' m' ∧ (MP.cd (ZS sel tl (zT sel tl f) t n).1).p m' v) := by
 obtain ⟨⟨oK_t, cK_t, oA_t, cA_t, oR_t, cR_t, t0_t, t1_t, t2_t, t3_t, t4_t, t5_t, u0_t, u1_t, u2_t, u3_t, u4_t, u5_t⟩, rfl, hon_t, hkk_t, haa_t, hrr_t⟩ := h_t.open_
 dsimp only at hkk_t haa_t hrr_t
 have hbg_t := hkk_t.big; have hcp_t := hkk_t.cap; have hbh_t := haa_t.big; have hcq_t := haa_t.cap
 refine zX (vs := [_, _]) func31 rfl rfl rfl fun a0 hfr0 => ?_
 have hst0 := zW hA (zBS hr (by simp [Res.blocks, zj]))
 have hM : MLe m m := MLe.refl m
 have hNTs : ∀ q ∈ [r], Zx q := fun q hq => by rw [List.mem_singleton] at hq; rw [hq]; exact hNT
 have hce := zr t
 have hbe := Zi t
 have hln := hL.here.lens
 refine zB fun _ hK1 => ?_
 replace hst0 := hst0.more (r := .free) trivial List.nodup_nil (by simp [Res.blocks])
 refine ra0 (tch := [(1, 1, (fun v => .blk v _))]) hst0 hfr0 (.cons rfl (zv rfl rfl) <| .consT rfl rfl (fun _ => rfl) rfl (zQ zeroValue46 rfl) <| .nil) fun a1 w1 m1 hst1 hle1 hk1 => ?_
 have hfr1 := hk1.fr (.o 0 <| .nil)
 obtain ⟨g2, e2, hc3⟩ := hk1.ex 3 rfl
 replace hfr1 := hfr1.cons e2
 obtain ⟨g3, e3, _⟩ := hk1.ex 4 rfl
 replace hfr1 := hfr1.cons e3
 replace hst1 := hst1.fin (L' := [_, _]) (.cons e3 <| .nil)
 replace h_t := h_t.mono hle1
 replace hkk_t := hkk_t.mono hle1
 replace haa_t := haa_t.mono hle1
 replace hrr_t := hrr_t.mono hle1
 replace hM := hM.trans hle1
 clear hst0 hfr0 hk1
 refine hK1 _ _ ?_
 refine zB fun _ hK4 => ?_
 refine zB fun _ hK5 => ?_
 refine rp0 hst1 hfr1 (.cons rfl (zA (off := 0) rfl underlying33 rfl rfl sizeOf3 rfl) <| .cons rfl (zE rfl hc3 isAgg3 rfl) <| .nil) fun a2 w2 m2 hst2 hle2 hk2 => ?_
 have hfr2 := hk2.fr (.o 0 <| .o 3 <| .o 4 <| .n 19 <| .nil)
 replace h_t := h_t.mono hle2
 replace hkk_t := hkk_t.mono hle2
 replace haa_t := haa_t.mono hle2
 replace hrr_t := hrr_t.mono hle2
 replace hc3 := hc3.mono hle2
 replace hM := hM.trans hle2
 clear hst1 hfr1 hk2
 refine hK5 _ _ ?_
 refine zN ?_
 refine zB fun _ hK6 => ?_
 refine rp0 hst2 hfr2 (.cons rfl (zV rfl rfl) <| .cons rfl (zC rfl) <| .nil) fun a3 w3 m3 hst3 hle3 hk3 => ?_
 have hfr3 := hk3.fr (.o 0 <| .o 3 <| .o 4 <| .o 19 <| .n 20 <| .nil)
 replace h_t := h_t.mono hle3
 replace hkk_t := hkk_t.mono hle3
 replace haa_t := haa_t.mono hle3
 replace hrr_t := hrr_t.mono hle3
 replace hc3 := hc3.mono hle3
 replace hM := hM.trans hle3
 clear hst2 hfr2 hk3
 refine hK6 _ _ ?_
 refine zG hfr3 rfl rfl (fun hb20 => ?_) (fun hb20 => ?_)
 ·try simp only [nqs] at hb20
  have hbd := body7 (sel := sel) (tl := tl) (g := (zT sel tl f)) (t := t) (n := n) hb20
  refine zB fun _ hK7 => ?_
  obtain ⟨p8, vs8, x8, ho8, hd8, hm_x8, ht8, hcv8, hl8, hv8⟩ := hkk_t.nth (k := 0) (by omega)
  cases ho8
  obtain ⟨⟨oK8, cK8, oA8, cA8, oR8, cR8, t08, t18, t28, t38, t48, t58, u08, u18, u28, u38, u48, u58⟩, rfl, hon8, hkk8, haa8, hrr8⟩ := hv8.open_
  dsimp only at hkk8 haa8 hrr8
  have hbg8 := hkk8.big; have hcp8 := hkk8.cap; have hbh8 := haa8.big; have hcq8 := haa8.cap
  have hk0 : kid t 0 = x8 := Zr hd8
  obtain ⟨p9, vs9, x9, ho9, hd9, hm_x9, ht9, hcv9, hl9, hv9⟩ := hkk_t.nth (k := 1) (by omega)
  cases ho9
  obtain ⟨⟨oK9, cK9, oA9, cA9, oR9, cR9, t09, t19, t29, t39, t49, t59, u09, u19, u29, u39, u49, u59⟩, rfl, hon9, hkk9, haa9, hrr9⟩ := hv9.open_
  dsimp only at hkk9 haa9 hrr9
  have hbg9 := hkk9.big; have hcp9 := hkk9.cap; have hbh9 := haa9.big; have hcq9 := haa9.cap
  have hk1 : kid t 1 = x9 := Zr hd9
  have hba := Zc hm_x8; have hbb := Zc hm_x9
  have hca := ZH hm_x8; have hcb := ZH hm_x9
  have hc2 : zP x8 + zP x9 = zR t.kids := by rw [← List.drop_zero (l := t.kids), hd8, zR]; rw [hd9, zR, List.drop_of_length_le (by omega), zR]; omega
  have hga := zBc sel tl f x8 n (hL.kid hm_x8) (by omega)
  replace hst3 := hst3.more (r := .free) trivial List.nodup_nil (by simp [Res.blocks])
  replace hst3 := hst3.more (r := .free) trivial List.nodup_nil (by simp [Res.blocks])
  refine zz (tch := [(5, 0, (fun _ => .blk (.pointer (some ⟨r, 0, none⟩)) (.cells #[.bool sel, .bool tl, .int .i64 ((((zT sel tl f) x8 (n)).2 : Nat) : Int)] 75))), (11, 0, (fun _ => .blk (.pointer (some ⟨r, 0, none⟩)) (.cells #[.bool sel, .bool tl, .int .i64 ((((zT sel tl f) x9 (((zT sel tl f) x8 n).2)).2 : Nat) : Int)] 75))), (12, 2, (fun v => .blk v _)), (13, 3, (fun v => .blk v _)), (14, 2, (fun v => .blkx v _ _)), (15, 3, (fun v => .blkx v _ _))]) (fun _ => mixed) hst3 hfr3 (by kernel_rfl) (by kernel_rfl) (by kernel_rfl) (.cons rfl (zD rfl) <| .cons rfl (zA (off := 5) rfl underlying33 rfl rfl sizeOf24 rfl) <| .cons rfl (zE rfl hc3 isAgg24 rfl) <| .cons rfl (zH (k := 0) rfl rfl underlying24 sizeOf33 rfl (by omega)) <| .cons rfl (zO rfl hcv8 isAgg33 sizeOf33 rfl rfl) <| .consT rfl rfl (fun _ => rfl) rfl (Za rfl (.cons rfl <| .cons rfl <| .nil) call31 (κ := .ex (MP.cd ((zT sel tl f) x8 (n)).1)) (fun σ w m hK hr hkn => by have hle_ := KC.le hK; have hA := KC.agree hK; have hM := hM.trans hle_; have h_t := h_t.mono hle_; have hkk_t := hkk_t.mono hle_; have haa_t := haa_t.mono hle_; have hrr_t := hrr_t.mono hle_; have hc3 := hc3.mono hle_; have hcv8 := hcv8.mono hle_; have hv8 := hv8.mono hle_; have hkk8 := hkk8.mono hle_; have haa8 := haa8.mono hle_; have hrr8 := hrr8.mono hle_; have hcv9 := hcv9.mono hle_; have hv9 := hv9.mono hle_; have hkk9 := hkk9.mono hle_; have haa9 := haa9.mono hle_; have hrr9 := hrr9.mono hle_; have hT := ZO hT hK.st.ext hNTs; exact zAk ih hA hr hv8 hT (hL.kid hm_x8) (by omega) (by omega) (by omega) hNT)) <| .cons rfl (zD rfl) <| .cons rfl (zA (off := 5) rfl underlying33 rfl rfl sizeOf24 rfl) <| .cons rfl (zE rfl hc3 isAgg24 rfl) <| .cons rfl (zH (k := 1) rfl rfl underlying24 sizeOf33 rfl (by omega)) <| .cons rfl (zO rfl hcv9 isAgg33 sizeOf33 rfl rfl) <| .consT rfl rfl (fun _ => rfl) rfl (Za rfl (.cons rfl <| .cons rfl <| .nil) call31 (κ := .ex (MP.cd ((zT sel tl f) x9 (((zT sel tl f) x8 n).2)).1)) (fun σ w m hK hr hkn => by have hle_ := KC.le hK; have hA := KC.agree hK; have hM := hM.trans hle_; have h_t := h_t.mono hle_; have hkk_t := hkk_t.mono hle_; have haa_t := haa_t.mono hle_; have hrr_t := hrr_t.mono hle_; have hc3 := hc3.mono hle_; have hcv8 := hcv8.mono hle_; have hv8 := hv8.mono hle_; have hkk8 := hkk8.mono hle_; have haa8 := haa8.mono hle_; have hrr8 := hrr8.mono hle_; have hcv9 := hcv9.mono hle_; have hv9 := hv9.mono hle_; have hkk9 := hkk9.mono hle_; have haa9 := haa9.mono hle_; have hrr9 := hrr9.mono hle_; have hT := ZO hT hK.st.ext hNTs; exact zAk ih hA hr hv9 hT (hL.kid hm_x9) (by omega) (by omega) (by omega) hNT)) <| .consT rfl rfl (fun _ => rfl) rfl (zQ zeroValue46 rfl) <| .consT rfl rfl (fun _ => rfl) rfl (zQ zeroValue46 rfl) <| .consT rfl rfl (fun _ => rfl) rfl (zU 5 rfl rfl rfl fun y5 => ZJ 27 rfl rfl rfl fun y27 => Zj rfl rfl rfl rfl rfl sizeOf46 rfl rfl (fun w m hK => hK.2.one)) <| .consT rfl rfl (fun _ => rfl) rfl (zU 6 rfl rfl rfl fun y6 => ZJ 33 rfl rfl rfl fun y33 => Zj rfl rfl rfl rfl rfl sizeOf46 rfl rfl (fun w m hK => hK.2.one)) <| .nil) fun a4 w4 m4 hst4 hle4 hk4 => ?_
  have hfr4 := hk4.fr (.o 0 <| .o 3 <| .o 4 <| .nil)
  obtain ⟨y10, e10, hy10⟩ := hk4.ex 27 rfl
  obtain ⟨y11, e11, hy11⟩ := hk4.ex 33 rfl
  obtain ⟨g12, e12, _⟩ := hk4.ex 5 rfl
  replace hfr4 := hfr4.cons e12
  obtain ⟨g13, e13, _⟩ := hk4.ex 6 rfl
  replace hfr4 := hfr4.cons e13
  replace hst4 := hst4.fin (L' := [_, _, _, _]) (.cons e10 <| .cons e11 <| .cons e12 <| .cons e13 <| .cons e12 <| .cons e13 <| .nil)
  try simp only [List.take_succ_cons, List.take_zero, List.drop_succ_cons, List.drop_zero, List.cons_append, List.nil_append, List.append_nil, List.length_cons, List.length_nil, Nat.zero_add, Nat.reduceAdd] at hst4
  obtain ⟨ya9, hya9, hst4⟩ := hst4.unx (k := 2) rfl (fun _ => rfl)
  obtain ⟨yb9, hyb9, hst4⟩ := hst4.unx (k := 3) rfl (fun _ => rfl)
  clear hst3 hfr3 hk4
  refine hK7 _ _ ?_
  refine zB fun _ hK16 => ?_
  replace h_t := h_t.mono hle4
  replace hkk_t := hkk_t.mono hle4
  replace haa_t := haa_t.mono hle4
  replace hrr_t := hrr_t.mono hle4
  replace hc3 := hc3.mono hle4
  replace hcv8 := hcv8.mono hle4
  replace hv8 := hv8.mono hle4
  replace hkk8 := hkk8.mono hle4
  replace haa8 := haa8.mono hle4
  replace hrr8 := hrr8.mono hle4
  replace hcv9 := hcv9.mono hle4
  replace hv9 := hv9.mono hle4
  replace hkk9 := hkk9.mono hle4
  replace haa9 := haa9.mono hle4
  replace hrr9 := hrr9.mono hle4
  replace hM := hM.trans hle4
  refine zz (tch := [(5, 0, (fun _ => .blk (.pointer (some ⟨r, 0, none⟩)) (.cells #[.bool sel, .bool tl, .int .i64 ((((zT sel tl f) x9 ((zT sel tl f) x8 n).2).2 : Nat) : Int)] 75))), (12, 1, (fun _ => .blkx _ _ _))]) (fun _ => mixed) hst4 hfr4 (by kernel_rfl) (by kernel_rfl) (by kernel_rfl) (.cons rfl (zD rfl) <| .cons rfl (zA (off := 5) rfl underlying33 rfl rfl sizeOf24 rfl) <| .cons rfl (zE rfl hc3 isAgg24 rfl) <| .cons rfl (zH (k := 0) rfl rfl underlying24 sizeOf33 rfl (by omega)) <| .cons rfl (zO rfl hcv8 isAgg33 sizeOf33 rfl rfl) <| .consT rfl rfl (fun _ => rfl) rfl (Za rfl (.cons rfl <| .cons rfl <| .nil) call38 (κ := .eq (.int .i64 (Zz sel x8))) (fun σ w m hK hr hkn => by have hle_ := KC.le hK; have hA := KC.agree hK; have hM := hM.trans hle_; have h_t := h_t.mono hle_; have hkk_t := hkk_t.mono hle_; have haa_t := haa_t.mono hle_; have hrr_t := hrr_t.mono hle_; have hc3 := hc3.mono hle_; have hcv8 := hcv8.mono hle_; have hv8 := hv8.mono hle_; have hkk8 := hkk8.mono hle_; have haa8 := haa8.mono hle_; have hrr8 := hrr8.mono hle_; have hcv9 := hcv9.mono hle_; have hv9 := hv9.mono hle_; have hkk9 := hkk9.mono hle_; have haa9 := haa9.mono hle_; have hrr9 := hrr9.mono hle_; have hya9 := hya9.mono hle_; have hyb9 := hyb9.mono hle_; have hT := ZO hT hK.st.ext hNTs; exact binds_t hA hr hv8 (by omega))) <| .cons rfl (zA (off := 2) rfl underlying33 rfl rfl sizeOf9 rfl) <| .cons rfl (zE rfl hc3 isAgg9 rfl) <| .cons rfl (zd (j := 2) rfl rfl isAgg46 sizeOf46 rfl) <| .cons rfl (zd (j := 3) rfl rfl isAgg46 sizeOf46 rfl) <| .cons rfl (Z4 rfl rfl underlying43 sizeOf46 zeroValue46 rfl rfl rfl rfl rfl) <| .cons rfl (zh 44 rfl rfl rfl fun y44 => zq (.cons rfl <| .cons rfl <| .cons rfl <| .nil) underlying46 zeroValue46 (.cons sizeOf3 <| .cons sizeOf9 <| .cons sizeOf9 <| .cons sizeOf3 <| .cons sizeOf43 <| .cons sizeOf44 <| .nil) rfl) <| .consT rfl rfl (fun _ => rfl) rfl (ZJ 45 rfl rfl rfl fun y45 => za rfl rfl rfl sizeOf46 rfl rfl rfl) <| .nil) fun a5 w5 m5 hst5 hle5 hk5 => ?_
  have hfr5 := hk5.fr (.o 4 <| .nil)
  replace hst5 := hst5.fin (L' := [_, _, _, _]) (.cons rfl <| .cons rfl <| .nil)
  try simp only [List.take_succ_cons, List.take_zero, List.drop_succ_cons, List.drop_zero, List.cons_append, List.nil_append, List.append_nil, List.length_cons, List.length_nil, Nat.zero_add, Nat.reduceAdd] at hst5
  obtain ⟨g44, h44, hst5⟩ := hst5.unx (k := 1) rfl (fun _ => rfl)
  clear hst4 hfr4 hk5
  refine hK16 _ _ ?_
  refine zK ?_
  repeat (with_reducible first | refine zI ?_ | refine zF ?_)
  replace hya9 := hya9.mono hle5
  replace hyb9 := hyb9.mono hle5
  exact zL hst5 hfr5 rfl (.cell rfl (zn (zl (hst5.loc.at_ (k := 1) rfl)) isAgg46 sizeOf46) <| .nil) (⟨by rw [hbd, hk0, hk1]; exact (hst5.take 1).loc, ⟨_, _, none, 0⟩, by rw [hbd, hk0, hk1]; rfl, by rw [hbd, hk0, hk1]; exact cd2_R (by exact h44) hya9 hyb9⟩)
 ·try simp only [nqs] at hb20
  refine zB fun _ hK19 => ?_
  refine rp0 hst3 hfr3 (.cons rfl (zV rfl rfl) <| .cons rfl (zC rfl) <| .nil) fun a4 w4 m4 hst4 hle4 hk4 => ?_
  have hfr4 := hk4.fr (.o 0 <| .o 3 <| .o 4 <| .o 19 <| .n 46 <| .nil)
  clear hst3 hfr3 hk4
  refine hK19 _ _ ?_
  refine zG hfr4 rfl rfl (fun hb46 => ?_) (fun hb46 => ?_)
  ·try simp only [nqs] at hb46
   have hbd := body8 (sel := sel) (tl := tl) (g := (zT sel tl f)) (t := t) (n := n) hb46
   refine zB fun _ hK20 => ?_
   replace hkk_t := hkk_t.mono hle4
   obtain ⟨p21, vs21, x21, ho21, hd21, hm_x21, ht21, hcv21, hl21, hv21⟩ := hkk_t.nth (k := 0) (by omega)
   cases ho21
   obtain ⟨⟨oK21, cK21, oA21, cA21, oR21, cR21, t021, t121, t221, t321, t421, t521, u021, u121, u221, u321, u421, u521⟩, rfl, hon21, hkk21, haa21, hrr21⟩ := hv21.open_
   dsimp only at hkk21 haa21 hrr21
   have hbg21 := hkk21.big; have hcp21 := hkk21.cap; have hbh21 := haa21.big; have hcq21 := haa21.cap
   have hk0 : kid t 0 = x21 := Zr hd21
   obtain ⟨p22, vs22, x22, ho22, hd22, hm_x22, ht22, hcv22, hl22, hv22⟩ := hkk_t.nth (k := 1) (by omega)
   cases ho22
   obtain ⟨⟨oK22, cK22, oA22, cA22, oR22, cR22, t022, t122, t222, t322, t422, t522, u022, u122, u222, u322, u422, u522⟩, rfl, hon22, hkk22, haa22, hrr22⟩ := hv22.open_
   dsimp only at hkk22 haa22 hrr22
   have hbg22 := hkk22.big; have hcp22 := hkk22.cap; have hbh22 := haa22.big; have hcq22 := haa22.cap
   have hk1 : kid t 1 = x22 := Zr hd22
   have hba := Zc hm_x21; have hbb := Zc hm_x22
   have hca := ZH hm_x21; have hcb := ZH hm_x22
   have hc2 : zP x21 + zP x22 = zR t.kids := by rw [← List.drop_zero (l := t.kids), hd21, zR]; rw [hd22, zR, List.drop_of_length_le (by omega), zR]; omega
   have hga := zBc sel tl f x21 n (hL.kid hm_x21) (by omega)
   replace hst4 := hst4.more (r := .free) trivial List.nodup_nil (by simp [Res.blocks])
   replace hst4 := hst4.more (r := .free) trivial List.nodup_nil (by simp [Res.blocks])
   replace h_t := h_t.mono hle4
   replace haa_t := haa_t.mono hle4
   replace hrr_t := hrr_t.mono hle4
   replace hc3 := hc3.mono hle4
   replace hM := hM.trans hle4
   refine zz (tch := [(5, 0, (fun _ => .blk (.pointer (some ⟨r, 0, none⟩)) (.cells #[.bool sel, .bool tl, .int .i64 ((((zT sel tl f) x21 (n)).2 : Nat) : Int)] 75))), (11, 0, (fun _ => .blk (.pointer (some ⟨r, 0, none⟩)) (.cells #[.bool sel, .bool tl, .int .i64 ((((zT sel tl f) x22 (((zT sel tl f) x21 n).2)).2 : Nat) : Int)] 75))), (12, 2, (fun v => .blk v _)), (13, 3, (fun v => .blk v _)), (14, 2, (fun v => .blkx v _ _)), (15, 3, (fun v => .blkx v _ _))]) (fun _ => mixed) hst4 hfr4 (by kernel_rfl) (by kernel_rfl) (by kernel_rfl) (.cons rfl (zD rfl) <| .cons rfl (zA (off := 5) rfl underlying33 rfl rfl sizeOf24 rfl) <| .cons rfl (zE rfl hc3 isAgg24 rfl) <| .cons rfl (zH (k := 0) rfl rfl underlying24 sizeOf33 rfl (by omega)) <| .cons rfl (zO rfl hcv21 isAgg33 sizeOf33 rfl rfl) <| .consT rfl rfl (fun _ => rfl) rfl (Za rfl (.cons rfl <| .cons rfl <| .nil) call31 (κ := .ex (MP.cd ((zT sel tl f) x21 (n)).1)) (fun σ w m hK hr hkn => by have hle_ := KC.le hK; have hA := KC.agree hK; have hM := hM.trans hle_; have h_t := h_t.mono hle_; have hkk_t := hkk_t.mono hle_; have haa_t := haa_t.mono hle_; have hrr_t := hrr_t.mono hle_; have hc3 := hc3.mono hle_; have hcv21 := hcv21.mono hle_; have hv21 := hv21.mono hle_; have hkk21 := hkk21.mono hle_; have haa21 := haa21.mono hle_; have hrr21 := hrr21.mono hle_; have hcv22 := hcv22.mono hle_; have hv22 := hv22.mono hle_; have hkk22 := hkk22.mono hle_; have haa22 := haa22.mono hle_; have hrr22 := hrr22.mono hle_; have hT := ZO hT hK.st.ext hNTs; exact zAk ih hA hr hv21 hT (hL.kid hm_x21) (by omega) (by omega) (by omega) hNT)) <| .cons rfl (zD rfl) <| .cons rfl (zA (off := 5) rfl underlying33 rfl rfl sizeOf24 rfl) <| .cons rfl (zE rfl hc3 isAgg24 rfl) <| .cons rfl (zH (k := 1) rfl rfl underlying24 sizeOf33 rfl (by omega)) <| .cons rfl (zO rfl hcv22 isAgg33 sizeOf33 rfl rfl) <| .consT rfl rfl (fun _ => rfl) rfl (Za rfl (.cons rfl <| .cons rfl <| .nil) call31 (κ := .ex (MP.cd ((zT sel tl f) x22 (((zT sel tl f) x21 n).2)).1)) (fun σ w m hK hr hkn => by have hle_ := KC.le hK; have hA := KC.agree hK; have hM := hM.trans hle_; have h_t := h_t.mono hle_; have hkk_t := hkk_t.mono hle_; have haa_t := haa_t.mono hle_; have hrr_t := hrr_t.mono hle_; have hc3 := hc3.mono hle_; have hcv21 := hcv21.mono hle_; have hv21 := hv21.mono hle_; have hkk21 := hkk21.mono hle_; have haa21 := haa21.mono hle_; have hrr21 := hrr21.mono hle_; have hcv22 := hcv22.mono hle_; have hv22 := hv22.mono hle_; have hkk22 := hkk22.mono hle_; have haa22 := haa22.mono hle_; have hrr22 := hrr22.mono hle_; have hT := ZO hT hK.st.ext hNTs; exact zAk ih hA hr hv22 hT (hL.kid hm_x22) (by omega) (by omega) (by omega) hNT)) <| .consT rfl rfl (fun _ => rfl) rfl (zQ zeroValue46 rfl) <| .consT rfl rfl (fun _ => rfl) rfl (zQ zeroValue46 rfl) <| .consT rfl rfl (fun _ => rfl) rfl (zU 7 rfl rfl rfl fun y7 => ZJ 53 rfl rfl rfl fun y53 => Zj rfl rfl rfl rfl rfl sizeOf46 rfl rfl (fun w m hK => hK.2.one)) <| .consT rfl rfl (fun _ => rfl) rfl (zU 8 rfl rfl rfl fun y8 => ZJ 59 rfl rfl rfl fun y59 => Zj rfl rfl rfl rfl rfl sizeOf46 rfl rfl (fun w m hK => hK.2.one)) <| .nil) fun a5 w5 m5 hst5 hle5 hk5 => ?_
   have hfr5 := hk5.fr (.o 3 <| .o 4 <| .nil)
   obtain ⟨y23, e23, hy23⟩ := hk5.ex 53 rfl
   obtain ⟨y24, e24, hy24⟩ := hk5.ex 59 rfl
   obtain ⟨g25, e25, _⟩ := hk5.ex 7 rfl
   replace hfr5 := hfr5.cons e25
   obtain ⟨g26, e26, _⟩ := hk5.ex 8 rfl
   replace hfr5 := hfr5.cons e26
   replace hst5 := hst5.fin (L' := [_, _, _, _]) (.cons e23 <| .cons e24 <| .cons e25 <| .cons e26 <| .cons e25 <| .cons e26 <| .nil)
   try simp only [List.take_succ_cons, List.take_zero, List.drop_succ_cons, List.drop_zero, List.cons_append, List.nil_append, List.append_nil, List.length_cons, List.length_nil, Nat.zero_add, Nat.reduceAdd] at hst5
   obtain ⟨ya9, hya9, hst5⟩ := hst5.unx (k := 2) rfl (fun _ => rfl)
   obtain ⟨yb9, hyb9, hst5⟩ := hst5.unx (k := 3) rfl (fun _ => rfl)
   clear hst4 hfr4 hk5
   refine hK20 _ _ ?_
   refine zB fun _ hK29 => ?_
   refine zu 7 (by kernel_rfl) ?_
   replace hc3 := hc3.mono hle5
   refine zm (tch := []) hst5 hfr5 (by kernel_rfl) (by kernel_rfl) (by kernel_rfl) (.cons rfl (zA (off := 2) rfl underlying33 rfl rfl sizeOf9 rfl) <| .cons rfl (zE rfl hc3 isAgg9 rfl) <| .cons rfl (zA (off := 3) rfl underlying33 rfl rfl sizeOf9 rfl) <| .cons rfl (zE rfl hc3 isAgg9 rfl) <| .cons rfl (zd (j := 2) rfl rfl isAgg46 sizeOf46 rfl) <| .cons rfl (zd (j := 3) rfl rfl isAgg46 sizeOf46 rfl) <| .cons rfl (Z4 rfl rfl underlying43 sizeOf46 zeroValue46 rfl rfl rfl rfl rfl) <| .nil) fun a6 w6 m6 hst6 hle6 hk6 => ?_
   have hfr6 := hk6.fr (.o 3 <| .o 4 <| .o 7 <| .o 8 <| .n 61 <| .n 63 <| .nil)
   obtain ⟨g66, e30, h66⟩ := hk6.ex 66 rfl
   replace hfr6 := hfr6.cons e30
   clear hst5 hfr5 hk6
   refine zm (tch := [(1, 1, (fun _ => .blk _ _))]) hst6 hfr6 (by kernel_rfl) (by kernel_rfl) (by kernel_rfl) (.cons rfl (zq (.cons rfl <| .cons rfl <| .cons rfl <| .cons rfl <| .nil) underlying46 zeroValue46 (.cons sizeOf3 <| .cons sizeOf9 <| .cons sizeOf9 <| .cons sizeOf3 <| .cons sizeOf43 <| .cons sizeOf44 <| .nil) rfl) <| .consT rfl rfl (fun _ => rfl) rfl (za rfl rfl rfl sizeOf46 rfl rfl rfl) <| .nil) fun a7 w7 m7 hst7 hle7 hk7 => ?_
   have hfr7 := hk7.fr (.o 3 <| .o 4 <| .o 7 <| .o 8 <| .o 61 <| .o 63 <| .o 66 <| .nil)
   replace hst7 := hst7.fin (L' := [_, _, _, _]) (.cons rfl <| .nil)
   try simp only [List.take_succ_cons, List.take_zero, List.drop_succ_cons, List.drop_zero, List.cons_append, List.nil_append, List.append_nil, List.length_cons, List.length_nil, Nat.zero_add, Nat.reduceAdd] at hst7
   clear hst6 hfr6 hk7
   refine hK29 _ _ ?_
   refine zK ?_
   repeat (with_reducible first | refine zI ?_ | refine zF ?_)
   have zq1 := hle6.trans hle7
   replace hya9 := hya9.mono zq1
   replace hyb9 := hyb9.mono zq1
   replace h66 := h66.mono hle7
   exact zL hst7 hfr7 rfl (.cell rfl (zn (zl (hst7.loc.at_ (k := 1) rfl)) isAgg46 sizeOf46) <| .nil) (⟨by rw [hbd, hk0, hk1]; exact (hst7.take 1).loc, ⟨_, _, none, 0⟩, by rw [hbd, hk0, hk1]; rfl, by rw [hbd, hk0, hk1]; exact cd2_R h66 hya9 hyb9⟩)
  ·try simp only [nqs] at hb46
   refine zB fun _ hK32 => ?_
   refine rp0 hst4 hfr4 (.cons rfl (zV rfl rfl) <| .cons rfl (zC rfl) <| .nil) fun a5 w5 m5 hst5 hle5 hk5 => ?_
   have hfr5 := hk5.fr (.o 0 <| .o 3 <| .o 4 <| .n 68 <| .nil)
   clear hst4 hfr4 hk5
   refine hK32 _ _ ?_
   refine zG hfr5 rfl rfl (fun hb68 => ?_) (fun hb68 => ?_)
   ·try simp only [nqs] at hb68
    refine zB fun _ hK33 => ?_
    refine zu 3 (by kernel_rfl) ?_
    have zq2 := hle4.trans hle5
    replace h_t := h_t.mono zq2
    replace hkk_t := hkk_t.mono zq2
    replace haa_t := haa_t.mono zq2
    replace hrr_t := hrr_t.mono zq2
    replace hc3 := hc3.mono zq2
    replace hM := hM.trans zq2
    refine zm (tch := [(2, 0, (fun _ => .blk (.pointer (some ⟨r, 0, none⟩)) (.cells #[.bool sel, .bool tl, .int .i64 (((ZS sel tl (zT sel tl f) t n).2 : Nat) : Int)] 75)))]) hst5 hfr5 (by kernel_rfl) (by kernel_rfl) (by kernel_rfl) (.cons rfl (zD rfl) <| .cons rfl (zO rfl hc3 isAgg33 sizeOf33 rfl rfl) <| .consT rfl rfl (fun _ => rfl) rfl (Za rfl (.cons rfl <| .cons rfl <| .nil) call39 (κ := .ex (MP.cd (ZS sel tl (zT sel tl f) t n).1)) (fun σ w m hK hr hkn => by have hle_ := KC.le hK; have hA := KC.agree hK; have hM := hM.trans hle_; have h_t := h_t.mono hle_; have hkk_t := hkk_t.mono hle_; have haa_t := haa_t.mono hle_; have hrr_t := hrr_t.mono hle_; have hc3 := hc3.mono hle_; have hT := ZO hT hK.st.ext hNTs; exact prompt_t ih hA hr h_t hT hb68 hL hf hbk hnb hNT)) <| .nil) fun a6 w6 m6 hst6 hle6 hk6 => ?_
    have hfr6 := hk6.fr (.o 0 <| .o 3 <| .o 4 <| .nil)
    obtain ⟨yp, e34, hyp⟩ := hk6.ex 72 rfl
    replace hfr6 := hfr6.cons e34
    replace hst6 := hst6.fin (L' := [_, _]) (.cons e34 <| .nil)
    clear hst5 hfr5 hk6
    refine zm (tch := [(0, 1, (fun _ => .blk _ _))]) hst6 hfr6 (by kernel_rfl) (by kernel_rfl) (by kernel_rfl) (.consT rfl rfl (fun _ => rfl) rfl (za rfl rfl rfl sizeOf46 rfl rfl rfl) <| .nil) fun a7 w7 m7 hst7 hle7 hk7 => ?_
    have hfr7 := hk7.fr (.o 0 <| .o 3 <| .o 4 <| .o 72 <| .nil)
    replace hst7 := hst7.fin (L' := [_, _]) (.cons rfl <| .nil)
    try simp only [List.take_succ_cons, List.take_zero, List.drop_succ_cons, List.drop_zero, List.cons_append, List.nil_append, List.append_nil, List.length_cons, List.length_nil, Nat.zero_add, Nat.reduceAdd] at hst7
    clear hst6 hfr6 hk7
    refine hK33 _ _ ?_
    refine zK ?_
    repeat (with_reducible first | refine zI ?_ | refine zF ?_)
    replace hyp := hyp.mono hle7
    exact zL hst7 hfr7 rfl (.cell rfl (zn (zl (hst7.loc.at_ (k := 1) rfl)) isAgg46 sizeOf46) <| .nil) (⟨(hst7.take 1).loc, yp, rfl, hyp⟩)
   ·try simp only [nqs] at hb68
    refine zJ ?_
    refine hK4 _ _ ?_
    refine zB fun _ hK36 => ?_
    refine zB fun _ hK37 => ?_
    have zq3 := hle4.trans hle5
    replace h_t := h_t.mono zq3
    replace hc3 := hc3.mono zq3
    refine rp0 hst5 hfr5 (.cons rfl (zO rfl hc3 isAgg33 sizeOf33 rfl rfl) <| .cons rfl (zc rfl (.cons rfl <| .nil) call40 (fun w m hK => by have hle_ := KC.le hK; have hA := KC.agree hK; have h_t := h_t.mono hle_; exact light_c (t := t) hA h_t)) <| .nil) fun a6 w6 m6 hst6 hle6 hk6 => ?_
    have hfr6 := hk6.fr (.o 0 <| .o 3 <| .o 4 <| .n 74 <| .nil)
    clear hst5 hfr5 hk6
    refine hK37 _ _ ?_
    refine zG hfr6 rfl rfl (fun hb74 => ?_) (fun hb74 => ?_)
    ·try simp only [nqs] at hb74
     refine zB fun _ hK38 => ?_
     refine zu 3 (by kernel_rfl) ?_
     have zq4 := zq3.trans hle6
     replace hkk_t := hkk_t.mono zq4
     replace haa_t := haa_t.mono zq4
     replace hrr_t := hrr_t.mono zq4
     replace hM := hM.trans zq4
     replace h_t := h_t.mono hle6
     replace hc3 := hc3.mono hle6
     refine zm (tch := [(2, 0, (fun _ => .blk (.pointer (some ⟨r, 0, none⟩)) (.cells #[.bool sel, .bool tl, .int .i64 (((ZS sel tl (zT sel tl f) t n).2 : Nat) : Int)] 75)))]) hst6 hfr6 (by kernel_rfl) (by kernel_rfl) (by kernel_rfl) (.cons rfl (zD rfl) <| .cons rfl (zO rfl hc3 isAgg33 sizeOf33 rfl rfl) <| .consT rfl rfl (fun _ => rfl) rfl (Za rfl (.cons rfl <| .cons rfl <| .nil) call41 (κ := .ex (MP.cd (ZS sel tl (zT sel tl f) t n).1)) (fun σ w m hK hr hkn => by have hle_ := KC.le hK; have hA := KC.agree hK; have hM := hM.trans hle_; have h_t := h_t.mono hle_; have hkk_t := hkk_t.mono hle_; have haa_t := haa_t.mono hle_; have hrr_t := hrr_t.mono hle_; have hc3 := hc3.mono hle_; have hT := ZO hT hK.st.ext hNTs; exact atom_t ih hA hr h_t hT hb74 hL hf hbk hnb hNT)) <| .nil) fun a7 w7 m7 hst7 hle7 hk7 => ?_
     have hfr7 := hk7.fr (.o 0 <| .o 3 <| .o 4 <| .nil)
     obtain ⟨yp, e39, hyp⟩ := hk7.ex 77 rfl
     replace hfr7 := hfr7.cons e39
     replace hst7 := hst7.fin (L' := [_, _]) (.cons e39 <| .nil)
     clear hst6 hfr6 hk7
     refine zm (tch := [(0, 1, (fun _ => .blk _ _))]) hst7 hfr7 (by kernel_rfl) (by kernel_rfl) (by kernel_rfl) (.consT rfl rfl (fun _ => rfl) rfl (za rfl rfl rfl sizeOf46 rfl rfl rfl) <| .nil) fun a8 w8 m8 hst8 hle8 hk8 => ?_
     have hfr8 := hk8.fr (.o 0 <| .o 3 <| .o 4 <| .o 77 <| .nil)
     replace hst8 := hst8.fin (L' := [_, _]) (.cons rfl <| .nil)
     try simp only [List.take_succ_cons, List.take_zero, List.drop_succ_cons, List.drop_zero, List.cons_append, List.nil_append, List.append_nil, List.length_cons, List.length_nil, Nat.zero_add, Nat.reduceAdd] at hst8
     clear hst7 hfr7 hk8
     refine hK38 _ _ ?_
     refine zK ?_
     repeat (with_reducible first | refine zI ?_ | refine zF ?_)
     replace hyp := hyp.mono hle8
     exact zL hst8 hfr8 rfl (.cell rfl (zn (zl (hst8.loc.at_ (k := 1) rfl)) isAgg46 sizeOf46) <| .nil) (⟨(hst8.take 1).loc, yp, rfl, hyp⟩)
    ·try simp only [nqs] at hb74
     refine zJ ?_
     refine hK36 _ _ ?_
     refine zB fun _ hK41 => ?_
     have hlt9 : ¬ ZU t = true := by simpa using hb74
     have hbd := bodyC (sel := sel) (tl := tl) (g := (zT sel tl f)) (t := t) (n := n) hb20 hb46 hb68 (fun h => hlt9 (by unfold ZU; rw [h]; rfl)) hlt9
     have hfl := from_le hL.here
     have htk9 : (t.kids.take (zp t)).length = zp t := by rw [List.length_take]; omega
     replace hc3 := hc3.mono hle6
     refine rp0 hst6 hfr6 (.cons rfl (zA (off := 0) rfl underlying33 rfl rfl sizeOf3 rfl) <| .cons rfl (zE rfl hc3 isAgg3 rfl) <| .cons rfl (zc rfl (.cons rfl <| .nil) call42 (fun w m hK => by have hle_ := KC.le hK; have hA := KC.agree hK; exact kinds_c (k := t.kind) hA)) <| .cons rfl (zD rfl) <| .cons rfl (zS rfl rfl) <| .cons rfl (zS rfl rfl) <| .cons rfl (zC rfl) <| .cons rfl (zC rfl) <| .nil) fun a7 w7 m7 hst7 hle7 hk7 => ?_
     have hfr7 := hk7.fr (.o 0 <| .o 3 <| .o 4 <| .n 9 <| .n 10 <| .nil)
     clear hst6 hfr6 hk7
     refine hK41 _ _ ?_
     refine zAt (T := [(0, _), (3, _), (4, _), (9, _)]) (fun (y : Int) => ([(10, .int .i64 y)] : List (Nat × Value))) (fun y => [_, _]) (fun (y : Int) m => (fun (nf : Int) => (nf = ((zp t : Nat) : Int))) y) ((zAD t.kind)) ⟨hst7, MLe.refl _, hfr7.sub (.c <| .c <| .c <| .c <| .c <| .nil), trivial⟩ (fun y a8 w8 m8 hh8 => ?_) (fun K42 hj42 => ?_)
     ·have hst8 := hh8.st; have hle8 := hh8.le; have hfr8 := hh8.fr; have hrel := hh8.rel; clear hh8
      clear hst7 hfr7
      obtain ⟨nf, rfl⟩ : ∃ z, z = y := ⟨_, rfl⟩
      try dsimp only at hrel
      try dsimp only at hfr8
      try dsimp only at hst8
      have hnf := hrel
      subst hnf
      refine zB fun _ hK43 => ?_
      replace hst8 := hst8.more (r := .free) trivial List.nodup_nil (by simp [Res.blocks])
      refine ra0 (tch := [(2, 2, (fun v => .blk v _)), (3, 2, (fun v => .blk v _))]) hst8 hfr8 (.cons rfl (zD rfl) <| .cons rfl (zq (.cons rfl <| .nil) underlying46 zeroValue46 (.cons sizeOf3 <| .cons sizeOf9 <| .cons sizeOf9 <| .cons sizeOf3 <| .cons sizeOf43 <| .cons sizeOf44 <| .nil) rfl) <| .consT rfl rfl (fun _ => rfl) rfl (zQ zeroValue46 rfl) <| .consT rfl rfl (fun _ => rfl) rfl (zU 11 rfl rfl rfl fun y11 => zb rfl rfl rfl rfl rfl sizeOf46 rfl rfl rfl) <| .nil) fun a9 w9 m9 hst9 hle9 hk9 => ?_
      have hfr9 := hk9.fr (.o 10 <| .o 0 <| .o 3 <| .o 4 <| .o 9 <| .nil)
      obtain ⟨g11, e44, _⟩ := hk9.ex 11 rfl
      replace hfr9 := hfr9.cons e44
      replace hst9 := hst9.fin (L' := [_, _, _]) (.cons e44 <| .cons e44 <| .nil)
      try simp only [List.take_succ_cons, List.take_zero, List.drop_succ_cons, List.drop_zero, List.cons_append, List.nil_append, List.append_nil, List.length_cons, List.length_nil, Nat.zero_add, Nat.reduceAdd] at hst9
      clear hst8 hfr8 hk9
      refine hK43 _ _ ?_
      refine zAt (T := [(10, _), (0, _), (3, _), (4, _), (11, _)]) (fun (y : Str) => ([] : List (Nat × Value))) (fun y => [_, _, .blk (.pointer (some ⟨g11, 0, none⟩)) (.cells (cdV ⟨zAs t.kind, y, [], 0, [], []⟩ ⟨none, 0, none, 0⟩).toArray 46)]) (fun (y : Str) m => (fun (nm : Str) => (nm = zDJ t)) y) ((([] : Str))) ⟨hst9, MLe.refl _, hfr9.sub (.c <| .c <| .c <| .c <| .c <| .nil), trivial⟩ (fun y a10 w10 m10 hh10 => ?_) (fun K45 hj45 => ?_)
      ·have hst10 := hh10.st; have hle10 := hh10.le; have hfr10 := hh10.fr; have hrel := hh10.rel; clear hh10
       clear hst9 hfr9
       obtain ⟨nm, rfl⟩ : ∃ z, z = y := ⟨_, rfl⟩
       try dsimp only at hrel
       try dsimp only at hfr10
       try dsimp only at hst10
       have hnm := hrel
       subst hnm
       refine zB fun _ hK46 => ?_
       refine zu 6 (by kernel_rfl) ?_
       refine ops_cut 5 (by kernel_rfl) ?_
       have zq5 := hle9.trans hle10
       have zq6 := hle8.trans zq5
       have zq7 := hle7.trans zq6
       have zq8 := hle6.trans zq7
       have zq9 := zq3.trans zq8
       replace hkk_t := hkk_t.mono zq9
       have hct47 : Tms _ _ _ _ ((t.kids.take (zp t)).drop (0)) := hkk_t.cut (l := 0) (k := zp t) (by omega) (by omega)
       have hcl47 : (zp t) - (0) = (((t.kids.take (zp t)).drop (0))).length := hct47.len.symm
       have hcu47 : Tms _ _ _ _ ((t.kids.take (zp t)).drop (0)) := hct47.lenL
       replace hc3 := hc3.mono zq7
       refine zm (tch := []) hst10 hfr10 (by kernel_rfl) (by kernel_rfl) (by kernel_rfl) (.cons rfl (zD rfl) <| .cons rfl (zA (off := 5) rfl underlying33 rfl rfl sizeOf24 rfl) <| .cons rfl (zE rfl hc3 isAgg24 rfl) <| .cons rfl (zD rfl) <| .cons rfl (zCd (l := 0) (h := zp t) rfl .none (.some rfl (by omega)) underlying24 sizeOf33 (by first | omega | (dsimp only; omega)) (by first | omega | (dsimp only; omega))) <| .nil) fun a11 w11 m11 hst11 hle11 hk11 => ?_
       have hfr11 := hk11.fr (.o 10 <| .o 0 <| .o 3 <| .o 4 <| .o 11 <| .n 105 <| .n 109 <| .nil)
       clear hst10 hfr10 hk11
       replace hct47 := hct47.mono hle11
       refine call_res [] [_, _] [_] hst11 hfr11 rfl (.cons rfl <| .cons rfl <| .nil) call43 (take_r ih hst11.agree (hst11.loc.at_ (k := 0) rfl) hct47 (ZO hT hst11.ext hNTs) (fun u hu => hL.kid (mem_cut hu)) (fun u hu => by have := ZH (mem_cut hu); omega) (fun u hu => by have := Zc (mem_cut hu); omega) (by rw [List.drop_zero]; have := zBI t.kids (zp t); omega) hNT) ?_
       intro vr12 w12 m12 rs12 hst12 hle12 hp12
       obtain ⟨o12, c12, o13, c13, rfl, hvq9, hta, htb⟩ := hp12
       simp only [List.nil_append, List.cons_append, List.drop_zero] at hst12
       rw [List.drop_zero] at hta htb
       have hfr12 := (hfr11.sub (T' := [(10, _), (0, _), (3, _), (4, _), (11, _), (105, _), (109, _)]) (.cons rfl <| .cons rfl <| .cons rfl <| .cons rfl <| .cons rfl <| .cons rfl <| .cons rfl <| .nil)).put (d := 110) (v := vr12) (by kernel_rfl) rfl
       clear hst11 hfr11
       subst hvq9
       refine zm (tch := []) hst12 hfr12 (by kernel_rfl) (by kernel_rfl) (by kernel_rfl) (.cons rfl (zD rfl) <| .cons rfl (zS rfl rfl) <| .cons rfl (zS rfl rfl) <| .cons rfl (zC rfl) <| .cons rfl (zC rfl) <| .nil) fun a13 w13 m13 hst13 hle13 hk13 => ?_
       have hfr13 := hk13.fr (.o 110 <| .o 10 <| .o 0 <| .o 3 <| .o 4 <| .o 11 <| .o 105 <| .o 109 <| .n 12 <| .n 13 <| .nil)
       clear hst12 hfr12 hk13
       rw [List.drop_zero] at hfr13
       refine hK46 _ _ ?_
       refine zB fun _ hK48 => ?_
       refine ra0 (tch := [(2, 3, (fun _ => .blk _ _))]) hst13 hfr13 (.cons rfl (zD rfl) <| .cons rfl (zA (off := 4) rfl underlying46 rfl rfl sizeOf43 rfl) <| .consT rfl rfl (fun _ => rfl) rfl (ZE rfl rfl rfl sizeOf43 rfl rfl rfl) <| .nil) fun a14 w14 m14 hst14 hle14 hk14 => ?_
       have hfr14 := hk14.fr (.o 10 <| .o 0 <| .o 3 <| .o 4 <| .o 11 <| .o 13 <| .nil)
       replace hst14 := hst14.fin (L' := [_, _, _, _]) (.cons rfl <| .nil)
       try simp only [List.take_succ_cons, List.take_zero, List.drop_succ_cons, List.drop_zero, List.cons_append, List.nil_append, List.append_nil, List.length_cons, List.length_nil, Nat.zero_add, Nat.reduceAdd] at hst14
       clear hst13 hfr13 hk14
       have hst14 := hst14.more (r := .rowx (.slice none 0 0) 0 9 78 (MP.reads (fun m vs t => CaR m t vs) 9 [])) zAP List.nodup_nil (by simp [Res.blocks, zy])
       have hsl_ar : Cas m14 none ([] : List Ca).length 0 ([] : List Ca) := Sl.empty
       refine hK48 _ _ ?_
       refine zB fun _ hK49 => ?_
       refine zB fun _ hK50 => ?_
       have hgt := zDz (zBc sel tl f) (t.kids.take (zp t)) n (fun u hu => ⟨hL.kid (List.mem_of_mem_take hu), by have := ZH (List.mem_of_mem_take hu); omega⟩)
       have hsp := zBI t.kids (zp t)
       have htl := takeA_len (zT sel tl f) (t.kids.take (zp t)) n
       have zq10 := hle13.trans hle14
       have zq11 := hle12.trans zq10
       have zq12 := hle11.trans zq11
       replace hkk_t := hkk_t.mono zq12
       have hct51 : Tms _ _ _ _ ((t.kids.take (t.kids.length)).drop (zp t)) := hkk_t.cut (l := zp t) (k := t.kids.length) (by omega) (by omega)
       have hcl51 : (t.kids.length) - (zp t) = (((t.kids.take (t.kids.length)).drop (zp t))).length := hct51.len.symm
       have hcu51 : Tms _ _ _ _ ((t.kids.take (t.kids.length)).drop (zp t)) := hct51.lenL
       replace hc3 := hc3.mono zq12
       refine rp0 hst14 hfr14 (.cons rfl (zA (off := 5) rfl underlying33 rfl rfl sizeOf24 rfl) <| .cons rfl (zE rfl hc3 isAgg24 rfl) <| .cons rfl (zD rfl) <| .cons rfl (zCd (l := zp t) (h := t.kids.length) rfl (.some rfl (by omega)) .none underlying24 sizeOf33 (by first | omega | (dsimp only; omega)) (by first | omega | (dsimp only; omega))) <| .cons rfl (zY rfl underlying24) <| .cons rfl (zD rfl) <| .nil) fun a15 w15 m15 hst15 hle15 hk15 => ?_
       have hfr15 := hk15.fr (.o 10 <| .o 0 <| .o 3 <| .o 4 <| .o 11 <| .o 13 <| .n 118 <| .n 119 <| .n 120 <| .nil)
       clear hst14 hfr14 hk15
       replace hct51 := hct51.mono hle15
       replace hcu51 := hcu51.mono hle15
       generalize (if cK_t = zp t then oK_t else oK_t.map (·.add (zp t * 21))) = oq9 at hct51 hcu51 hfr15
       have hks9 : ((t.kids.take (t.kids.length)).drop (zp t)) = t.kids.drop (zp t) := by rw [List.take_length]
       rw [← hks9] at hsp
       have hkl9 := Z1 ((t.kids.take (t.kids.length)).drop (zp t))
       have hkl8 := Z1 t.kids
       refine hK50 _ _ ?_
       refine zN ?_
       have zq13 := zq10.trans hle15
       replace hta := hta.mono zq13
       refine ze (T := [(10, _), (0, _), (3, _), (4, _), (11, _), (13, _), (118, _), (119, _)]) (fun (y : Nat × Nat × Option Addr × Nat × List Cd) => ([(120, .int .i64 (y.1 : Int))] : List (Nat × Value))) (fun y => [.blk (.pointer (some ⟨r, 0, none⟩)) (.cells #[.bool sel, .bool tl, .int .i64 ((y.2.1 : Nat) : Int)] 75), .rowx (nz (.slice y.2.2.1 y.2.2.2.2.length y.2.2.2.1)) y.2.2.2.2.length 6 46 (MP.reads (fun m vs t => CdR m t vs) 6 y.2.2.2.2), _, .blk (.pointer (some ⟨g11, 0, none⟩)) (.cells (cdV ⟨zAs t.kind, zDJ t, [], 0, y.2.2.2.2, []⟩ ⟨y.2.2.1, y.2.2.2.1, none, 0⟩).toArray 46), _]) (fun (y : Nat × Nat × Option Addr × Nat × List Cd) m => (fun (y : Nat) (nq : Nat) (gao : Option Addr) (gap : Nat) (ga : List Cd) => (y ≤ (((t.kids.take (t.kids.length)).drop (zp t))).length) ∧ (Cds m gao ga.length gap ga) ∧ ((Zu (zT sel tl f) (t.kids.take (zp t)) n) ++ seqA (zT sel tl f) ((t.kids.take (t.kids.length)).drop (zp t)) (zAS (zT sel tl f) (t.kids.take (zp t)) n) = ga ++ seqA (zT sel tl f) (((t.kids.take (t.kids.length)).drop (zp t)).drop y) nq ∧ ga.length ≤ zp t + y) ∧ (seqN (zT sel tl f) ((t.kids.take (t.kids.length)).drop (zp t)) (zAS (zT sel tl f) (t.kids.take (zp t)) n) = seqN (zT sel tl f) (((t.kids.take (t.kids.length)).drop (zp t)).drop y) nq) ∧ (nq + zR (((t.kids.take (t.kids.length)).drop (zp t)).drop y) ≤ (zAS (zT sel tl f) (t.kids.take (zp t)) n) + zR ((t.kids.take (t.kids.length)).drop (zp t)))) y.1 y.2.1 y.2.2.1 y.2.2.2.1 y.2.2.2.2) (fun y => (((t.kids.take (t.kids.length)).drop (zp t))).length - y.1) ((0, (zAS (zT sel tl f) (t.kids.take (zp t)) n), o12, c12, (Zu (zT sel tl f) (t.kids.take (zp t)) n))) ⟨hst15, MLe.refl _, hfr15.sub (.c <| .c <| .c <| .c <| .c <| .c <| .c <| .c <| .c <| .nil), ⟨Nat.zero_le _, hta, ⟨rfl, by show (Zu _ _ _).length ≤ _; omega⟩, rfl, Nat.le_refl _⟩⟩ fun y a16 w16 m16 hh16 => ?_
       have hst16 := hh16.st; have hle16 := hh16.le; have hfr16 := hh16.fr; have hrel := hh16.rel; clear hh16
       clear hst15 hfr15
       obtain ⟨y, nq, gao, gap, ga⟩ := y
       dsimp only at hrel hfr16 hst16
       obtain ⟨hyn, hsl_ga, hlen_ga, hj1, hj2⟩ := hrel
       have hlh16 := hle16
       refine zB fun _ hK53 => ?_
       refine rp0 hst16 hfr16 (.cons rfl (z7 rfl rfl) <| .nil) fun a17 w17 m17 hst17 hle17 hk17 => ?_
       have hfr17 := hk17.fr (.o 120 <| .o 10 <| .o 0 <| .o 3 <| .o 4 <| .o 11 <| .o 13 <| .o 118 <| .o 119 <| .n 121 <| .nil)
       clear hst16 hfr16 hk17
       refine hK53 _ _ ?_
       refine zB fun _ hK54 => ?_
       refine zG hfr17 rfl rfl (fun hb121 => ?_) (fun hb121 => ?_)
       ·try simp only [nqs] at hb121
        refine zJ ?_
        refine hK54 _ _ ?_
        refine zB fun _ hK55 => ?_
        refine zN ?_
        refine zB fun _ hK56 => ?_
        have zq14 := hle16.trans hle17
        replace hct51 := hct51.mono zq14
        obtain ⟨p57, vs57, x57, ho57, hd57, hm_x57, ht57, hcv57, hl57, hv57⟩ := hct51.nth (k := y) (by omega)
        cases ho57
        obtain ⟨⟨oK57, cK57, oA57, cA57, oR57, cR57, t057, t157, t257, t357, t457, t557, u057, u157, u257, u357, u457, u557⟩, rfl, hon57, hkk57, haa57, hrr57⟩ := hv57.open_
        dsimp only at hkk57 haa57 hrr57
        have hbg57 := hkk57.big; have hcp57 := hkk57.cap; have hbh57 := haa57.big; have hcq57 := haa57.cap
        rw [hd57] at hlen_ga hj1 hj2
        rw [seqA] at hlen_ga; rw [seqN] at hj1; rw [zR] at hj2
        have hmk := mem_cut2 hm_x57
        have hLx := hL.kid hmk; have hfx := ZH hmk; have hbx := Zc hmk
        have hgn := zBc sel tl f x57 nq hLx (by omega)
        have hlg := hlen_ga.2
        replace hst17 := hst17.more (r := .free) trivial List.nodup_nil (by simp [Res.blocks])
        refine ra0 (tch := [(2, 5, (fun v => .blk v _)), (3, 5, (fun v => .blk v _))]) hst17 hfr17 (.cons rfl (zH (k := y) rfl rfl underlying24 sizeOf33 rfl (by omega)) <| .cons rfl (zO rfl hcv57 isAgg33 sizeOf33 rfl rfl) <| .consT rfl rfl (fun _ => rfl) rfl (zQ zeroValue33 rfl) <| .consT rfl rfl (fun _ => rfl) rfl (zU 15 rfl rfl rfl fun y15 => zb rfl rfl rfl rfl rfl sizeOf33 rfl rfl hv57.one) <| .nil) fun a18 w18 m18 hst18 hle18 hk18 => ?_
        have hfr18 := hk18.fr (.o 120 <| .o 10 <| .o 0 <| .o 3 <| .o 4 <| .o 11 <| .o 13 <| .o 118 <| .o 119 <| .nil)
        obtain ⟨g58, e58, _⟩ := hk18.ex 15 rfl
        replace hfr18 := hfr18.cons e58
        replace hst18 := hst18.fin (L' := [_, _, _, _, _, _]) (.cons e58 <| .cons e58 <| .nil)
        try simp only [List.take_succ_cons, List.take_zero, List.drop_succ_cons, List.drop_zero, List.cons_append, List.nil_append, List.append_nil, List.length_cons, List.length_nil, Nat.zero_add, Nat.reduceAdd] at hst18
        clear hst17 hfr17 hk18
        refine hK56 _ _ ?_
        have zq15 := zq14.trans hle18
        have zq16 := hle15.trans zq15
        have zq17 := zq12.trans zq16
        have zq18 := zq9.trans zq17
        replace haa_t := haa_t.mono zq18
        replace hrr_t := hrr_t.mono zq18
        replace hM := hM.trans zq18
        have zq19 := zq8.trans zq17
        replace h_t := h_t.mono zq19
        replace hcu47 := hcu47.mono zq17
        have zq20 := zq11.trans zq16
        replace hct47 := hct47.mono zq20
        have zq21 := zq13.trans zq15
        replace htb := htb.mono zq21
        replace hkk_t := hkk_t.mono zq16
        replace hc3 := hc3.mono zq16
        replace hsl_ar := hsl_ar.mono zq16
        replace hta := hta.mono zq15
        replace hcu51 := hcu51.mono zq15
        have zq22 := hle17.trans hle18
        replace hsl_ga := hsl_ga.mono zq22
        replace hct51 := hct51.mono hle18
        replace hcv57 := hcv57.mono hle18
        replace hv57 := hv57.mono hle18
        replace hkk57 := hkk57.mono hle18
        replace haa57 := haa57.mono hle18
        replace hrr57 := hrr57.mono hle18
        refine zz (tch := [(4, 0, (fun _ => .blk (.pointer (some ⟨r, 0, none⟩)) (.cells #[.bool sel, .bool tl, .int .i64 ((((zT sel tl f) x57 (nq)).2 : Nat) : Int)] 75))), (6, 1, (fun v => .rowx (nz v) _ _ _ _)), (8, 3, (fun u => .blk _ (.cells (_ ++ [u] ++ _).toArray _)))]) (fun _ => mixed) hst18 hfr18 (by kernel_rfl) (by kernel_rfl) (by kernel_rfl) (.cons rfl (zA (off := 4) rfl underlying46 rfl rfl sizeOf43 rfl) <| .cons rfl (zM (j := 3) rfl rfl isAgg43 rfl) <| .cons rfl (zD rfl) <| .cons rfl (zd (j := 5) rfl rfl isAgg33 sizeOf33 rfl) <| .consT rfl rfl (fun _ => rfl) rfl (Za rfl (.cons rfl <| .cons rfl <| .nil) call31 (κ := .ex (MP.cd ((zT sel tl f) x57 (nq)).1)) (fun σ w m hK hr hkn => by have hle_ := KC.le hK; have hA := KC.agree hK; have hM := hM.trans hle_; have h_t := h_t.mono hle_; have hkk_t := hkk_t.mono hle_; have haa_t := haa_t.mono hle_; have hrr_t := hrr_t.mono hle_; have hc3 := hc3.mono hle_; have hct47 := hct47.mono hle_; have hcu47 := hcu47.mono hle_; have hta := hta.mono hle_; have htb := htb.mono hle_; have hsl_ar := hsl_ar.mono hle_; have hct51 := hct51.mono hle_; have hcu51 := hcu51.mono hle_; have hsl_ga := hsl_ga.mono hle_; have hcv57 := hcv57.mono hle_; have hv57 := hv57.mono hle_; have hkk57 := hkk57.mono hle_; have haa57 := haa57.mono hle_; have hrr57 := hrr57.mono hle_; have hT := ZO hT hK.st.ext hNTs; exact zAk ih hA hr hv57 hT hLx (by omega) (by omega) (by omega) hNT)) <| .cons rfl (zBx 128 rfl rfl rfl fun y128 => z8 rfl underlying43 sizeOf46 zeroValue46 rfl rfl rfl rfl) <| .consT rfl rfl (fun _ => rfl) rfl (zU 129 rfl rfl rfl fun y129 => ZZ (size := 6) (bytes := 96) (l := ga) (l' := [((zT sel tl f) x57 nq).1]) rfl rfl (fun _ => by first | exact .inl rfl | exact .inr (.inl rfl)) underlying43 type46 rfl rfl rfl rfl (fun w m hK => Sl.one (R := fun m vs t => CdR m t vs) hK.2.2 hK.2.1.len hK.2.1) rfl (by decide) (by simp only [maxLen]; omega) (by omega)) <| .cons rfl (zA (off := 4) rfl underlying46 rfl rfl sizeOf43 rfl) <| .consT rfl rfl (fun _ => rfl) rfl (zU 130 rfl rfl rfl fun y130 => zAI rfl rfl rfl rfl rfl sizeOf43 rfl rfl rfl) <| .nil) fun a19 w19 m19 hst19 hle19 hk19 => ?_
        have hfr19 := hk19.fr (.o 120 <| .o 10 <| .o 0 <| .o 3 <| .o 4 <| .o 11 <| .o 13 <| .o 118 <| .o 119 <| .nil)
        obtain ⟨y60, e60, hy60⟩ := hk19.ex 128 rfl
        obtain ⟨⟨ks_59o, ks_59p⟩, e61, hsl_ks_59⟩ := hk19.ex 130 rfl
        replace hst19 := hst19.fin (L' := [_, _, _, _, _, _]) (.cons e60 <| .cons e61 <| .cons e61 <| .nil)
        try simp only [List.take_succ_cons, List.take_zero, List.drop_succ_cons, List.drop_zero, List.cons_append, List.nil_append, List.append_nil, List.length_cons, List.length_nil, Nat.zero_add, Nat.reduceAdd] at hst19
        clear hst18 hfr18 hk19
        replace hsl_ks_59 : Cds m19 ks_59o (ga ++ [((zT sel tl f) x57 nq).1]).length ks_59p (ga ++ [((zT sel tl f) x57 nq).1]) := hsl_ks_59
        refine hK55 _ _ ?_
        refine rp0 hst19 hfr19 (.cons rfl (zk rfl rfl ⟨by omega, by omega⟩) <| .cons rfl (zD rfl) <| .nil) fun a20 w20 m20 hst20 hle20 hk20 => ?_
        have hfr20 := hk20.fr (.o 10 <| .o 0 <| .o 3 <| .o 4 <| .o 11 <| .o 13 <| .o 118 <| .o 119 <| .n 120 <| .nil)
        clear hst19 hfr19 hk20
        have hst20 := hst20.take 5
        replace hsl_ks_59 := hsl_ks_59.mono hle20
        have zq23 := hle19.trans hle20
        have zq24 := zq22.trans zq23
        have hlh20 := hlh16.trans zq24
        exact ⟨(y + 1, ((zT sel tl f) x57 nq).2, ks_59o, ks_59p, (ga ++ [((zT sel tl f) x57 nq).1])), m20, by show (((t.kids.take (t.kids.length)).drop (zp t))).length - (y + 1) < (((t.kids.take (t.kids.length)).drop (zp t))).length - y; omega, ⟨hst20, hlh20, hfr20.sub (.c <| .c <| .c <| .c <| .c <| .c <| .c <| .c <| .c <| .nil), ⟨by show y + 1 ≤ (((t.kids.take (t.kids.length)).drop (zp t))).length; omega, hsl_ks_59, ⟨by rw [hlen_ga.1]; simp, by show (ga ++ [_]).length ≤ zp t + (y + 1); simp; have := hlen_ga.2; omega⟩, hj1, by show ((zT sel tl f) x57 nq).2 + zR (((t.kids.take (t.kids.length)).drop (zp t)).drop (y + 1)) ≤ _; omega⟩⟩⟩
       ·try simp only [nqs] at hb121
        have hge : y = (((t.kids.take (t.kids.length)).drop (zp t))).length := by omega
        rw [show ((t.kids.take (t.kids.length)).drop (zp t)).drop y = [] from List.drop_of_length_le (by omega)] at hlen_ga hj1 hj2
        rw [seqA, List.append_nil] at hlen_ga
        rw [seqN] at hj1
        have hnr : nq = zED (zT sel tl f) t n := by rw [← hj1, hks9]; rfl
        have hgk : ga = (Zu (zT sel tl f) (t.kids.take (zp t)) n) ++ seqA (zT sel tl f) (t.kids.drop (zp t)) (zAS (zT sel tl f) (t.kids.take (zp t)) n) := by rw [← hlen_ga.1, hks9]
        refine zg ?_
        refine hK49 _ _ ?_
        refine zB fun _ hK62 => ?_
        refine zB fun _ hK63 => ?_
        have zq25 := hle16.trans hle17
        have zq26 := hle15.trans zq25
        replace hc3 := hc3.mono zq26
        refine rp0 hst17 hfr17 (.cons rfl (zA (off := 6) rfl underlying33 rfl rfl sizeOf25 rfl) <| .cons rfl (zE rfl hc3 isAgg25 rfl) <| .cons rfl (zY rfl underlying25) <| .cons rfl (zD rfl) <| .nil) fun a18 w18 m18 hst18 hle18 hk18 => ?_
        have hfr18 := hk18.fr (.o 120 <| .o 10 <| .o 0 <| .o 4 <| .o 11 <| .o 13 <| .n 134 <| .n 135 <| .n 136 <| .nil)
        clear hst17 hfr17 hk18
        refine hK63 _ _ ?_
        refine zN ?_
        have zq27 := hle17.trans hle18
        have hlh18 := hlh16.trans zq27
        have hlq64 := hlh18
        have zq28 := zq26.trans hle18
        replace hsl_ar := hsl_ar.mono zq28
        refine ze (T := [(120, _), (10, _), (0, _), (4, _), (11, _), (13, _), (134, _), (135, _)]) (fun (y : Nat × Nat × Option Addr × Nat × List Ca) => ([(136, .int .i64 (y.1 : Int))] : List (Nat × Value))) (fun y => [.blk (.pointer (some ⟨r, 0, none⟩)) (.cells #[.bool sel, .bool tl, .int .i64 ((y.2.1 : Nat) : Int)] 75), _, _, .blk (.pointer (some ⟨g11, 0, none⟩)) (.cells (cdV ⟨zAs t.kind, zDJ t, [], 0, ga, y.2.2.2.2⟩ ⟨gao, gap, y.2.2.1, y.2.2.2.1⟩).toArray 46), .rowx (nz (.slice y.2.2.1 y.2.2.2.2.length y.2.2.2.1)) y.2.2.2.2.length 9 78 (MP.reads (fun m vs t => CaR m t vs) 9 y.2.2.2.2)]) (fun (y : Nat × Nat × Option Addr × Nat × List Ca) m => (fun (y : Nat) (nr : Nat) (gco : Option Addr) (gcp : Nat) (gc : List Ca) => (y ≤ t.arms.length) ∧ (Cas m gco gc.length gcp gc) ∧ (armA (zT sel tl f) t.arms nq = gc ++ armA (zT sel tl f) (t.arms.drop y) nr ∧ gc.length = y) ∧ (zEI (zT sel tl f) t.arms nq = zEI (zT sel tl f) (t.arms.drop y) nr) ∧ (nr + zo (t.arms.drop y) ≤ nq + zo t.arms)) y.1 y.2.1 y.2.2.1 y.2.2.2.1 y.2.2.2.2) (fun y => t.arms.length - y.1) ((0, nq, none, 0, ([] : List Ca))) ⟨hst18, MLe.refl _, hfr18.sub (.c <| .c <| .c <| .c <| .c <| .c <| .c <| .c <| .c <| .nil), ⟨Nat.zero_le _, hsl_ar, ⟨rfl, rfl⟩, rfl, Nat.le_refl _⟩⟩ fun y a19 w19 m19 hh19 => ?_
        have hst19 := hh19.st; have hle19 := hh19.le; have hfr19 := hh19.fr; have hrel := hh19.rel; clear hh19
        clear hst18 hfr18
        obtain ⟨y, nr, gco, gcp, gc⟩ := y
        dsimp only at hrel hfr19 hst19
        obtain ⟨hyn, hsl_gc, hlen_gc, hj3, hj4⟩ := hrel
        have hlh19 := hle19
        refine zB fun _ hK65 => ?_
        refine rp0 hst19 hfr19 (.cons rfl (z7 rfl rfl) <| .nil) fun a20 w20 m20 hst20 hle20 hk20 => ?_
        have hfr20 := hk20.fr (.o 136 <| .o 120 <| .o 10 <| .o 0 <| .o 4 <| .o 11 <| .o 13 <| .o 134 <| .o 135 <| .n 137 <| .nil)
        clear hst19 hfr19 hk20
        refine hK65 _ _ ?_
        refine zB fun _ hK66 => ?_
        refine zG hfr20 rfl rfl (fun hb137 => ?_) (fun hb137 => ?_)
        ·try simp only [nqs] at hb137
         refine zJ ?_
         refine hK66 _ _ ?_
         refine zB fun _ hK67 => ?_
         refine zN ?_
         refine zB fun _ hK68 => ?_
         have zq29 := hle19.trans hle20
         have zq30 := zq28.trans zq29
         have zq31 := zq12.trans zq30
         have zq32 := zq9.trans zq31
         replace haa_t := haa_t.mono zq32
         obtain ⟨p69, vs69, x69, ho69, hd69, hm_x69, ht69, hcv69, hl69, hv69⟩ := haa_t.nth (k := y) (by omega)
         cases ho69
         obtain ⟨oV69, cV69, bs69, rfl, hva69, hbd69⟩ := hv69.open_
         have hbv69 := hva69.big; have hcv69_ := hva69.cap
         obtain ⟨⟨oK69b, cK69b, oA69b, cA69b, oR69b, cR69b, t069b, t169b, t269b, t369b, t469b, t569b, u069b, u169b, u269b, u369b, u469b, u569b⟩, rfl, hon69b, hkk69b, haa69b, hrr69b⟩ := hbd69.open_
         dsimp only at hkk69b haa69b hrr69b
         have hbg69b := hkk69b.big; have hcp69b := hkk69b.cap; have hbh69b := haa69b.big; have hcq69b := haa69b.cap
         rw [hd69] at hlen_gc hj3 hj4
         rw [armA] at hlen_gc; rw [zEI] at hj3; rw [ZD] at hj4
         have hLa := hL.arm hm_x69; have hcx := zAE hm_x69; have hbx := zBT hm_x69; have hsl9 := sum_len x69.vars; have hal9 := zAH t.arms
         have hgn := zBc sel tl f x69.body nr hLa (by omega)
         replace hst20 := hst20.more (r := .free) trivial List.nodup_nil (by simp [Res.blocks])
         refine ra0 (tch := [(2, 5, (fun v => .blk v _)), (3, 5, (fun v => .blk v _))]) hst20 hfr20 (.cons rfl (zH (k := y) rfl rfl underlying25 sizeOf72 rfl (by omega)) <| .cons rfl (zO rfl hcv69 isAgg72 sizeOf72 rfl rfl) <| .consT rfl rfl (fun _ => rfl) rfl (zQ zeroValue72 rfl) <| .consT rfl rfl (fun _ => rfl) rfl (zU 17 rfl rfl rfl fun y17 => zb rfl rfl rfl rfl rfl sizeOf72 rfl rfl hv69.one) <| .nil) fun a21 w21 m21 hst21 hle21 hk21 => ?_
         have hfr21 := hk21.fr (.o 136 <| .o 120 <| .o 10 <| .o 0 <| .o 4 <| .o 11 <| .o 13 <| .o 134 <| .o 135 <| .nil)
         obtain ⟨g70, e70, _⟩ := hk21.ex 17 rfl
         replace hfr21 := hfr21.cons e70
         replace hst21 := hst21.fin (L' := [_, _, _, _, _, _]) (.cons e70 <| .cons e70 <| .nil)
         try simp only [List.take_succ_cons, List.take_zero, List.drop_succ_cons, List.drop_zero, List.cons_append, List.nil_append, List.append_nil, List.length_cons, List.length_nil, Nat.zero_add, Nat.reduceAdd] at hst21
         clear hst20 hfr20 hk21
         refine hK68 _ _ ?_
         have zq33 := zq32.trans hle21
         replace hrr_t := hrr_t.mono zq33
         replace hM := hM.trans zq33
         have zq34 := zq31.trans hle21
         have zq35 := zq8.trans zq34
         replace h_t := h_t.mono zq35
         replace hcu47 := hcu47.mono zq34
         have zq36 := zq30.trans hle21
         have zq37 := zq11.trans zq36
         replace hct47 := hct47.mono zq37
         have zq38 := zq29.trans hle21
         have zq39 := hle18.trans zq38
         have zq40 := zq25.trans zq39
         have zq41 := zq13.trans zq40
         replace htb := htb.mono zq41
         replace hkk_t := hkk_t.mono zq36
         replace hta := hta.mono zq40
         replace hct51 := hct51.mono zq40
         replace hcu51 := hcu51.mono zq40
         have zq42 := zq27.trans zq38
         replace hsl_ga := hsl_ga.mono zq42
         replace hc3 := hc3.mono zq39
         replace hsl_ar := hsl_ar.mono zq38
         have zq43 := hle20.trans hle21
         replace hsl_gc := hsl_gc.mono zq43
         replace haa_t := haa_t.mono hle21
         replace hcv69 := hcv69.mono hle21
         replace hv69 := hv69.mono hle21
         replace hva69 := hva69.mono hle21
         replace hbd69 := hbd69.mono hle21
         replace hkk69b := hkk69b.mono hle21
         replace haa69b := haa69b.mono hle21
         replace hrr69b := hrr69b.mono hle21
         refine zz (tch := [(10, 0, (fun _ => .blk (.pointer (some ⟨r, 0, none⟩)) (.cells #[.bool sel, .bool tl, .int .i64 ((((zT sel tl f) x69.body (nr)).2 : Nat) : Int)] 75))), (13, 4, (fun v => .rowx (nz v) _ _ _ _)), (15, 3, (fun u => .blk _ (.cells (_ ++ [u] ++ _).toArray _)))]) (fun _ => mixed) hst21 hfr21 (by kernel_rfl) (by kernel_rfl) (by kernel_rfl) (.cons rfl (zA (off := 5) rfl underlying46 rfl rfl sizeOf44 rfl) <| .cons rfl (zM (j := 3) rfl rfl isAgg44 rfl) <| .cons rfl (zA (off := 0) rfl underlying72 rfl rfl sizeOf9 rfl) <| .cons rfl (zM (j := 5) rfl rfl isAgg9 rfl) <| .cons rfl (zA (off := 1) rfl underlying72 rfl rfl sizeOf27 rfl) <| .cons rfl (zM (j := 5) rfl rfl isAgg27 rfl) <| .cons rfl (zi (φ := MP.strs (x69.vars)) rfl (.cons rfl <| .nil) call44 (fun w m hK => by have hle_ := KC.le hK; have hA := KC.agree hK; have hva69 := hva69.mono hle_; exact FnG.mono (cloneF_c hA hva69 (by omega)) fun _ _ _ _ h => h)) <| .cons rfl (zD rfl) <| .cons rfl (zA (off := 2) rfl underlying72 rfl rfl sizeOf33 rfl) <| .cons rfl (Zo (j := 5) rfl rfl isAgg33 sizeOf33 rfl rfl) <| .consT rfl rfl (fun _ => rfl) rfl (Za rfl (.cons rfl <| .cons rfl <| .nil) call31 (κ := .ex (MP.cd ((zT sel tl f) x69.body (nr)).1)) (fun σ w m hK hr hkn => by have hle_ := KC.le hK; have hA := KC.agree hK; have hM := hM.trans hle_; have h_t := h_t.mono hle_; have hkk_t := hkk_t.mono hle_; have haa_t := haa_t.mono hle_; have hrr_t := hrr_t.mono hle_; have hc3 := hc3.mono hle_; have hct47 := hct47.mono hle_; have hcu47 := hcu47.mono hle_; have hta := hta.mono hle_; have htb := htb.mono hle_; have hsl_ar := hsl_ar.mono hle_; have hct51 := hct51.mono hle_; have hcu51 := hcu51.mono hle_; have hsl_ga := hsl_ga.mono hle_; have hsl_gc := hsl_gc.mono hle_; have hcv69 := hcv69.mono hle_; have hv69 := hv69.mono hle_; have hva69 := hva69.mono hle_; have hbd69 := hbd69.mono hle_; have hkk69b := hkk69b.mono hle_; have haa69b := haa69b.mono hle_; have hrr69b := hrr69b.mono hle_; have hT := ZO hT hK.st.ext hNTs; exact zAk ih hA hr hbd69 hT hLa (by omega) (by omega) (by omega) hNT)) <| .cons rfl (zBx 146 rfl rfl rfl fun y146 => zh 150 rfl rfl rfl fun y150 => zq (.cons rfl <| .cons rfl <| .cons rfl <| .nil) underlying78 zeroValue78 (.cons sizeOf9 <| .cons sizeOf27 <| .cons sizeOf4 <| .cons sizeOf46 <| .nil) rfl) <| .cons rfl (zBx 151 rfl rfl rfl fun y151 => z8 rfl underlying44 sizeOf78 zeroValue78 rfl rfl rfl rfl) <| .consT rfl rfl (fun _ => rfl) rfl (zU 152 rfl rfl rfl fun y152 => ZZ (size := 9) (bytes := 144) (l := gc) (l' := [armC (zT sel tl f) x69 nr]) rfl rfl (fun _ => by first | exact .inl rfl | exact .inr (.inl rfl)) underlying44 type78 rfl rfl rfl rfl (fun w m hK => Sl.one (R := fun m vs t => CaR m t vs) (vs := S x69.name :: .slice y152.1.1.1 x69.vars.length y152.1.1.2 :: .bool false :: cdV ((zT sel tl f) x69.body nr).1 y152.1.2) (by exact hK.2.2) rfl (caR_of hK.2.1.1 hK.2.1.2)) rfl (by decide) (by simp only [maxLen]; omega) (by omega)) <| .cons rfl (zA (off := 5) rfl underlying46 rfl rfl sizeOf44 rfl) <| .consT rfl rfl (fun _ => rfl) rfl (zU 153 rfl rfl rfl fun y153 => zAI rfl rfl rfl rfl rfl sizeOf44 rfl rfl rfl) <| .nil) fun a22 w22 m22 hst22 hle22 hk22 => ?_
         have hfr22 := hk22.fr (.o 136 <| .o 120 <| .o 10 <| .o 0 <| .o 4 <| .o 11 <| .o 13 <| .o 134 <| .o 135 <| .nil)
         obtain ⟨y72, e72, hy72⟩ := hk22.ex 150 rfl
         obtain ⟨⟨ar_71o, ar_71p⟩, e73, hsl_ar_71⟩ := hk22.ex 153 rfl
         replace hst22 := hst22.fin (L' := [_, _, _, _, _, _]) (.cons e72 <| .cons e73 <| .cons e73 <| .nil)
         try simp only [List.take_succ_cons, List.take_zero, List.drop_succ_cons, List.drop_zero, List.cons_append, List.nil_append, List.append_nil, List.length_cons, List.length_nil, Nat.zero_add, Nat.reduceAdd] at hst22
         clear hst21 hfr21 hk22
         replace hsl_ar_71 : Cas m22 ar_71o (gc ++ [armC (zT sel tl f) x69 nr]).length ar_71p (gc ++ [armC (zT sel tl f) x69 nr]) := hsl_ar_71
         refine hK67 _ _ ?_
         refine rp0 hst22 hfr22 (.cons rfl (zk rfl rfl ⟨by omega, by omega⟩) <| .cons rfl (zD rfl) <| .nil) fun a23 w23 m23 hst23 hle23 hk23 => ?_
         have hfr23 := hk23.fr (.o 120 <| .o 10 <| .o 0 <| .o 4 <| .o 11 <| .o 13 <| .o 134 <| .o 135 <| .n 136 <| .nil)
         clear hst22 hfr22 hk23
         have hst23 := hst23.take 5
         replace hsl_ar_71 := hsl_ar_71.mono hle23
         have zq44 := hle22.trans hle23
         have zq45 := zq43.trans zq44
         have hlh23 := hlh19.trans zq45
         exact ⟨(y + 1, ((zT sel tl f) x69.body nr).2, ar_71o, ar_71p, (gc ++ [armC (zT sel tl f) x69 nr])), m23, by show t.arms.length - (y + 1) < t.arms.length - y; omega, ⟨hst23, hlh23, hfr23.sub (.c <| .c <| .c <| .c <| .c <| .c <| .c <| .c <| .c <| .nil), ⟨by show y + 1 ≤ t.arms.length; omega, hsl_ar_71, ⟨by rw [hlen_gc.1]; simp, by show (gc ++ [_]).length = y + 1; simp; exact hlen_gc.2⟩, hj3, by show ((zT sel tl f) x69.body nr).2 + zo (t.arms.drop (y + 1)) ≤ _; omega⟩⟩⟩
        ·try simp only [nqs] at hb137
         have hge : y = t.arms.length := by omega
         rw [List.drop_of_length_le (by omega)] at hlen_gc hj3
         rw [armA, List.append_nil] at hlen_gc
         rw [zEI] at hj3
         refine zg ?_
         refine hK62 _ _ ?_
         refine zB fun _ hK74 => ?_
         refine zu 3 (by kernel_rfl) ?_
         have hce9 : zCX (zT sel tl f) t n = ⟨zAs t.kind, zDJ t, [], 0, ga, gc⟩ := by unfold zCX; rw [← hgk, ← hnr, hlen_gc.1]
         have zq46 := hle19.trans hle20
         have zq47 := zq27.trans zq46
         replace hsl_ga := hsl_ga.mono zq47
         replace hsl_gc := hsl_gc.mono hle20
         have hcore : CdR m20 (zCX (zT sel tl f) t n) (cdV ⟨zAs t.kind, zDJ t, [], 0, ga, gc⟩ ⟨gao, gap, gco, gcp⟩) := by rw [hce9]; exact CdR.build trivial trivial hsl_ga hsl_gc
         have zq48 := hle18.trans zq46
         have zq49 := zq25.trans zq48
         have zq50 := zq13.trans zq49
         replace htb := htb.mono zq50
         refine zm (tch := []) hst20 hfr20 (by kernel_rfl) (by kernel_rfl) (by kernel_rfl) (.cons rfl (zd (j := 3) rfl rfl isAgg46 sizeOf46 rfl) <| .cons rfl (zD rfl) <| .cons rfl (zi (φ := MP.cd (Zd (zAe sel (zT sel tl f) (t.kids.take (zp t)) n) (zCX (zT sel tl f) t n))) rfl (.cons rfl <| .cons rfl <| .nil) call45 (fun w m hK => by have hle_ := KC.le hK; have hA := KC.agree hK; have htb := htb.mono hle_; have hcore := hcore.mono hle_; exact FnG.mono (around_c hA (by exact hcore) htb) fun _ _ _ _ h => h)) <| .nil) fun a21 w21 m21 hst21 hle21 hk21 => ?_
         have hfr21 := hk21.fr (.o 136 <| .o 120 <| .o 10 <| .o 0 <| .o 4 <| .o 11 <| .o 13 <| .o 134 <| .o 135 <| .nil)
         obtain ⟨yp, e75, hyp⟩ := hk21.ex 158 rfl
         replace hfr21 := hfr21.cons e75
         clear hst20 hfr20 hk21
         refine zm (tch := [(0, 2, (fun _ => .blk _ _))]) hst21 hfr21 (by kernel_rfl) (by kernel_rfl) (by kernel_rfl) (.consT rfl rfl (fun _ => rfl) rfl (za rfl rfl rfl sizeOf46 rfl rfl rfl) <| .nil) fun a22 w22 m22 hst22 hle22 hk22 => ?_
         have hfr22 := hk22.fr (.o 136 <| .o 120 <| .o 10 <| .o 0 <| .o 4 <| .o 11 <| .o 13 <| .o 134 <| .o 135 <| .o 158 <| .nil)
         replace hst22 := hst22.fin (L' := [_, _, _, _, _]) (.cons rfl <| .nil)
         try simp only [List.take_succ_cons, List.take_zero, List.drop_succ_cons, List.drop_zero, List.cons_append, List.nil_append, List.append_nil, List.length_cons, List.length_nil, Nat.zero_add, Nat.reduceAdd] at hst22
         clear hst21 hfr21 hk22
         refine hK74 _ _ ?_
         refine zK ?_
         repeat (with_reducible first | refine zI ?_ | refine zF ?_)
         replace hyp := hyp.mono hle22
         exact zL hst22 hfr22 rfl (.cell rfl (zn (zl (hst22.loc.at_ (k := 2) rfl)) isAgg46 sizeOf46) <| .nil) (⟨by rw [hbd, ← hnr, hj3]; exact (hst22.take 1).loc, yp, by rw [hbd]; rfl, by rw [hbd]; exact hyp⟩)
      ·have hlj45 : MLe m9 m9 := MLe.refl _
       refine zB fun _ hK77 => ?_
       refine rp0 hst9 hfr9 (.cons rfl (zD rfl) <| .cons rfl (zV rfl rfl) <| .cons rfl (zD rfl) <| .cons rfl (zD rfl) <| .cons rfl (zV rfl rfl) <| .cons rfl (zx rfl rfl rfl) <| .cons rfl (zD rfl) <| .cons rfl (zD rfl) <| .cons rfl (zV rfl rfl) <| .cons rfl (zx rfl rfl rfl) <| .nil) fun a10 w10 m10 hst10 hle10 hk10 => ?_
       have hfr10 := hk10.fr (.o 10 <| .o 0 <| .o 3 <| .o 4 <| .o 11 <| .n 100 <| .nil)
       clear hst9 hfr9 hk10
       refine hK77 _ _ ?_
       refine zG hfr10 rfl rfl (fun hb100 => ?_) (fun hb100 => ?_)
       ·try simp only [nqs] at hb100
        have zq51 := hle9.trans hle10
        have zq52 := hle8.trans zq51
        have zq53 := hle7.trans zq52
        replace hc3 := hc3.mono zq53
        refine ra0 (tch := [(3, 2, (fun _ => .blk _ _))]) hst10 hfr10 (.cons rfl (zA (off := 2) rfl underlying33 rfl rfl sizeOf9 rfl) <| .cons rfl (zE rfl hc3 isAgg9 rfl) <| .cons rfl (zA (off := 1) rfl underlying46 rfl rfl sizeOf9 rfl) <| .consT rfl rfl (fun _ => rfl) rfl (ZE rfl rfl rfl sizeOf9 rfl rfl rfl) <| .nil) fun a11 w11 m11 hst11 hle11 hk11 => ?_
        have hfr11 := hk11.fr (.o 10 <| .o 0 <| .o 3 <| .o 4 <| .o 11 <| .nil)
        replace hst11 := hst11.fin (L' := [_, _, _]) (.cons rfl <| .nil)
        try simp only [List.take_succ_cons, List.take_zero, List.drop_succ_cons, List.drop_zero, List.cons_append, List.nil_append, List.append_nil, List.length_cons, List.length_nil, Nat.zero_add, Nat.reduceAdd] at hst11
        clear hst10 hfr10 hk11
        repeat (with_reducible first | refine ZM ?_ | refine ZF ?_ | refine zw ?_)
        have zq54 := hle10.trans hle11
        replace hlj45 := hlj45.trans zq54
        exact hj45 (t.name) _ _ _ ⟨hst11, hlj45, hfr11.sub (.c <| .c <| .c <| .c <| .c <| .nil), by unfold zDJ; dsimp only; first | rw [if_pos (out_named hb100)] | rw [if_neg (zDo hb100)]⟩
       ·try simp only [nqs] at hb100
        refine zJ ?_
        repeat (with_reducible first | refine ZM ?_ | refine ZF ?_ | refine zw ?_)
        replace hlj45 := hlj45.trans hle10
        exact hj45 (([] : Str)) _ _ _ ⟨hst10, hlj45, hfr10.sub (.c <| .c <| .c <| .c <| .c <| .nil), by unfold zDJ; dsimp only; first | rw [if_pos (out_named hb100)] | rw [if_neg (zDo hb100)]⟩
     ·have hlj42 : MLe m7 m7 := MLe.refl _
      refine zB fun _ hK78 => ?_
      refine rp0 hst7 hfr7 (.cons rfl (zD rfl) <| .cons rfl (z7 rfl rfl) <| .nil) fun a8 w8 m8 hst8 hle8 hk8 => ?_
      have hfr8 := hk8.fr (.o 0 <| .o 3 <| .o 4 <| .o 9 <| .o 10 <| .n 85 <| .nil)
      clear hst7 hfr7 hk8
      refine hK78 _ _ ?_
      refine zG hfr8 rfl rfl (fun hb85 => ?_) (fun hb85 => ?_)
      ·try simp only [nqs] at hb85
       have zq55 := hle7.trans hle8
       replace hc3 := hc3.mono zq55
       refine rp0 hst8 hfr8 (.cons rfl (zA (off := 5) rfl underlying33 rfl rfl sizeOf24 rfl) <| .cons rfl (zE rfl hc3 isAgg24 rfl) <| .cons rfl (zY rfl underlying24) <| .cons rfl (zC rfl) <| .nil) fun a9 w9 m9 hst9 hle9 hk9 => ?_
       have hfr9 := hk9.fr (.o 0 <| .o 3 <| .o 4 <| .o 9 <| .n 10 <| .nil)
       clear hst8 hfr8 hk9
       repeat (with_reducible first | refine ZM ?_ | refine ZF ?_ | refine zw ?_)
       have zq56 := hle8.trans hle9
       replace hlj42 := hlj42.trans zq56
       exact hj42 ((t.kids.length : Int)) _ _ _ ⟨hst9, hlj42, hfr9.sub (.c <| .c <| .c <| .c <| .c <| .nil), by rw [kindsN_neg hb85]⟩
      ·try simp only [nqs] at hb85
       refine zJ ?_
       repeat (with_reducible first | refine ZM ?_ | refine ZF ?_ | refine zw ?_)
       replace hlj42 := hlj42.trans hle8
       exact hj42 (zAD t.kind) _ _ _ ⟨hst8, hlj42, hfr8.sub (.c <| .c <| .c <| .c <| .c <| .nil), kindsN_pos hb85⟩
end Go.Proofs.YtmdhhjmomilhjaaDoor
namespace Go.Proofs.YtmdhhjmomilhjaaDoor
open Go.Proofs.Tryd
set_option linter.all false
set_option maxRecDepth 4000
open Go.RowKit
open Go.Lib (itoa decDigits)
theorem own_new {W w : World} {mE m : Mem} {L : List Res} {k g : Nat} {o : Obj} (h : St [] W mE L w m) (hk : L[k]? = some (.blk (.pointer (some ⟨g, 0, none⟩)) o)) : W.heap.size ≤ g := by
 rcases h.loc.own g (List.mem_flatMap.2 ⟨_, List.mem_of_getElem? hk, by simp [Res.blocks, zj]⟩) with h1 | h1
 ·cases h1
 ·exact h1
theorem countM_pos (t : Tm) : 0 < zP t := by have := zr t; omega
theorem code_c : ∀ f, zBV f
 | 0 => fun _ _ _ _ _ hf _ _ _ => absurd hf (Nat.not_le_of_gt (countM_pos _))
 | f + 1 => fun hA hr h hT hL hf hbk hnb hNT => code_s hA hr h hT (code_c f) hL hf hbk hnb hNT
mutual
/-- How many pieces of a kind. -/
def nK (k : Int) : Cd → Nat
 | ⟨kd, _, _, _, ks, az⟩ => (if kd = k then 1 else 0) + (nKs k ks + nAs k az)
def nKs (k : Int) : List Cd → Nat
 | [] => 0
 | t :: ts => nK k t + nKs k ts
def nAs (k : Int) : List Ca → Nat
 | [] => 0
 | ⟨_, _, _, b⟩ :: ts => nK k b + nAs k ts
end
theorem nK_eq (k : Int) (t : Cd) : nK k t = (if t.kind = k then 1 else 0) + (nKs k t.kids + nAs k t.arms) := by obtain ⟨kd, s, p, n, ks, az⟩ := t; rw [nK]; rfl
theorem dec_eq (n : Nat) : decDigits n = if n < 10 then [UInt8.ofNat (48 + n)] else decDigits (n / 10) ++ [UInt8.ofNat (48 + n % 10)] := by
 rw [decDigits]; split <;> rfl
theorem nAs_cons (k : Int) (a : Ca) (ts : List Ca) : nAs k (a :: ts) = nK k a.body + nAs k ts := by obtain ⟨x, v, l, b⟩ := a; rw [nAs]; rfl
set_option maxHeartbeats 400000 in
theorem lower_c {w : World} {m : Mem} {t : Tm} {vs_t : List Value} {sel tl : Bool} (hA : Agree w m) (h_t : TmR m t vs_t) (hT : Tab w) (hL : LwT t) (hf : zP t ≤ 100000000) (hbk : zt t ≤ 1000000000) : FnV Tryd.prog 12 #[.agg vs_t.toArray, .agg #[.bool sel, .bool tl]] w m (fun _ m v => (MP.cd (zCu sel tl t)).p m v) := by
 obtain ⟨⟨oK_t, cK_t, oA_t, cA_t, oR_t, cR_t, t0_t, t1_t, t2_t, t3_t, t4_t, t5_t, u0_t, u1_t, u2_t, u3_t, u4_t, u5_t⟩, rfl, hon_t, hkk_t, haa_t, hrr_t⟩ := h_t.open_
 dsimp only at hkk_t haa_t hrr_t
 have hbg_t := hkk_t.big; have hcp_t := hkk_t.cap; have hbh_t := haa_t.big; have hcq_t := haa_t.cap
 refine zX (vs := [_, _]) func12 rfl rfl rfl fun a0 hfr0 => ?_
 have hst0 := zW hA (zf [] _ w m)
 have hM : MLe m m := MLe.refl m
 refine zB fun _ hK1 => ?_
 replace hst0 := hst0.more (r := .free) trivial List.nodup_nil (by simp [Res.blocks])
 refine ra0 (tch := [(2, 0, (fun v => .blk v _))]) hst0 hfr0 (.cons rfl (zv rfl rfl) <| .cons rfl (zv rfl rfl) <| .consT rfl rfl (fun _ => rfl) rfl (zQ zeroValue46 rfl) <| .nil) fun a1 w1 m1 hst1 hle1 hk1 => ?_
 have hfr1 := hk1.fr (.nil)
 obtain ⟨g2, e2, hc2⟩ := hk1.ex 2 rfl
 replace hfr1 := hfr1.cons e2
 obtain ⟨g3, e3, hc3⟩ := hk1.ex 3 rfl
 replace hfr1 := hfr1.cons e3
 obtain ⟨g4, e4, _⟩ := hk1.ex 4 rfl
 replace hfr1 := hfr1.cons e4
 replace hst1 := hst1.fin (L' := [_]) (.cons e4 <| .nil)
 replace h_t := h_t.mono hle1
 replace hkk_t := hkk_t.mono hle1
 replace haa_t := haa_t.mono hle1
 replace hrr_t := hrr_t.mono hle1
 replace hM := hM.trans hle1
 clear hst0 hfr0 hk1
 refine hK1 _ _ ?_
 refine zB fun _ hK5 => ?_
 replace hst1 := hst1.more (r := .free) trivial List.nodup_nil (by simp [Res.blocks])
 refine ra0 (tch := [(2, 1, (fun v => .blk v _))]) hst1 hfr1 (.cons rfl (zO rfl hc3 isAgg38 sizeOf38 rfl rfl) <| .cons rfl (zq (.cons rfl <| .nil) underlying75 zeroValue75 (.cons sizeOf38 <| .cons sizeOf3 <| .nil) rfl) <| .consT rfl rfl (fun _ => rfl) rfl (ob_boxL rfl rfl) <| .consA 8 rfl rfl <| .nil) fun a2 w2 m2 hst2 hle2 hk2 => ?_
 have hfr2 := hk2.fr (.o 2 <| .o 4 <| .nil)
 obtain ⟨g8, e6, _⟩ := hk2.ex 8 rfl
 replace hfr2 := hfr2.cons (hk2.same 5 rfl e6)
 replace hst2 := hst2.fin (L' := [_, _]) (.cons e6 <| .nil)
 replace h_t := h_t.mono hle2
 replace hkk_t := hkk_t.mono hle2
 replace haa_t := haa_t.mono hle2
 replace hrr_t := hrr_t.mono hle2
 replace hc2 := hc2.mono hle2
 replace hc3 := hc3.mono hle2
 replace hM := hM.trans hle2
 clear hst1 hfr1 hk2
 refine hK5 _ _ ?_
 refine zB fun _ hK7 => ?_
 refine zu 3 (by kernel_rfl) ?_
 have hNT8 : Zx g8 := notTab_new hT (own_new hst2 (k := 1) rfl)
 refine zm (tch := [(2, 1, (fun _ => .blk (.pointer (some ⟨g8, 0, none⟩)) (.cells #[.bool sel, .bool tl, .int .i64 (((zT sel tl (zP t) t 0).2 : Nat) : Int)] 75)))]) hst2 hfr2 (by kernel_rfl) (by kernel_rfl) (by kernel_rfl) (.cons rfl (zD rfl) <| .cons rfl (zO rfl hc2 isAgg33 sizeOf33 rfl rfl) <| .consT rfl rfl (fun _ => rfl) rfl (Za rfl (.cons rfl <| .cons rfl <| .nil) call31 (κ := .ex (MP.cd (zCu sel tl t))) (fun σ w m hK hr hkn => by have hle_ := KC.le hK; have hA := KC.agree hK; have hM := hM.trans hle_; have h_t := h_t.mono hle_; have hkk_t := hkk_t.mono hle_; have haa_t := haa_t.mono hle_; have hrr_t := hrr_t.mono hle_; have hc2 := hc2.mono hle_; have hc3 := hc3.mono hle_; have hT := zBk hT hK.st.ext; exact zAk (n := 0) (code_c (zP t)) hA hr h_t hT hL (Nat.le_refl _) hbk (by omega) hNT8)) <| .nil) fun a3 w3 m3 hst3 hle3 hk3 => ?_
 have hfr3 := hk3.fr (.o 2 <| .o 4 <| .o 5 <| .nil)
 obtain ⟨yp, e8, hyp⟩ := hk3.ex 11 rfl
 replace hfr3 := hfr3.cons e8
 replace hst3 := hst3.fin (L' := [_, _]) (.cons e8 <| .nil)
 clear hst2 hfr2 hk3
 refine zm (tch := [(0, 0, (fun _ => .blk _ _))]) hst3 hfr3 (by kernel_rfl) (by kernel_rfl) (by kernel_rfl) (.consT rfl rfl (fun _ => rfl) rfl (za rfl rfl rfl sizeOf46 rfl rfl rfl) <| .nil) fun a4 w4 m4 hst4 hle4 hk4 => ?_
 have hfr4 := hk4.fr (.o 2 <| .o 4 <| .o 5 <| .o 11 <| .nil)
 replace hst4 := hst4.fin (L' := [_, _]) (.cons rfl <| .nil)
 try simp only [List.take_succ_cons, List.take_zero, List.drop_succ_cons, List.drop_zero, List.cons_append, List.nil_append, List.append_nil, List.length_cons, List.length_nil, Nat.zero_add, Nat.reduceAdd] at hst4
 replace hyp := hyp.mono hle4
 clear hst3 hfr3 hk4
 refine hK7 _ _ ?_
 refine zK ?_
 repeat (with_reducible first | refine zI ?_ | refine zF ?_)
 exact zL hst4 hfr4 rfl (.cell rfl (zn (zl (hst4.loc.at_ (k := 0) rfl)) isAgg46 sizeOf46) <| .nil) (⟨yp, rfl, hyp⟩)
abbrev zCh (t : Cd) : Prop := ∀ {w : World} {m : Mem} {vs_t : List Value} {k : Int} (hA : Agree w m) (h_t : CdR m t vs_t) (hb : nK k t ≤ 1000000000), FnV Tryd.prog 16 #[.agg vs_t.toArray, .int .i64 k] w m (fun _ _ v => v = .int .i64 (nK k t : Int))
set_option maxHeartbeats 800000 in
theorem lcount_s {t : Cd} (ihk : ∀ u ∈ t.kids, zCh u) (iha : ∀ a ∈ t.arms, zCh a.body) {w : World} {m : Mem} {vs_t : List Value} {k : Int} (hA : Agree w m) (h_t : CdR m t vs_t) (hb : nK k t ≤ 1000000000) : FnV Tryd.prog 16 #[.agg vs_t.toArray, .int .i64 k] w m (fun _ _ v => v = .int .i64 (nK k t : Int)) := by
 obtain ⟨⟨oK_t, cK_t, oA_t, cA_t⟩, rfl, ⟨hik_t, hin_t⟩, hkk_t, haa_t⟩ := h_t.open_
 dsimp only at hkk_t haa_t
 have hbg_t := hkk_t.big; have hcp_t := hkk_t.cap; have hbh_t := haa_t.big; have hcq_t := haa_t.cap
 refine zX (vs := [_, _]) func16 rfl rfl rfl fun a0 hfr0 => ?_
 have hst0 := zW hA (zf [] _ w m)
 have hM : MLe m m := MLe.refl m
 have hce := nK_eq k t
 refine zB fun _ hK1 => ?_
 refine rp0 hst0 hfr0 (.cons rfl (zv rfl rfl) <| .cons rfl (zC rfl) <| .nil) fun a1 w1 m1 hst1 hle1 hk1 => ?_
 have hfr1 := hk1.fr (.o 1 <| .nil)
 obtain ⟨g2, e2, hc2⟩ := hk1.ex 2 rfl
 replace hfr1 := hfr1.cons e2
 replace h_t := h_t.mono hle1
 replace hkk_t := hkk_t.mono hle1
 replace haa_t := haa_t.mono hle1
 clear hst0 hfr0 hk1
 refine hK1 _ _ ?_
 refine zB fun _ hK3 => ?_
 refine rp0 hst1 hfr1 (.cons rfl (zC rfl) <| .nil) fun a2 w2 m2 hst2 hle2 hk2 => ?_
 have hfr2 := hk2.fr (.o 1 <| .o 2 <| .n 5 <| .nil)
 replace h_t := h_t.mono hle2
 replace hkk_t := hkk_t.mono hle2
 replace haa_t := haa_t.mono hle2
 replace hc2 := hc2.mono hle2
 clear hst1 hfr1 hk2
 refine hK3 _ _ ?_
 refine zAt (T := [(1, _), (2, _)]) (fun (y : Int) => ([(5, .int .i64 y)] : List (Nat × Value))) (fun y => []) (fun (y : Int) m => (fun (c0 : Int) => (c0 = if t.kind = k then 1 else 0)) y) ((0)) ⟨hst2, MLe.refl _, hfr2.sub (.c <| .c <| .c <| .nil), trivial⟩ (fun y a3 w3 m3 hh3 => ?_) (fun K4 hj4 => ?_)
 ·have hst3 := hh3.st; have hle3 := hh3.le; have hfr3 := hh3.fr; have hrel := hh3.rel; clear hh3
  clear hst2 hfr2
  obtain ⟨c0, rfl⟩ : ∃ z, z = y := ⟨_, rfl⟩
  try dsimp only at hrel
  try dsimp only at hfr3
  try dsimp only at hst3
  have hc0 := hrel
  subst hc0
  refine zB fun _ hK5 => ?_
  refine zB fun _ hK6 => ?_
  replace hc2 := hc2.mono hle3
  refine rp0 hst3 hfr3 (.cons rfl (zA (off := 4) rfl underlying46 rfl rfl sizeOf43 rfl) <| .cons rfl (zE rfl hc2 isAgg43 rfl) <| .cons rfl (zY rfl underlying43) <| .cons rfl (zD rfl) <| .nil) fun a4 w4 m4 hst4 hle4 hk4 => ?_
  have hfr4 := hk4.fr (.o 5 <| .o 1 <| .o 2 <| .n 17 <| .n 18 <| .n 19 <| .nil)
  clear hst3 hfr3 hk4
  refine hK6 _ _ ?_
  refine zN ?_
  refine ze (T := [(1, _), (2, _), (17, _), (18, _)]) (fun (y : Nat × Int) => ([(5, .int .i64 y.2), (19, .int .i64 (y.1 : Int))] : List (Nat × Value))) (fun _ => _) (fun (y : Nat × Int) m => (fun (y : Nat) (a : Int) => (y ≤ t.kids.length) ∧ (a + nKs k (t.kids.drop y) = (((if t.kind = k then 1 else 0) + nKs k t.kids : Nat) : Int)) ∧ (0 ≤ a)) y.1 y.2) (fun y => t.kids.length - y.1) ((0, (if t.kind = k then 1 else 0))) ⟨hst4, MLe.refl _, hfr4.sub (.c <| .c <| .c <| .c <| .c <| .c <| .nil), ⟨Nat.zero_le _, by rw [List.drop_zero]; split <;> simp_all <;> omega, by split <;> omega⟩⟩ fun y a5 w5 m5 hh5 => ?_
  have hst5 := hh5.st; have hle5 := hh5.le; have hfr5 := hh5.fr; have hrel := hh5.rel; clear hh5
  clear hst4 hfr4
  obtain ⟨y, a⟩ := y
  dsimp only at hrel hfr5 hst5
  obtain ⟨hyn, ha, ha0⟩ := hrel
  have hlh5 := hle5
  refine zB fun _ hK8 => ?_
  refine rp0 hst5 hfr5 (.cons rfl (z7 rfl rfl) <| .nil) fun a6 w6 m6 hst6 hle6 hk6 => ?_
  have hfr6 := hk6.fr (.o 5 <| .o 19 <| .o 1 <| .o 2 <| .o 17 <| .o 18 <| .n 20 <| .nil)
  clear hst5 hfr5 hk6
  refine hK8 _ _ ?_
  refine zB fun _ hK9 => ?_
  refine zG hfr6 rfl rfl (fun hb20 => ?_) (fun hb20 => ?_)
  ·try simp only [nqs] at hb20
   refine zJ ?_
   refine hK9 _ _ ?_
   refine zB fun _ hK10 => ?_
   refine zN ?_
   refine zB fun _ hK11 => ?_
   have zq1 := hle5.trans hle6
   have zq2 := hle4.trans zq1
   have zq3 := hle3.trans zq2
   replace hkk_t := hkk_t.mono zq3
   obtain ⟨p12, vs12, x12, ho12, hd12, hm_x12, ht12, hcv12, hl12, hv12⟩ := hkk_t.nth (k := y) (by omega)
   cases ho12
   obtain ⟨⟨oK12, cK12, oA12, cA12⟩, rfl, ⟨hik12, hin12⟩, hkk12, haa12⟩ := hv12.open_
   dsimp only at hkk12 haa12
   have hbg12 := hkk12.big; have hcp12 := hkk12.cap; have hbh12 := haa12.big; have hcq12 := haa12.cap
   rw [hd12, nKs] at ha
   replace hst6 := hst6.more (r := .free) trivial List.nodup_nil (by simp [Res.blocks])
   refine ra0 (tch := [(2, 0, (fun v => .blk v _)), (3, 0, (fun v => .blk v _))]) hst6 hfr6 (.cons rfl (zH (k := y) rfl rfl underlying43 sizeOf46 rfl (by omega)) <| .cons rfl (zO rfl hcv12 isAgg46 sizeOf46 rfl rfl) <| .consT rfl rfl (fun _ => rfl) rfl (zQ zeroValue46 rfl) <| .consT rfl rfl (fun _ => rfl) rfl (zU 7 rfl rfl rfl fun y7 => zb rfl rfl rfl rfl rfl sizeOf46 rfl rfl hv12.one) <| .nil) fun a7 w7 m7 hst7 hle7 hk7 => ?_
   have hfr7 := hk7.fr (.o 5 <| .o 19 <| .o 1 <| .o 2 <| .o 17 <| .o 18 <| .nil)
   obtain ⟨g13, e13, _⟩ := hk7.ex 7 rfl
   replace hfr7 := hfr7.cons e13
   replace hst7 := hst7.fin (L' := [_]) (.cons e13 <| .cons e13 <| .nil)
   try simp only [List.take_succ_cons, List.take_zero, List.drop_succ_cons, List.drop_zero, List.cons_append, List.nil_append, List.append_nil, List.length_cons, List.length_nil, Nat.zero_add, Nat.reduceAdd] at hst7
   clear hst6 hfr6 hk7
   refine hK11 _ _ ?_
   have zq4 := zq3.trans hle7
   replace h_t := h_t.mono zq4
   replace haa_t := haa_t.mono zq4
   have zq5 := zq2.trans hle7
   replace hc2 := hc2.mono zq5
   replace hkk_t := hkk_t.mono hle7
   replace hcv12 := hcv12.mono hle7
   replace hv12 := hv12.mono hle7
   replace hkk12 := hkk12.mono hle7
   replace haa12 := haa12.mono hle7
   refine rp0 hst7 hfr7 (.cons rfl (zD rfl) <| .cons rfl (zd (j := 0) rfl rfl isAgg46 sizeOf46 rfl) <| .cons rfl (zD rfl) <| .cons rfl (zc rfl (.cons rfl <| .cons rfl <| .nil) call16 (fun w m hK => by have hle_ := KC.le hK; have hA := KC.agree hK; have h_t := h_t.mono hle_; have hkk_t := hkk_t.mono hle_; have haa_t := haa_t.mono hle_; have hc2 := hc2.mono hle_; have hcv12 := hcv12.mono hle_; have hv12 := hv12.mono hle_; have hkk12 := hkk12.mono hle_; have haa12 := haa12.mono hle_; exact ihk _ (by assumption) hA hv12 (by omega))) <| .cons rfl (zk rfl rfl ⟨by omega, by omega⟩) <| .cons rfl (zC rfl) <| .nil) fun a8 w8 m8 hst8 hle8 hk8 => ?_
   have hfr8 := hk8.fr (.o 19 <| .o 1 <| .o 2 <| .o 17 <| .o 18 <| .n 5 <| .nil)
   clear hst7 hfr7 hk8
   refine hK10 _ _ ?_
   refine rp0 hst8 hfr8 (.cons rfl (zk rfl rfl ⟨by omega, by omega⟩) <| .cons rfl (zD rfl) <| .nil) fun a9 w9 m9 hst9 hle9 hk9 => ?_
   have hfr9 := hk9.fr (.o 1 <| .o 2 <| .o 17 <| .o 18 <| .o 5 <| .n 19 <| .nil)
   clear hst8 hfr8 hk9
   have hst9 := hst9.take 0
   have zq6 := hle8.trans hle9
   have zq7 := hle7.trans zq6
   have zq8 := hle6.trans zq7
   have hlh9 := hlh5.trans zq8
   exact ⟨(y + 1, (a + (nK k x12 : Int))), m9, by show t.kids.length - (y + 1) < t.kids.length - y; omega, ⟨hst9, hlh9, hfr9.sub (.c <| .c <| .c <| .c <| .c <| .c <| .nil), ⟨by show y + 1 ≤ t.kids.length; omega, by show a + (nK k x12 : Int) + ((nKs k (t.kids.drop (y + 1)) : Nat) : Int) = _; omega, by show 0 ≤ a + (nK k x12 : Int); omega⟩⟩⟩
  ·try simp only [nqs] at hb20
   have hge : y = t.kids.length := by omega
   rw [List.drop_of_length_le (by omega), nKs] at ha
   refine zg ?_
   refine hK5 _ _ ?_
   refine zB fun _ hK14 => ?_
   refine zB fun _ hK15 => ?_
   have zq9 := hle5.trans hle6
   have zq10 := hle4.trans zq9
   replace hc2 := hc2.mono zq10
   refine rp0 hst6 hfr6 (.cons rfl (zA (off := 5) rfl underlying46 rfl rfl sizeOf44 rfl) <| .cons rfl (zE rfl hc2 isAgg44 rfl) <| .cons rfl (zY rfl underlying44) <| .cons rfl (zD rfl) <| .nil) fun a7 w7 m7 hst7 hle7 hk7 => ?_
   have hfr7 := hk7.fr (.o 5 <| .o 19 <| .o 1 <| .n 30 <| .n 31 <| .n 32 <| .nil)
   clear hst6 hfr6 hk7
   refine hK15 _ _ ?_
   refine zN ?_
   have zq11 := hle6.trans hle7
   have hlh7 := hlh5.trans zq11
   have hlq16 := hlh7
   refine ze (T := [(19, _), (1, _), (30, _), (31, _)]) (fun (y : Nat × Int) => ([(5, .int .i64 y.2), (32, .int .i64 (y.1 : Int))] : List (Nat × Value))) (fun _ => _) (fun (y : Nat × Int) m => (fun (y : Nat) (b : Int) => (y ≤ t.arms.length) ∧ (b + nAs k (t.arms.drop y) = (nK k t : Int)) ∧ (0 ≤ b)) y.1 y.2) (fun y => t.arms.length - y.1) ((0, a)) ⟨hst7, MLe.refl _, hfr7.sub (.c <| .c <| .c <| .c <| .c <| .c <| .nil), ⟨Nat.zero_le _, by rw [List.drop_zero]; omega, by omega⟩⟩ fun y a8 w8 m8 hh8 => ?_
   have hst8 := hh8.st; have hle8 := hh8.le; have hfr8 := hh8.fr; have hrel := hh8.rel; clear hh8
   clear hst7 hfr7
   obtain ⟨y, b⟩ := y
   dsimp only at hrel hfr8 hst8
   obtain ⟨hyn, hb_, hb0⟩ := hrel
   have hlh8 := hle8
   refine zB fun _ hK17 => ?_
   refine rp0 hst8 hfr8 (.cons rfl (z7 rfl rfl) <| .nil) fun a9 w9 m9 hst9 hle9 hk9 => ?_
   have hfr9 := hk9.fr (.o 5 <| .o 32 <| .o 19 <| .o 1 <| .o 30 <| .o 31 <| .n 33 <| .nil)
   clear hst8 hfr8 hk9
   refine hK17 _ _ ?_
   refine zB fun _ hK18 => ?_
   refine zG hfr9 rfl rfl (fun hb33 => ?_) (fun hb33 => ?_)
   ·try simp only [nqs] at hb33
    refine zJ ?_
    refine hK18 _ _ ?_
    refine zB fun _ hK19 => ?_
    refine zN ?_
    refine zB fun _ hK20 => ?_
    have zq12 := hle8.trans hle9
    have zq13 := hle7.trans zq12
    have zq14 := zq10.trans zq13
    have zq15 := hle3.trans zq14
    replace haa_t := haa_t.mono zq15
    obtain ⟨p21, vs21, x21, ho21, hd21, hm_x21, ht21, hcv21, hl21, hv21⟩ := haa_t.nth (k := y) (by omega)
    cases ho21
    obtain ⟨oV21, cV21, bs21, rfl, hva21, hbd21⟩ := hv21.open_
    have hbv21 := hva21.big; have hcv21_ := hva21.cap
    obtain ⟨⟨oK21b, cK21b, oA21b, cA21b⟩, rfl, ⟨hik21b, hin21b⟩, hkk21b, haa21b⟩ := hbd21.open_
    dsimp only at hkk21b haa21b
    have hbg21b := hkk21b.big; have hcp21b := hkk21b.cap; have hbh21b := haa21b.big; have hcq21b := haa21b.cap
    rw [hd21, nAs_cons] at hb_
    replace hst9 := hst9.more (r := .free) trivial List.nodup_nil (by simp [Res.blocks])
    refine ra0 (tch := [(2, 0, (fun v => .blk v _)), (3, 0, (fun v => .blk v _))]) hst9 hfr9 (.cons rfl (zH (k := y) rfl rfl underlying44 sizeOf78 rfl (by omega)) <| .cons rfl (zO rfl hcv21 isAgg78 sizeOf78 rfl rfl) <| .consT rfl rfl (fun _ => rfl) rfl (zQ zeroValue78 rfl) <| .consT rfl rfl (fun _ => rfl) rfl (zU 9 rfl rfl rfl fun y9 => zb rfl rfl rfl rfl rfl sizeOf78 rfl rfl hv21.one) <| .nil) fun a10 w10 m10 hst10 hle10 hk10 => ?_
    have hfr10 := hk10.fr (.o 5 <| .o 32 <| .o 19 <| .o 1 <| .o 30 <| .o 31 <| .nil)
    obtain ⟨g22, e22, _⟩ := hk10.ex 9 rfl
    replace hfr10 := hfr10.cons e22
    replace hst10 := hst10.fin (L' := [_]) (.cons e22 <| .cons e22 <| .nil)
    try simp only [List.take_succ_cons, List.take_zero, List.drop_succ_cons, List.drop_zero, List.cons_append, List.nil_append, List.append_nil, List.length_cons, List.length_nil, Nat.zero_add, Nat.reduceAdd] at hst10
    clear hst9 hfr9 hk10
    refine hK20 _ _ ?_
    have zq16 := zq15.trans hle10
    replace h_t := h_t.mono zq16
    replace hkk_t := hkk_t.mono zq16
    have zq17 := zq13.trans hle10
    replace hc2 := hc2.mono zq17
    replace haa_t := haa_t.mono hle10
    replace hcv21 := hcv21.mono hle10
    replace hv21 := hv21.mono hle10
    replace hva21 := hva21.mono hle10
    replace hbd21 := hbd21.mono hle10
    replace hkk21b := hkk21b.mono hle10
    replace haa21b := haa21b.mono hle10
    refine rp0 hst10 hfr10 (.cons rfl (zD rfl) <| .cons rfl (zA (off := 3) rfl underlying78 rfl rfl sizeOf46 rfl) <| .cons rfl (Zo (j := 0) rfl rfl isAgg46 sizeOf46 rfl rfl) <| .cons rfl (zD rfl) <| .cons rfl (zc rfl (.cons rfl <| .cons rfl <| .nil) call16 (fun w m hK => by have hle_ := KC.le hK; have hA := KC.agree hK; have h_t := h_t.mono hle_; have hkk_t := hkk_t.mono hle_; have haa_t := haa_t.mono hle_; have hc2 := hc2.mono hle_; have hcv21 := hcv21.mono hle_; have hv21 := hv21.mono hle_; have hva21 := hva21.mono hle_; have hbd21 := hbd21.mono hle_; have hkk21b := hkk21b.mono hle_; have haa21b := haa21b.mono hle_; exact iha _ (by assumption) hA hbd21 (by omega))) <| .cons rfl (zk rfl rfl ⟨by omega, by omega⟩) <| .cons rfl (zC rfl) <| .nil) fun a11 w11 m11 hst11 hle11 hk11 => ?_
    have hfr11 := hk11.fr (.o 32 <| .o 19 <| .o 1 <| .o 30 <| .o 31 <| .n 5 <| .nil)
    clear hst10 hfr10 hk11
    refine hK19 _ _ ?_
    refine rp0 hst11 hfr11 (.cons rfl (zk rfl rfl ⟨by omega, by omega⟩) <| .cons rfl (zD rfl) <| .nil) fun a12 w12 m12 hst12 hle12 hk12 => ?_
    have hfr12 := hk12.fr (.o 19 <| .o 1 <| .o 30 <| .o 31 <| .o 5 <| .n 32 <| .nil)
    clear hst11 hfr11 hk12
    have hst12 := hst12.take 0
    have zq18 := hle11.trans hle12
    have zq19 := hle10.trans zq18
    have zq20 := hle9.trans zq19
    have hlh12 := hlh8.trans zq20
    exact ⟨(y + 1, (b + (nK k x21.body : Int))), m12, by show t.arms.length - (y + 1) < t.arms.length - y; omega, ⟨hst12, hlh12, hfr12.sub (.c <| .c <| .c <| .c <| .c <| .c <| .nil), ⟨by show y + 1 ≤ t.arms.length; omega, by show b + (nK k x21.body : Int) + ((nAs k (t.arms.drop (y + 1)) : Nat) : Int) = _; omega, by show 0 ≤ b + (nK k x21.body : Int); omega⟩⟩⟩
   ·try simp only [nqs] at hb33
    have hge : y = t.arms.length := by omega
    rw [List.drop_of_length_le (by omega), nAs] at hb_
    refine zg ?_
    refine hK14 _ _ ?_
    refine zB fun _ hK23 => ?_
    refine rp0 hst9 hfr9 (.cons rfl (zD rfl) <| .cons rfl (zC rfl) <| .nil) fun a10 w10 m10 hst10 hle10 hk10 => ?_
    have hfr10 := hk10.fr (.o 5 <| .o 32 <| .o 19 <| .n 4 <| .nil)
    clear hst9 hfr9 hk10
    refine hK23 _ _ ?_
    refine zK ?_
    repeat (with_reducible first | refine zI ?_ | refine zF ?_)
    exact zL hst10 hfr10 rfl (.tmp rfl <| .nil) (by refine congrArg (Value.int _) ?_; omega)
 ·have hlj4 : MLe m2 m2 := MLe.refl _
  refine zB fun _ hK25 => ?_
  refine rp0 hst2 hfr2 (.cons rfl (zA (off := 0) rfl underlying46 rfl rfl sizeOf3 rfl) <| .cons rfl (zE rfl hc2 isAgg3 rfl) <| .cons rfl (zD rfl) <| .cons rfl (zV rfl rfl) <| .nil) fun a3 w3 m3 hst3 hle3 hk3 => ?_
  have hfr3 := hk3.fr (.o 1 <| .o 2 <| .o 5 <| .n 13 <| .nil)
  clear hst2 hfr2 hk3
  refine hK25 _ _ ?_
  refine zG hfr3 rfl rfl (fun hb13 => ?_) (fun hb13 => ?_)
  ·try simp only [nqs] at hb13
   refine rp0 hst3 hfr3 (.cons rfl (zD rfl) <| .cons rfl (zk rfl rfl ⟨by omega, by omega⟩) <| .cons rfl (zC rfl) <| .nil) fun a4 w4 m4 hst4 hle4 hk4 => ?_
   have hfr4 := hk4.fr (.o 1 <| .o 2 <| .n 5 <| .nil)
   clear hst3 hfr3 hk4
   repeat (with_reducible first | refine ZM ?_ | refine ZF ?_ | refine zw ?_)
   have zq21 := hle3.trans hle4
   replace hlj4 := hlj4.trans zq21
   exact hj4 ((0 + 1)) _ _ _ ⟨hst4, hlj4, hfr4.sub (.c <| .c <| .c <| .nil), by simp [hb13]⟩
  ·try simp only [nqs] at hb13
   refine zJ ?_
   repeat (with_reducible first | refine ZM ?_ | refine ZF ?_ | refine zw ?_)
   replace hlj4 := hlj4.trans hle3
   exact hj4 (0) _ _ _ ⟨hst3, hlj4, hfr3.sub (.c <| .c <| .c <| .nil), by simp [hb13]⟩
theorem lcount_c (t : Cd) : zCh t := Cd.rec_ (p := zCh) (fun t ihk iha => lcount_s ihk iha) t
end Go.Proofs.YtmdhhjmomilhjaaDoor
namespace Go.Proofs.YtmdhhjmomilhjaaDoor
open Go.Proofs.Tryd
set_option linter.all false
set_option maxRecDepth 4000
open Go.RowKit
open Go.Lib (itoa decDigits)
end Go.Proofs.YtmdhhjmomilhjaaDoor
namespace Go.Proofs.YtmdhhjmomilhjaaDoor
open Go.Proofs.Tryd
set_option linter.all false
set_option maxRecDepth 4000
open Go.RowKit
end Go.Proofs.YtmdhhjmomilhjaaDoor
