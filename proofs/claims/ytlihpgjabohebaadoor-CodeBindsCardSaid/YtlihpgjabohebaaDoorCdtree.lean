/-
  Code (package api) as trees, and where it lies in the snapshot. Conditions: those of each lemma; no program occurs here.
-/
import Derived.Test.YtlihpgjabohebaaDoorTyapp
import Derived.Test.YtlihpgjabohebaaDoorMrow
namespace Go.Proofs.YtlihpgjabohebaaDoor
set_option linter.all false
open Go.RowKit
mutual
/-- Code as a tree. -/
inductive Cd where
  | mk (kind : Int) (name param : Str) (n : Int) (kids : List Cd) (arms : List Ca)
inductive Ca where
  | mk (name : Str) (vars : List Str) (tail : Bool) (body : Cd)
end
def Cd.kind : Cd → Int | ⟨k, _, _, _, _, _⟩ => k
def Cd.name : Cd → Str | ⟨_, s, _, _, _, _⟩ => s
def Cd.param : Cd → Str | ⟨_, _, p, _, _, _⟩ => p
def Cd.n : Cd → Int | ⟨_, _, _, n, _, _⟩ => n
def Cd.kids : Cd → List Cd | ⟨_, _, _, _, ks, _⟩ => ks
def Cd.arms : Cd → List Ca | ⟨_, _, _, _, _, as⟩ => as
def Ca.name : Ca → Str | ⟨s, _, _, _⟩ => s
def Ca.vars : Ca → List Str | ⟨_, l, _, _⟩ => l
def Ca.tail : Ca → Bool | ⟨_, _, t, _⟩ => t
def Ca.body : Ca → Cd | ⟨_, _, _, b⟩ => b
theorem Cd.eta (t : Cd) : t = ⟨t.kind, t.name, t.param, t.n, t.kids, t.arms⟩ := by cases t; rfl
theorem Ca.eta (a : Ca) : a = ⟨a.name, a.vars, a.tail, a.body⟩ := by cases a; rfl
theorem Cd.kid_lt {t u : Cd} (h : u ∈ t.kids) : SizeOf.sizeOf u < SizeOf.sizeOf t := by
  obtain ⟨k, s, p, n, ks, as⟩ := t
  have := List.sizeOf_lt_of_mem h
  simp only [Cd.kids] at this
  simp only [Cd.mk.sizeOf_spec]; omega
theorem Cd.arm_lt {t : Cd} {a : Ca} (h : a ∈ t.arms) : SizeOf.sizeOf a.body < SizeOf.sizeOf t := by
  obtain ⟨k, s, p, n, ks, as⟩ := t
  have := List.sizeOf_lt_of_mem h
  obtain ⟨s, l, tl, b⟩ := a
  simp only [Cd.arms, Ca.mk.sizeOf_spec] at this
  simp only [Cd.mk.sizeOf_spec, Ca.body]; omega
theorem Cd.rec_ {p : Cd → Prop} (h : ∀ t, (∀ u ∈ t.kids, p u) → (∀ a ∈ t.arms, p a.body) → p t) (t : Cd) : p t := h t (fun u hu => Cd.rec_ h u) (fun a ha => Cd.rec_ h a.body)
termination_by SizeOf.sizeOf t
decreasing_by
  · exact Cd.kid_lt hu
  · exact Cd.arm_lt ha
/-- Where a code's lists lie. -/
structure CdY where
  o1 : Option Addr
  c1 : Nat
  o2 : Option Addr
  c2 : Nat
abbrev cdV (t : Cd) (y : CdY) : List Value := [.int .i64 t.kind, S t.name, S t.param, .int .i64 t.n, .slice y.o1 t.kids.length y.c1, .slice y.o2 t.arms.length y.c2]
mutual
/-- These cells are the code's. -/
def CdR (m : Mem) : Cd → List Value → Prop
  | ⟨k, s, p, n, ks, as⟩, vs => ∃ y : CdY, vs = cdV ⟨k, s, p, n, ks, as⟩ y ∧ (InI64 k ∧ InI64 n) ∧ (ks.length ≤ y.c1 ∧ ks.length ≤ 9223372036854775807) ∧ (as.length ≤ y.c2 ∧ as.length ≤ 9223372036854775807) ∧ CdRs m y.o1 0 ks ∧ CaRs m y.o2 0 as
def CdRs (m : Mem) (o : Option Addr) : Nat → List Cd → Prop
  | _, [] => True
  | i, t :: ts => (∃ p vs, o = some p ∧ CellsAt m (p.add (i * 6)) vs ∧ CdR m t vs) ∧ CdRs m o (i + 1) ts
def CaRs (m : Mem) (o : Option Addr) : Nat → List Ca → Prop
  | _, [] => True
  | i, ⟨s, l, t, b⟩ :: ts => (∃ p vs, o = some p ∧ CellsAt m (p.add (i * 9)) vs ∧ ∃ oa ca bs, vs = S s :: .slice oa l.length ca :: .bool t :: bs ∧ Strs m oa l.length ca l ∧ CdR m b bs) ∧ CaRs m o (i + 1) ts
end
def CaR (m : Mem) (a : Ca) (vs : List Value) : Prop := ∃ o c bs, vs = S a.name :: .slice o a.vars.length c :: .bool a.tail :: bs ∧ Strs m o a.vars.length c a.vars ∧ CdR m a.body bs
abbrev Cds (m : Mem) (o : Option Addr) (n c : Nat) (l : List Cd) : Prop := Sl (fun m vs t => CdR m t vs) 6 m o n c l
abbrev Cas (m : Mem) (o : Option Addr) (n c : Nat) (l : List Ca) : Prop := Sl (fun m vs t => CaR m t vs) 9 m o n c l
theorem CdRs.at_ {m : Mem} {o : Option Addr} : ∀ {ts : List Cd} {i j : Nat} {t : Cd}, CdRs m o i ts → ts[j]? = some t → ∃ p vs, o = some p ∧ CellsAt m (p.add ((i + j) * 6)) vs ∧ CdR m t vs
  | [], _, _, _, _, h => by simp at h
  | t :: ts, i, 0, t', h, e => by
    simp only [List.getElem?_cons_zero, Option.some.injEq] at e; subst e
    simp only [CdRs] at h; exact h.1
  | t :: ts, i, j + 1, t', h, e => by
    simp only [CdRs] at h
    obtain ⟨p, vs, h1, h2, h3⟩ := CdRs.at_ (i := i + 1) h.2 (by simpa using e)
    exact ⟨p, vs, h1, by rw [show i + (j + 1) = i + 1 + j by omega]; exact h2, h3⟩
theorem CaRs.at_ {m : Mem} {o : Option Addr} : ∀ {ts : List Ca} {i j : Nat} {t : Ca}, CaRs m o i ts → ts[j]? = some t → ∃ p vs, o = some p ∧ CellsAt m (p.add ((i + j) * 9)) vs ∧ CaR m t vs
  | [], _, _, _, _, h => by simp at h
  | ⟨s, l, tl, b⟩ :: ts, i, 0, t', h, e => by
    simp only [List.getElem?_cons_zero, Option.some.injEq] at e; subst e
    simp only [CaRs] at h; exact h.1
  | ⟨s, l, tl, b⟩ :: ts, i, j + 1, t', h, e => by
    simp only [CaRs] at h
    obtain ⟨p, vs, h1, h2, h3⟩ := CaRs.at_ (i := i + 1) h.2 (by simpa using e)
    exact ⟨p, vs, h1, by rw [show i + (j + 1) = i + 1 + j by omega]; exact h2, h3⟩
theorem CdR.unfold {m : Mem} {t : Cd} {vs : List Value} (h : CdR m t vs) : ∃ y : CdY, vs = cdV t y ∧ (InI64 t.kind ∧ InI64 t.n) ∧ (t.kids.length ≤ y.c1 ∧ t.kids.length ≤ 9223372036854775807) ∧ (t.arms.length ≤ y.c2 ∧ t.arms.length ≤ 9223372036854775807) ∧ CdRs m y.o1 0 t.kids ∧ CaRs m y.o2 0 t.arms := by
  obtain ⟨k, s, p, n, ks, as⟩ := t
  simp only [CdR] at h; exact h
theorem CdR.len {m : Mem} {t : Cd} {vs : List Value} (h : CdR m t vs) : vs.length = 6 := by
  obtain ⟨y, rfl, _⟩ := h.unfold; rfl
theorem CdR.one {m : Mem} {t : Cd} {vs : List Value} (h : CdR m t vs) : vs.all (·.oneCell') = true := by
  obtain ⟨y, rfl, h1, _⟩ := h.unfold; rfl
theorem CaR.len {m : Mem} {t : Ca} {vs : List Value} (h : CaR m t vs) : vs.length = 9 := by
  obtain ⟨o, c, bs, rfl, _, hb⟩ := h; simp [hb.len]
theorem CaR.one {m : Mem} {t : Ca} {vs : List Value} (h : CaR m t vs) : vs.all (·.oneCell') = true := by
  obtain ⟨o, c, bs, rfl, _, hb⟩ := h
  simp only [List.all_cons, hb.one, Bool.and_true]; rfl
theorem CdR.open_ {m : Mem} {t : Cd} {vs : List Value} (h : CdR m t vs) : ∃ y : CdY, vs = cdV t y ∧ (InI64 t.kind ∧ InI64 t.n) ∧ Cds m y.o1 t.kids.length y.c1 t.kids ∧ Cas m y.o2 t.arms.length y.c2 t.arms := by
  obtain ⟨y, e, h1, h2, h3, h5, h6⟩ := h.unfold
  exact ⟨y, e, h1, ⟨rfl, h2.1, h2.2, fun i x hx => by
    obtain ⟨p, vs, e1, e2, e3⟩ := CdRs.at_ h5 hx
    exact ⟨p, vs, e1, by rw [Nat.zero_add] at e2; exact e2, e3.len, e3⟩⟩, ⟨rfl, h3.1, h3.2, fun i x hx => by
    obtain ⟨p, vs, e1, e2, e3⟩ := CaRs.at_ h6 hx
    exact ⟨p, vs, e1, by rw [Nat.zero_add] at e2; exact e2, e3.len, e3⟩⟩⟩
mutual
theorem CdR.mono {m m' : Mem} (hm : MLe m m') : ∀ {t : Cd} {vs : List Value}, CdR m t vs → CdR m' t vs
  | ⟨k, s, p, n, ks, as⟩, vs, h => by
    simp only [CdR] at h ⊢
    obtain ⟨y, e, h1, h2, h3, h5, h6⟩ := h
    exact ⟨y, e, h1, h2, h3, CdRs.mono hm h5, CaRs.mono hm h6⟩
theorem CdRs.mono {m m' : Mem} (hm : MLe m m') {o : Option Addr} : ∀ {ts : List Cd} {i : Nat}, CdRs m o i ts → CdRs m' o i ts
  | [], _, _ => by simp [CdRs]
  | t :: ts, i, h => by
    simp only [CdRs] at h ⊢
    obtain ⟨⟨p, vs, e1, e2, e3⟩, h2⟩ := h
    exact ⟨⟨p, vs, e1, e2.mono hm, CdR.mono hm e3⟩, CdRs.mono hm h2⟩
theorem CaRs.mono {m m' : Mem} (hm : MLe m m') {o : Option Addr} : ∀ {ts : List Ca} {i : Nat}, CaRs m o i ts → CaRs m' o i ts
  | [], _, _ => by simp [CaRs]
  | ⟨s, l, tl, b⟩ :: ts, i, h => by
    simp only [CaRs] at h ⊢
    obtain ⟨⟨p, vs, e1, e2, oa, ca, bs, e3, e4, e5⟩, h2⟩ := h
    exact ⟨⟨p, vs, e1, e2.mono hm, oa, ca, bs, e3, e4.mono hm, CdR.mono hm e5⟩, CaRs.mono hm h2⟩
end
theorem CaR.mono {m m' : Mem} {a : Ca} {vs : List Value} (h : CaR m a vs) (hm : MLe m m') : CaR m' a vs := by
  obtain ⟨o, c, bs, e, h1, h2⟩ := h; exact ⟨o, c, bs, e, h1.mono hm, h2.mono hm⟩
theorem CaR.open_ {m : Mem} {a : Ca} {vs : List Value} (h : CaR m a vs) : ∃ o c bs, vs = S a.name :: .slice o a.vars.length c :: .bool a.tail :: bs ∧ Strs m o a.vars.length c a.vars ∧ CdR m a.body bs := h
theorem Cds.mono {m m' : Mem} {o : Option Addr} {n c : Nat} {l : List Cd} (h : Cds m o n c l) (hm : MLe m m') : Cds m' o n c l := Sl.mono h (fun _ _ e => e.mono hm) hm
theorem Cas.mono {m m' : Mem} {o : Option Addr} {n c : Nat} {l : List Ca} (h : Cas m o n c l) (hm : MLe m m') : Cas m' o n c l := Sl.mono h (fun _ _ e => e.mono hm) hm
instance : RepR (fun m vs t => CdR m t vs) := ⟨fun hm h => h.mono hm, fun h => h.one⟩
instance : RepR (fun m vs t => CaR m t vs) := ⟨fun hm h => h.mono hm, fun h => h.one⟩
theorem CdR.build {m : Mem} {t : Cd} {y : CdY} (h1 : InI64 t.kind) (h2 : InI64 t.n) (hk : Cds m y.o1 t.kids.length y.c1 t.kids) (ha : Cas m y.o2 t.arms.length y.c2 t.arms) : CdR m t (cdV t y) := by
  obtain ⟨k, s, p, n, ks, as⟩ := t
  simp only [Cd.kids, Cd.arms] at hk ha
  simp only [CdR]
  refine ⟨y, rfl, ⟨h1, h2⟩, ⟨hk.cap, hk.big⟩, ⟨ha.cap, ha.big⟩, ?_, ?_⟩
  · have key : ∀ (ts : List Cd) (i : Nat), (∀ j t, ts[j]? = some t → ks[i + j]? = some t) → CdRs m y.o1 i ts := by
      intro ts
      induction ts with
      | nil => intro i _; simp [CdRs]
      | cons t ts ih =>
        intro i hi
        simp only [CdRs]
        obtain ⟨p, vs, e1, e2, _, e3⟩ := hk.at_ i t (by simpa using hi 0 t rfl)
        exact ⟨⟨p, vs, e1, e2, e3⟩, ih (i + 1) fun j u hj => by have := hi (j + 1) u (by simpa using hj); rw [show i + 1 + j = i + (j + 1) by omega]; exact this⟩
    exact key ks 0 fun j t hj => by rw [Nat.zero_add]; exact hj
  · have key : ∀ (ts : List Ca) (i : Nat), (∀ j t, ts[j]? = some t → as[i + j]? = some t) → CaRs m y.o2 i ts := by
      intro ts
      induction ts with
      | nil => intro i _; simp [CaRs]
      | cons t ts ih =>
        intro i hi
        obtain ⟨p, vs, e1, e2, _, e3⟩ := ha.at_ i t (by simpa using hi 0 t rfl)
        obtain ⟨s, l, tl, b⟩ := t
        simp only [CaRs]
        exact ⟨⟨p, vs, e1, e2, e3⟩, ih (i + 1) fun j u hj => by have := hi (j + 1) u (by simpa using hj); rw [show i + 1 + j = i + (j + 1) by omega]; exact this⟩
    exact key as 0 fun j t hj => by rw [Nat.zero_add]; exact hj
def MP.cd (t : Cd) : MP := MP.mem (fun y : CdY => .agg (cdV t y).toArray) (fun y m => CdR m t (cdV t y)) fun hm h => h.mono hm
def MP.cds (l : List Cd) : MP := MP.mem (fun y : Option Addr × Nat => .slice y.1 l.length y.2) (fun y m => Cds m y.1 l.length y.2 l) fun hm h => h.mono hm
end Go.Proofs.YtlihpgjabohebaaDoor
