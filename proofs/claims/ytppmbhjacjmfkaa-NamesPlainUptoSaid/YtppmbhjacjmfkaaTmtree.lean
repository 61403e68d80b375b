/-
  Terms (package api) as trees, and where they lie in the snapshot. Conditions: those of each lemma; no program occurs here.
-/
import Derived.Test.YtppmbhjacjmfkaaTyapp
import Derived.Test.YtppmbhjacjmfkaaMrow
namespace Go.Proofs.Ytppmbhjacjmfkaa
set_option linter.all false
open Go.RowKit
mutual
/-- A term as a tree; its types are left out. -/
inductive Tm where
  | mk (kind at_ : Int) (name param : Str) (n : Int) (kids : List Tm) (arms : List Ar) (row : Rw)
inductive Ar where
  | mk (name : Str) (vars : List Str) (body : Tm)
end
def Tm.kind : Tm → Int | ⟨k, _, _, _, _, _, _, _⟩ => k
def Tm.at_ : Tm → Int | ⟨_, a, _, _, _, _, _, _⟩ => a
def Tm.name : Tm → Str | ⟨_, _, s, _, _, _, _, _⟩ => s
def Tm.param : Tm → Str | ⟨_, _, _, p, _, _, _, _⟩ => p
def Tm.n : Tm → Int | ⟨_, _, _, _, n, _, _, _⟩ => n
def Tm.kids : Tm → List Tm | ⟨_, _, _, _, _, ks, _, _⟩ => ks
def Tm.arms : Tm → List Ar | ⟨_, _, _, _, _, _, as, _⟩ => as
def Tm.row : Tm → Rw | ⟨_, _, _, _, _, _, _, r⟩ => r
def Ar.name : Ar → Str | ⟨s, _, _⟩ => s
def Ar.vars : Ar → List Str | ⟨_, l, _⟩ => l
def Ar.body : Ar → Tm | ⟨_, _, b⟩ => b
theorem Tm.eta (t : Tm) : t = ⟨t.kind, t.at_, t.name, t.param, t.n, t.kids, t.arms, t.row⟩ := by cases t; rfl
theorem Ar.eta (a : Ar) : a = ⟨a.name, a.vars, a.body⟩ := by cases a; rfl
theorem Tm.kid_lt {t u : Tm} (h : u ∈ t.kids) : SizeOf.sizeOf u < SizeOf.sizeOf t := by
  obtain ⟨k, a, s, p, n, ks, as, r⟩ := t
  have := List.sizeOf_lt_of_mem h
  simp only [Tm.kids] at this
  simp only [Tm.mk.sizeOf_spec]; omega
theorem Tm.arm_lt {t : Tm} {a : Ar} (h : a ∈ t.arms) : SizeOf.sizeOf a.body < SizeOf.sizeOf t := by
  obtain ⟨k, a', s, p, n, ks, as, r⟩ := t
  have := List.sizeOf_lt_of_mem h
  obtain ⟨s, l, b⟩ := a
  simp only [Tm.arms, Ar.mk.sizeOf_spec] at this
  simp only [Tm.mk.sizeOf_spec, Ar.body]; omega
theorem Tm.rec_ {p : Tm → Prop} (h : ∀ t, (∀ u ∈ t.kids, p u) → (∀ a ∈ t.arms, p a.body) → p t) (t : Tm) : p t := h t (fun u hu => Tm.rec_ h u) (fun a ha => Tm.rec_ h a.body)
termination_by SizeOf.sizeOf t
decreasing_by
  · exact Tm.kid_lt hu
  · exact Tm.arm_lt ha
/-- What a term's cells bear that the tree leaves out. -/
structure TmY where
  o1 : Option Addr
  c1 : Nat
  o2 : Option Addr
  c2 : Nat
  o3 : Option Addr
  c3 : Nat
  t0 : Value
  t1 : Value
  t2 : Value
  t3 : Value
  t4 : Value
  t5 : Value
  u0 : Value
  u1 : Value
  u2 : Value
  u3 : Value
  u4 : Value
  u5 : Value
def TmY.one (y : TmY) : Prop := [y.t0, y.t1, y.t2, y.t3, y.t4, y.t5, y.u0, y.u1, y.u2, y.u3, y.u4, y.u5].all (·.oneCell') = true
abbrev tmV (t : Tm) (y : TmY) : List Value := [.int .i64 t.kind, .int .i64 t.at_, S t.name, S t.param, .int .i64 t.n, .slice y.o1 t.kids.length y.c1, .slice y.o2 t.arms.length y.c2, y.t0, y.t1, y.t2, y.t3, y.t4, y.t5, .slice y.o3 t.row.labels.length y.c3, .int .i64 t.row.var, y.u0, y.u1, y.u2, y.u3, y.u4, y.u5]
mutual
/-- These cells are the term's. -/
def TmR (m : Mem) : Tm → List Value → Prop
  | ⟨k, a, s, p, n, ks, as, r⟩, vs => ∃ y : TmY, vs = tmV ⟨k, a, s, p, n, ks, as, r⟩ y ∧ y.one ∧ (ks.length ≤ y.c1 ∧ ks.length ≤ 9223372036854775807) ∧ (as.length ≤ y.c2 ∧ as.length ≤ 9223372036854775807) ∧ (Strs m y.o3 r.labels.length y.c3 r.labels ∧ InI64 r.var) ∧ TmRs m y.o1 0 ks ∧ ArRs m y.o2 0 as
def TmRs (m : Mem) (o : Option Addr) : Nat → List Tm → Prop
  | _, [] => True
  | i, t :: ts => (∃ p vs, o = some p ∧ CellsAt m (p.add (i * 21)) vs ∧ TmR m t vs) ∧ TmRs m o (i + 1) ts
def ArRs (m : Mem) (o : Option Addr) : Nat → List Ar → Prop
  | _, [] => True
  | i, ⟨s, l, b⟩ :: ts => (∃ p vs, o = some p ∧ CellsAt m (p.add (i * 23)) vs ∧ ∃ oa ca bs, vs = S s :: .slice oa l.length ca :: bs ∧ Strs m oa l.length ca l ∧ TmR m b bs) ∧ ArRs m o (i + 1) ts
end
def ArR (m : Mem) (a : Ar) (vs : List Value) : Prop := ∃ o c bs, vs = S a.name :: .slice o a.vars.length c :: bs ∧ Strs m o a.vars.length c a.vars ∧ TmR m a.body bs
abbrev Tms (m : Mem) (o : Option Addr) (n c : Nat) (l : List Tm) : Prop := Sl (fun m vs t => TmR m t vs) 21 m o n c l
abbrev Ars (m : Mem) (o : Option Addr) (n c : Nat) (l : List Ar) : Prop := Sl (fun m vs t => ArR m t vs) 23 m o n c l
theorem TmRs.at_ {m : Mem} {o : Option Addr} : ∀ {ts : List Tm} {i j : Nat} {t : Tm}, TmRs m o i ts → ts[j]? = some t → ∃ p vs, o = some p ∧ CellsAt m (p.add ((i + j) * 21)) vs ∧ TmR m t vs
  | [], _, _, _, _, h => by simp at h
  | t :: ts, i, 0, t', h, e => by
    simp only [List.getElem?_cons_zero, Option.some.injEq] at e; subst e
    simp only [TmRs] at h; exact h.1
  | t :: ts, i, j + 1, t', h, e => by
    simp only [TmRs] at h
    obtain ⟨p, vs, h1, h2, h3⟩ := TmRs.at_ (i := i + 1) h.2 (by simpa using e)
    exact ⟨p, vs, h1, by rw [show i + (j + 1) = i + 1 + j by omega]; exact h2, h3⟩
theorem ArRs.at_ {m : Mem} {o : Option Addr} : ∀ {ts : List Ar} {i j : Nat} {t : Ar}, ArRs m o i ts → ts[j]? = some t → ∃ p vs, o = some p ∧ CellsAt m (p.add ((i + j) * 23)) vs ∧ ArR m t vs
  | [], _, _, _, _, h => by simp at h
  | ⟨s, l, b⟩ :: ts, i, 0, t', h, e => by
    simp only [List.getElem?_cons_zero, Option.some.injEq] at e; subst e
    simp only [ArRs] at h; exact h.1
  | ⟨s, l, b⟩ :: ts, i, j + 1, t', h, e => by
    simp only [ArRs] at h
    obtain ⟨p, vs, h1, h2, h3⟩ := ArRs.at_ (i := i + 1) h.2 (by simpa using e)
    exact ⟨p, vs, h1, by rw [show i + (j + 1) = i + 1 + j by omega]; exact h2, h3⟩
theorem TmR.unfold {m : Mem} {t : Tm} {vs : List Value} (h : TmR m t vs) : ∃ y : TmY, vs = tmV t y ∧ y.one ∧ (t.kids.length ≤ y.c1 ∧ t.kids.length ≤ 9223372036854775807) ∧ (t.arms.length ≤ y.c2 ∧ t.arms.length ≤ 9223372036854775807) ∧ (Strs m y.o3 t.row.labels.length y.c3 t.row.labels ∧ InI64 t.row.var) ∧ TmRs m y.o1 0 t.kids ∧ ArRs m y.o2 0 t.arms := by
  obtain ⟨k, a, s, p, n, ks, as, r⟩ := t
  simp only [TmR] at h; exact h
theorem TmR.len {m : Mem} {t : Tm} {vs : List Value} (h : TmR m t vs) : vs.length = 21 := by
  obtain ⟨y, rfl, _⟩ := h.unfold; rfl
theorem TmR.one {m : Mem} {t : Tm} {vs : List Value} (h : TmR m t vs) : vs.all (·.oneCell') = true := by
  obtain ⟨y, rfl, h1, _⟩ := h.unfold
  unfold TmY.one at h1
  simp only [List.all_cons, List.all_nil, Bool.and_true, Bool.and_eq_true] at h1
  obtain ⟨a0, a1, a2, a3, a4, a5, b0, b1, b2, b3, b4, b5⟩ := h1
  simp only [tmV, List.all_cons, List.all_nil, Bool.and_true, Bool.and_eq_true, a0, a1, a2, a3, a4, a5, b0, b1, b2, b3, b4, b5, and_true, true_and]
  exact ⟨rfl, rfl, rfl, rfl, rfl, rfl, rfl, rfl, rfl⟩
theorem ArR.len {m : Mem} {t : Ar} {vs : List Value} (h : ArR m t vs) : vs.length = 23 := by
  obtain ⟨o, c, bs, rfl, _, hb⟩ := h; simp [hb.len]
theorem ArR.one {m : Mem} {t : Ar} {vs : List Value} (h : ArR m t vs) : vs.all (·.oneCell') = true := by
  obtain ⟨o, c, bs, rfl, _, hb⟩ := h
  simp only [List.all_cons, hb.one, Bool.and_true]; rfl
theorem TmR.open_ {m : Mem} {t : Tm} {vs : List Value} (h : TmR m t vs) : ∃ y : TmY, vs = tmV t y ∧ y.one ∧ Tms m y.o1 t.kids.length y.c1 t.kids ∧ Ars m y.o2 t.arms.length y.c2 t.arms ∧ RwR m t.row [.slice y.o3 t.row.labels.length y.c3, .int .i64 t.row.var] := by
  obtain ⟨y, e, h1, h2, h3, h4, h5, h6⟩ := h.unfold
  exact ⟨y, e, h1, ⟨rfl, h2.1, h2.2, fun i x hx => by
    obtain ⟨p, vs, e1, e2, e3⟩ := TmRs.at_ h5 hx
    exact ⟨p, vs, e1, by rw [Nat.zero_add] at e2; exact e2, e3.len, e3⟩⟩, ⟨rfl, h3.1, h3.2, fun i x hx => by
    obtain ⟨p, vs, e1, e2, e3⟩ := ArRs.at_ h6 hx
    exact ⟨p, vs, e1, by rw [Nat.zero_add] at e2; exact e2, e3.len, e3⟩⟩, ⟨_, _, rfl, h4.1, h4.2⟩⟩
mutual
theorem TmR.mono {m m' : Mem} (hm : MLe m m') : ∀ {t : Tm} {vs : List Value}, TmR m t vs → TmR m' t vs
  | ⟨k, a, s, p, n, ks, as, r⟩, vs, h => by
    simp only [TmR] at h ⊢
    obtain ⟨y, e, h1, h2, h3, h4, h5, h6⟩ := h
    exact ⟨y, e, h1, h2, h3, ⟨h4.1.mono hm, h4.2⟩, TmRs.mono hm h5, ArRs.mono hm h6⟩
theorem TmRs.mono {m m' : Mem} (hm : MLe m m') {o : Option Addr} : ∀ {ts : List Tm} {i : Nat}, TmRs m o i ts → TmRs m' o i ts
  | [], _, _ => by simp [TmRs]
  | t :: ts, i, h => by
    simp only [TmRs] at h ⊢
    obtain ⟨⟨p, vs, e1, e2, e3⟩, h2⟩ := h
    exact ⟨⟨p, vs, e1, e2.mono hm, TmR.mono hm e3⟩, TmRs.mono hm h2⟩
theorem ArRs.mono {m m' : Mem} (hm : MLe m m') {o : Option Addr} : ∀ {ts : List Ar} {i : Nat}, ArRs m o i ts → ArRs m' o i ts
  | [], _, _ => by simp [ArRs]
  | ⟨s, l, b⟩ :: ts, i, h => by
    simp only [ArRs] at h ⊢
    obtain ⟨⟨p, vs, e1, e2, oa, ca, bs, e3, e4, e5⟩, h2⟩ := h
    exact ⟨⟨p, vs, e1, e2.mono hm, oa, ca, bs, e3, e4.mono hm, TmR.mono hm e5⟩, ArRs.mono hm h2⟩
end
theorem ArR.mono {m m' : Mem} {a : Ar} {vs : List Value} (h : ArR m a vs) (hm : MLe m m') : ArR m' a vs := by
  obtain ⟨o, c, bs, e, h1, h2⟩ := h; exact ⟨o, c, bs, e, h1.mono hm, h2.mono hm⟩
theorem ArR.open_ {m : Mem} {a : Ar} {vs : List Value} (h : ArR m a vs) : ∃ o c bs, vs = S a.name :: .slice o a.vars.length c :: bs ∧ Strs m o a.vars.length c a.vars ∧ TmR m a.body bs := h
theorem Tms.mono {m m' : Mem} {o : Option Addr} {n c : Nat} {l : List Tm} (h : Tms m o n c l) (hm : MLe m m') : Tms m' o n c l := Sl.mono h (fun _ _ e => e.mono hm) hm
theorem Ars.mono {m m' : Mem} {o : Option Addr} {n c : Nat} {l : List Ar} (h : Ars m o n c l) (hm : MLe m m') : Ars m' o n c l := Sl.mono h (fun _ _ e => e.mono hm) hm
instance : RepR (fun m vs t => TmR m t vs) := ⟨fun hm h => h.mono hm, fun h => h.one⟩
instance : RepR (fun m vs t => ArR m t vs) := ⟨fun hm h => h.mono hm, fun h => h.one⟩
theorem TmR.build {m : Mem} {t : Tm} {y : TmY} (h1 : y.one) (hk : Tms m y.o1 t.kids.length y.c1 t.kids) (ha : Ars m y.o2 t.arms.length y.c2 t.arms) (hr : RwR m t.row [.slice y.o3 t.row.labels.length y.c3, .int .i64 t.row.var]) : TmR m t (tmV t y) := by
  obtain ⟨k, a, s, p, n, ks, as, r⟩ := t
  simp only [Tm.kids, Tm.arms, Tm.row] at hk ha hr
  simp only [TmR]
  obtain ⟨o', c', er, hs, hv⟩ := hr
  simp only [List.cons.injEq, Value.slice.injEq, and_true, true_and] at er
  obtain ⟨rfl, rfl⟩ := er
  refine ⟨y, rfl, h1, ⟨hk.cap, hk.big⟩, ⟨ha.cap, ha.big⟩, ⟨hs, hv⟩, ?_, ?_⟩
  · have key : ∀ (ts : List Tm) (i : Nat), (∀ j t, ts[j]? = some t → ks[i + j]? = some t) → TmRs m y.o1 i ts := by
      intro ts
      induction ts with
      | nil => intro i _; simp [TmRs]
      | cons t ts ih =>
        intro i hi
        simp only [TmRs]
        obtain ⟨p, vs, e1, e2, _, e3⟩ := hk.at_ i t (by simpa using hi 0 t rfl)
        exact ⟨⟨p, vs, e1, e2, e3⟩, ih (i + 1) fun j u hj => by have := hi (j + 1) u (by simpa using hj); rw [show i + 1 + j = i + (j + 1) by omega]; exact this⟩
    exact key ks 0 fun j t hj => by rw [Nat.zero_add]; exact hj
  · have key : ∀ (ts : List Ar) (i : Nat), (∀ j t, ts[j]? = some t → as[i + j]? = some t) → ArRs m y.o2 i ts := by
      intro ts
      induction ts with
      | nil => intro i _; simp [ArRs]
      | cons t ts ih =>
        intro i hi
        obtain ⟨p, vs, e1, e2, _, e3⟩ := ha.at_ i t (by simpa using hi 0 t rfl)
        obtain ⟨s, l, b⟩ := t
        simp only [ArRs]
        exact ⟨⟨p, vs, e1, e2, e3⟩, ih (i + 1) fun j u hj => by have := hi (j + 1) u (by simpa using hj); rw [show i + 1 + j = i + (j + 1) by omega]; exact this⟩
    exact key as 0 fun j t hj => by rw [Nat.zero_add]; exact hj
def MP.tm (t : Tm) : MP := MP.mem (fun y : TmY => .agg (tmV t y).toArray) (fun y m => TmR m t (tmV t y)) fun hm h => h.mono hm
def MP.tms (l : List Tm) : MP := MP.mem (fun y : Option Addr × Nat => .slice y.1 l.length y.2) (fun y m => Tms m y.1 l.length y.2 l) fun hm h => h.mono hm
/-- The cells of what no one asks of a term that was built anew. -/
def TmY.zero (o1 : Option Addr) (c1 : Nat) (o2 : Option Addr) (c2 : Nat) : TmY := ⟨o1, c1, o2, c2, none, 0, .int .i64 0, S [], .int .i64 0, .slice none 0 0, .slice none 0 0, .int .i64 0, .int .i64 0, S [], .int .i64 0, .slice none 0 0, .slice none 0 0, .int .i64 0⟩
theorem TmY.zero_one {o1 : Option Addr} {c1 : Nat} {o2 : Option Addr} {c2 : Nat} : (TmY.zero o1 c1 o2 c2).one := rfl
-- declarations
structure Os where
  name : Str
  arg : Ty
  res : Ty
structure Ef where
  name : Str
  ops : List Os
structure Cs where
  name : Str
  fields : List Ty
structure Da where
  name : Str
  cons : List Cs
structure Pg where
  effects : List Ef
  datas : List Da
  body : Tm
def OsR (m : Mem) (x : Os) (vs : List Value) : Prop := ∃ as rs, vs = S x.name :: (as ++ rs) ∧ TyR m x.arg as ∧ TyR m x.res rs
abbrev Oss (m : Mem) (o : Option Addr) (n c : Nat) (l : List Os) : Prop := Sl (fun m vs x => OsR m x vs) 13 m o n c l
def EfR (m : Mem) (x : Ef) (vs : List Value) : Prop := ∃ o c, vs = [S x.name, .slice o x.ops.length c] ∧ Oss m o x.ops.length c x.ops
abbrev Efs (m : Mem) (o : Option Addr) (n c : Nat) (l : List Ef) : Prop := Sl (fun m vs x => EfR m x vs) 2 m o n c l
def CsR (m : Mem) (x : Cs) (vs : List Value) : Prop := ∃ o c, vs = [S x.name, .slice o x.fields.length c] ∧ Tys m o x.fields.length c x.fields
abbrev Css (m : Mem) (o : Option Addr) (n c : Nat) (l : List Cs) : Prop := Sl (fun m vs x => CsR m x vs) 2 m o n c l
def DaR (m : Mem) (x : Da) (vs : List Value) : Prop := ∃ o c, vs = [S x.name, .slice o x.cons.length c] ∧ Css m o x.cons.length c x.cons
abbrev Das (m : Mem) (o : Option Addr) (n c : Nat) (l : List Da) : Prop := Sl (fun m vs x => DaR m x vs) 2 m o n c l
def PgR (m : Mem) (x : Pg) (vs : List Value) : Prop := ∃ o c o2 c2 bs, vs = .slice o x.effects.length c :: .slice o2 x.datas.length c2 :: bs ∧ Efs m o x.effects.length c x.effects ∧ Das m o2 x.datas.length c2 x.datas ∧ TmR m x.body bs
theorem OsR.mono {m m' : Mem} {x : Os} {vs : List Value} (h : OsR m x vs) (hm : MLe m m') : OsR m' x vs := by obtain ⟨a, r, e, h1, h2⟩ := h; exact ⟨a, r, e, h1.mono hm, h2.mono hm⟩
theorem Oss.mono {m m' : Mem} {o : Option Addr} {n c : Nat} {l : List Os} (h : Oss m o n c l) (hm : MLe m m') : Oss m' o n c l := Sl.mono h (fun _ _ e => e.mono hm) hm
theorem EfR.mono {m m' : Mem} {x : Ef} {vs : List Value} (h : EfR m x vs) (hm : MLe m m') : EfR m' x vs := by obtain ⟨o, c, e, h1⟩ := h; exact ⟨o, c, e, Oss.mono h1 hm⟩
theorem Efs.mono {m m' : Mem} {o : Option Addr} {n c : Nat} {l : List Ef} (h : Efs m o n c l) (hm : MLe m m') : Efs m' o n c l := Sl.mono h (fun _ _ e => e.mono hm) hm
theorem CsR.mono {m m' : Mem} {x : Cs} {vs : List Value} (h : CsR m x vs) (hm : MLe m m') : CsR m' x vs := by obtain ⟨o, c, e, h1⟩ := h; exact ⟨o, c, e, Tys.mono h1 hm⟩
theorem Css.mono {m m' : Mem} {o : Option Addr} {n c : Nat} {l : List Cs} (h : Css m o n c l) (hm : MLe m m') : Css m' o n c l := Sl.mono h (fun _ _ e => e.mono hm) hm
theorem DaR.mono {m m' : Mem} {x : Da} {vs : List Value} (h : DaR m x vs) (hm : MLe m m') : DaR m' x vs := by obtain ⟨o, c, e, h1⟩ := h; exact ⟨o, c, e, Css.mono h1 hm⟩
theorem Das.mono {m m' : Mem} {o : Option Addr} {n c : Nat} {l : List Da} (h : Das m o n c l) (hm : MLe m m') : Das m' o n c l := Sl.mono h (fun _ _ e => e.mono hm) hm
theorem PgR.mono {m m' : Mem} {x : Pg} {vs : List Value} (h : PgR m x vs) (hm : MLe m m') : PgR m' x vs := by obtain ⟨o, c, o2, c2, bs, e, h1, h2, h3⟩ := h; exact ⟨o, c, o2, c2, bs, e, Efs.mono h1 hm, Das.mono h2 hm, h3.mono hm⟩
end Go.Proofs.Ytppmbhjacjmfkaa
