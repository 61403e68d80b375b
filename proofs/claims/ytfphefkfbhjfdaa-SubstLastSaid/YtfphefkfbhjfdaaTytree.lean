/-
  Types (package api) ks trees; one-element slices and the like. Conditions: those of each lemma; no program occurs here.
-/
import Derived.Test.YtfphefkfbhjfdaaMaps
namespace Go.Proofs.Ytfphefkfbhjfdaa
set_option linter.all false
open Go.RowKit
/-- A type ks a tree. -/
inductive Ty where
  | mk (kind : Int) (name : Str) (var : Int) (args : List Ty) (labels : List Str) (rv : Int)
def Ty.kind : Ty → Int | ⟨k, _, _, _, _, _⟩ => k
def Ty.name : Ty → Str | ⟨_, s, _, _, _, _⟩ => s
def Ty.var : Ty → Int | ⟨_, _, v, _, _, _⟩ => v
def Ty.args : Ty → List Ty | ⟨_, _, _, l, _, _⟩ => l
def Ty.labels : Ty → List Str | ⟨_, _, _, _, l, _⟩ => l
def Ty.rv : Ty → Int | ⟨_, _, _, _, _, r⟩ => r
theorem Ty.eta (t : Ty) : t = ⟨t.kind, t.name, t.var, t.args, t.labels, t.rv⟩ := by cases t; rfl
mutual
/-- These cells are the type's. -/
def TyR (m : Mem) : Ty → List Value → Prop
  | ⟨k, s, v, ks, ls, r⟩, vs => ∃ o c o2 c2, vs = [.int .i64 k, S s, .int .i64 v, .slice o ks.length c, .slice o2 ls.length c2, .int .i64 r] ∧ ks.length ≤ c ∧ ks.length ≤ 9223372036854775807 ∧ InI64 k ∧ InI64 v ∧ InI64 r ∧ Strs m o2 ls.length c2 ls ∧ TyRs m o 0 ks
def TyRs (m : Mem) (o : Option Addr) : Nat → List Ty → Prop
  | _, [] => True
  | i, t :: ts => (∃ p vs, o = some p ∧ CellsAt m (p.add (i * 6)) vs ∧ TyR m t vs) ∧ TyRs m o (i + 1) ts
end
theorem TyRs.at_ {m : Mem} {o : Option Addr} : ∀ {ts : List Ty} {i j : Nat} {t : Ty}, TyRs m o i ts → ts[j]? = some t → ∃ p vs, o = some p ∧ CellsAt m (p.add ((i + j) * 6)) vs ∧ TyR m t vs
  | [], _, _, _, _, h => by simp at h
  | t :: ts, i, 0, t', h, e => by
    simp only [List.getElem?_cons_zero, Option.some.injEq] at e; subst e
    simp only [TyRs] at h; exact h.1
  | t :: ts, i, j + 1, t', h, e => by
    simp only [TyRs] at h
    obtain ⟨p, vs, h1, h2, h3⟩ := TyRs.at_ (i := i + 1) h.2 (by simpa using e)
    exact ⟨p, vs, h1, by rw [show i + (j + 1) = i + 1 + j by omega]; exact h2, h3⟩
theorem Ty.arg_lt {t u : Ty} (h : u ∈ t.args) : SizeOf.sizeOf u < SizeOf.sizeOf t := by
  obtain ⟨k, s, v, ks, ls, r⟩ := t
  have := List.sizeOf_lt_of_mem h
  simp only [Ty.args] at this
  simp only [Ty.mk.sizeOf_spec]; omega
theorem Ty.rec_ {p : Ty → Prop} (h : ∀ t, (∀ u ∈ t.args, p u) → p t) (t : Ty) : p t := h t fun u hu => Ty.rec_ h u
termination_by SizeOf.sizeOf t
decreasing_by exact Ty.arg_lt hu
abbrev Tys (m : Mem) (o : Option Addr) (n c : Nat) (l : List Ty) : Prop := Sl (fun m vs t => TyR m t vs) 6 m o n c l
theorem TyR.len {m : Mem} {t : Ty} {vs : List Value} (h : TyR m t vs) : vs.length = 6 := by
  obtain ⟨k, s, v, ks, ls, r⟩ := t
  simp only [TyR] at h
  obtain ⟨o, c, o2, c2, rfl, _⟩ := h; rfl
theorem TyR.open_ {m : Mem} {t : Ty} {vs : List Value} (h : TyR m t vs) : ∃ o c o2 c2, vs = [.int .i64 t.kind, S t.name, .int .i64 t.var, .slice o t.args.length c, .slice o2 t.labels.length c2, .int .i64 t.rv] ∧ Tys m o t.args.length c t.args ∧ Strs m o2 t.labels.length c2 t.labels ∧ InI64 t.kind ∧ InI64 t.var ∧ InI64 t.rv := by
  obtain ⟨k, s, v, ks, ls, r⟩ := t
  simp only [TyR] at h
  obtain ⟨o, c, o2, c2, e, h1, h2, h3, h4, h5, h6, h7⟩ := h
  exact ⟨o, c, o2, c2, e, ⟨rfl, h1, h2, fun i x hx => by
    obtain ⟨p, vs, e1, e2, e3⟩ := TyRs.at_ h7 hx
    exact ⟨p, vs, e1, by rw [Nat.zero_add] at e2; exact e2, e3.len, e3⟩⟩, h6, h3, h4, h5⟩
mutual
theorem TyR.mono {m m' : Mem} (hm : MLe m m') : ∀ {t : Ty} {vs : List Value}, TyR m t vs → TyR m' t vs
  | ⟨k, s, v, ks, ls, r⟩, vs, h => by
    simp only [TyR] at h ⊢
    obtain ⟨o, c, o2, c2, e, h1, h2, h3, h4, h5, h6, h7⟩ := h
    exact ⟨o, c, o2, c2, e, h1, h2, h3, h4, h5, h6.mono hm, TyRs.mono hm h7⟩
theorem TyRs.mono {m m' : Mem} (hm : MLe m m') {o : Option Addr} : ∀ {ts : List Ty} {i : Nat}, TyRs m o i ts → TyRs m' o i ts
  | [], _, _ => by simp [TyRs]
  | t :: ts, i, h => by
    simp only [TyRs] at h ⊢
    obtain ⟨⟨p, vs, e1, e2, e3⟩, h2⟩ := h
    exact ⟨⟨p, vs, e1, e2.mono hm, TyR.mono hm e3⟩, TyRs.mono hm h2⟩
end
theorem Tys.mono {m m' : Mem} {o : Option Addr} {n c : Nat} {l : List Ty} (h : Tys m o n c l) (hm : MLe m m') : Tys m' o n c l := Sl.mono h (fun _ _ e => e.mono hm) hm
theorem TyR.build {m : Mem} {k v r : Int} {s : Str} {o o2 : Option Addr} {c c2 : Nat} {ks : List Ty} {ls : List Str} (h : Tys m o ks.length c ks) (h2 : Strs m o2 ls.length c2 ls) (hk : InI64 k) (hv : InI64 v) (hr : InI64 r) :
    TyR m ⟨k, s, v, ks, ls, r⟩ [.int .i64 k, S s, .int .i64 v, .slice o ks.length c, .slice o2 ls.length c2, .int .i64 r] := by
  simp only [TyR]
  refine ⟨o, c, o2, c2, rfl, h.cap, h.big, hk, hv, hr, h2, ?_⟩
  have key : ∀ (ts : List Ty) (i : Nat), (∀ j t, ts[j]? = some t → ks[i + j]? = some t) → TyRs m o i ts := by
    intro ts
    induction ts with
    | nil => intro i _; simp [TyRs]
    | cons t ts ih =>
      intro i hi
      simp only [TyRs]
      obtain ⟨p, vs, e1, e2, _, e3⟩ := h.at_ i t (by simpa using hi 0 t rfl)
      exact ⟨⟨p, vs, e1, e2, e3⟩, ih (i + 1) fun j u hj => by have := hi (j + 1) u (by simpa using hj); rw [show i + 1 + j = i + (j + 1) by omega]; exact this⟩
  exact key ks 0 fun j t hj => by rw [Nat.zero_add]; exact hj
/-- A row's cells. -/
structure Rw where
  labels : List Str
  var : Int
def RwR (m : Mem) (r : Rw) (vs : List Value) : Prop := ∃ o c, vs = [.slice o r.labels.length c, .int .i64 r.var] ∧ Strs m o r.labels.length c r.labels ∧ InI64 r.var
theorem RwR.open_ {m : Mem} {r : Rw} {vs : List Value} (h : RwR m r vs) : ∃ o c, vs = [.slice o r.labels.length c, .int .i64 r.var] ∧ Strs m o r.labels.length c r.labels ∧ InI64 r.var := h
theorem RwR.mono {m m' : Mem} {r : Rw} {vs : List Value} (h : RwR m r vs) (hm : MLe m m') : RwR m' r vs := by obtain ⟨o, c, e, h1, h2⟩ := h; exact ⟨o, c, e, h1.mono hm, h2⟩
theorem Sl.one {α : Type} {R : Mem → List Value → α → Prop} {sz : Nat} {m : Mem} {p : Addr} {vs : List Value} {x : α} (hc : CellsAt m p vs) (hl : vs.length = sz) (h : R m vs x) : Sl R sz m (some p) 1 1 [x] :=
  ⟨rfl, Nat.le_refl _, by decide, fun i y hy => by
    cases i with
    | zero => simp at hy; subst hy; exact ⟨p, vs, rfl, by rw [Nat.zero_mul]; exact hc, hl, h⟩
    | succ i => simp at hy⟩
theorem Sl.two {α : Type} {R : Mem → List Value → α → Prop} {sz : Nat} {m : Mem} {p : Addr} {vs us : List Value} {x z : α} (hc : CellsAt m p (vs ++ us)) (hl : vs.length = sz) (hl2 : us.length = sz) (h : R m vs x) (h2 : R m us z) : Sl R sz m (some p) 2 2 [x, z] :=
  ⟨rfl, Nat.le_refl _, by decide, fun i y hy => by
    match i with
    | 0 => simp at hy; subst hy; exact ⟨p, vs, rfl, by rw [Nat.zero_mul]; have := hc.take sz; rwa [← hl, List.take_left] at this, hl, h⟩
    | 1 => simp at hy; subst hy; exact ⟨p, us, rfl, by rw [Nat.one_mul]; have := hc.drop sz; rwa [← hl, List.drop_left, hl] at this, hl2, h2⟩
    | i + 2 => simp at hy⟩
theorem Sl.empty {α : Type} {R : Mem → List Value → α → Prop} {sz : Nat} {m : Mem} {o : Option Addr} {c : Nat} : Sl R sz m o 0 c [] := ⟨rfl, Nat.zero_le _, by decide, fun i y hy => by simp at hy⟩
end Go.Proofs.Ytfphefkfbhjfdaa
