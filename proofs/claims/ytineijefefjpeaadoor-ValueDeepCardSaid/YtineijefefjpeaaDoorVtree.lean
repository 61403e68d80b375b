/-
  Chapter 11: a value as a tree, and where it lies in the snapshot. Conditions: those of each lemma; no program occurs here.
-/
import Derived.Test.YtineijefefjpeaaDoorMaps
namespace Go.Proofs.YtineijefefjpeaaDoor
set_option linter.all false
open Go.RowKit
/-- A value as a tree. -/
inductive VT where
  | mk (kind n : Int) (name : Str) (kids : List VT)
def VT.kind : VT → Int | ⟨k, _, _, _⟩ => k
def VT.n : VT → Int | ⟨_, n, _, _⟩ => n
def VT.name : VT → Str | ⟨_, _, s, _⟩ => s
def VT.kids : VT → List VT | ⟨_, _, _, ks⟩ => ks
mutual
/-- These cells are the value's. -/
def VR (m : Mem) : VT → List Value → Prop
  | ⟨k, n, s, ks⟩, vs => ∃ o c, vs = [.int .i64 k, .int .i64 n, S s, .slice o ks.length c] ∧ ks.length ≤ c ∧ ks.length ≤ 9223372036854775807 ∧ InI64 k ∧ InI64 n ∧ VRs m o 0 ks
def VRs (m : Mem) (o : Option Addr) : Nat → List VT → Prop
  | _, [] => True
  | i, t :: ts => (∃ p vs, o = some p ∧ CellsAt m (p.add (i * 4)) vs ∧ VR m t vs) ∧ VRs m o (i + 1) ts
end
theorem VRs.at_ {m : Mem} {o : Option Addr} : ∀ {ts : List VT} {i j : Nat} {t : VT}, VRs m o i ts → ts[j]? = some t → ∃ p vs, o = some p ∧ CellsAt m (p.add ((i + j) * 4)) vs ∧ VR m t vs
  | [], _, _, _, _, h => by simp at h
  | t :: ts, i, 0, t', h, e => by
    simp only [List.getElem?_cons_zero, Option.some.injEq] at e; subst e
    simp only [VRs] at h; exact h.1
  | t :: ts, i, j + 1, t', h, e => by
    simp only [VRs] at h
    obtain ⟨p, vs, h1, h2, h3⟩ := VRs.at_ (i := i + 1) h.2 (by simpa using e)
    exact ⟨p, vs, h1, by rw [show i + (j + 1) = i + 1 + j by omega]; exact h2, h3⟩
theorem VT.kid_lt {t u : VT} (h : u ∈ t.kids) : SizeOf.sizeOf u < SizeOf.sizeOf t := by
  obtain ⟨k, n, s, ks⟩ := t
  have := List.sizeOf_lt_of_mem h
  simp only [VT.kids] at this
  simp only [VT.mk.sizeOf_spec]; omega
theorem VT.rec_ {p : VT → Prop} (h : ∀ t, (∀ u ∈ t.kids, p u) → p t) (t : VT) : p t := h t fun u hu => VT.rec_ h u
termination_by SizeOf.sizeOf t
decreasing_by exact VT.kid_lt hu
abbrev Kids (m : Mem) (o : Option Addr) (n c : Nat) (l : List VT) : Prop := Sl (fun m vs t => VR m t vs) 4 m o n c l
theorem VR.len {m : Mem} {t : VT} {vs : List Value} (h : VR m t vs) : vs.length = 4 := by
  obtain ⟨k, n, s, ks⟩ := t
  simp only [VR] at h
  obtain ⟨o, c, rfl, _⟩ := h; rfl
theorem VR.open_ {m : Mem} {t : VT} {vs : List Value} (h : VR m t vs) : ∃ o c, vs = [.int .i64 t.kind, .int .i64 t.n, S t.name, .slice o t.kids.length c] ∧ Kids m o t.kids.length c t.kids ∧ InI64 t.kind ∧ InI64 t.n := by
  obtain ⟨k, n, s, ks⟩ := t
  simp only [VR] at h
  obtain ⟨o, c, e, h1, h2, h3, h4, h5⟩ := h
  exact ⟨o, c, e, ⟨rfl, h1, h2, fun i x hx => by
    obtain ⟨p, vs, e1, e2, e3⟩ := VRs.at_ h5 hx
    exact ⟨p, vs, e1, by rw [Nat.zero_add] at e2; exact e2, e3.len, e3⟩⟩, h3, h4⟩
mutual
theorem VR.mono {m m' : Mem} (hm : MLe m m') : ∀ {t : VT} {vs : List Value}, VR m t vs → VR m' t vs
  | ⟨k, n, s, ks⟩, vs, h => by
    simp only [VR] at h ⊢
    obtain ⟨o, c, e, h1, h2, h3, h4, h5⟩ := h
    exact ⟨o, c, e, h1, h2, h3, h4, VRs.mono hm h5⟩
theorem VRs.mono {m m' : Mem} (hm : MLe m m') {o : Option Addr} : ∀ {ts : List VT} {i : Nat}, VRs m o i ts → VRs m' o i ts
  | [], _, _ => by simp [VRs]
  | t :: ts, i, h => by
    simp only [VRs] at h ⊢
    obtain ⟨⟨p, vs, e1, e2, e3⟩, h2⟩ := h
    exact ⟨⟨p, vs, e1, e2.mono hm, VR.mono hm e3⟩, VRs.mono hm h2⟩
end
theorem Kids.mono {m m' : Mem} {o : Option Addr} {n c : Nat} {l : List VT} (h : Kids m o n c l) (hm : MLe m m') : Kids m' o n c l := Sl.mono h (fun _ _ e => e.mono hm) hm
theorem VR.build {m : Mem} {k n : Int} {s : Str} {o : Option Addr} {c : Nat} {ks : List VT} (h : Kids m o ks.length c ks) (hk : InI64 k) (hn : InI64 n) : VR m ⟨k, n, s, ks⟩ [.int .i64 k, .int .i64 n, S s, .slice o ks.length c] := by
  simp only [VR]
  refine ⟨o, c, rfl, h.cap, h.big, hk, hn, ?_⟩
  have key : ∀ (ts : List VT) (i : Nat), (∀ j t, ts[j]? = some t → ks[i + j]? = some t) → VRs m o i ts := by
    intro ts
    induction ts with
    | nil => intro i _; simp [VRs]
    | cons t ts ih =>
      intro i hi
      simp only [VRs]
      obtain ⟨p, vs, e1, e2, _, e3⟩ := h.at_ i t (by simpa using hi 0 t rfl)
      exact ⟨⟨p, vs, e1, e2, e3⟩, ih (i + 1) fun j u hj => by have := hi (j + 1) u (by simpa using hj); rw [show i + 1 + j = i + (j + 1) by omega]; exact this⟩
  exact key ks 0 fun j t hj => by rw [Nat.zero_add]; exact hj
theorem Sl.one {α : Type} {R : Mem → List Value → α → Prop} {sz : Nat} {m : Mem} {p : Addr} {vs : List Value} {x : α} (hc : CellsAt m p vs) (hl : vs.length = sz) (h : R m vs x) : Sl R sz m (some p) 1 1 [x] :=
  ⟨rfl, Nat.le_refl _, by decide, fun i y hy => by
    cases i with
    | zero => simp at hy; subst hy; exact ⟨p, vs, rfl, by rw [Nat.zero_mul]; exact hc, hl, h⟩
    | succ i => simp at hy⟩
theorem Sl.two {α : Type} {R : Mem → List Value → α → Prop} {sz : Nat} {m : Mem} {p : Addr} {vs us : List Value} {x z : α} (hc : CellsAt m p (vs ++ us)) (hl : vs.length = sz) (hl2 : us.length = sz) (h : R m vs x) (h2 : R m us z) : Sl R sz m (some p) 2 2 [x, z] :=
  ⟨rfl, Nat.le_refl _, by decide, fun i y hy => by
    match i with
    | 0 => simp at hy; subst hy; exact ⟨p, vs, rfl, by rw [Nat.zero_mul]; have := hc.take sz; rwa [← hl, List.take_left] at this, hl, h⟩
    | 1 => simp at hy; subst hy; exact ⟨p, us, rfl, by rw [Nat.one_mul]; have := hc.drop sz; rwa [← hl, List.drop_left, hl] at this, hl2, h2⟩
    | i + 2 => simp at hy⟩
theorem Sl.empty {α : Type} {R : Mem → List Value → α → Prop} {sz : Nat} {m : Mem} {o : Option Addr} : Sl R sz m o 0 0 [] := ⟨rfl, Nat.le_refl _, by decide, fun i y hy => by simp at hy⟩
theorem VR.leaf {m : Mem} {k n : Int} {s : Str} {o : Option Addr} (hk : InI64 k) (hn : InI64 n) : VR m ⟨k, n, s, []⟩ [.int .i64 k, .int .i64 n, S s, .slice o 0 0] := VR.build (ks := []) Sl.empty hk hn
end Go.Proofs.YtineijefefjpeaaDoor
