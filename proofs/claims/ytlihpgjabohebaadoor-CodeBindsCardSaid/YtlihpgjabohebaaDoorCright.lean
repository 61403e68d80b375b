/-
  Code: what may be. Conditions: those of each theorem.
-/
import Derived.Test.YtlihpgjabohebaaDoorCparts
import Derived.Test.YtlihpgjabohebaaDoorUnord
namespace Go.Proofs.YtlihpgjabohebaaDoor
set_option linter.all false
set_option maxRecDepth 4000
open Go.RowKit
/-- How many an operator has. -/
def primN (s : Str) : Int := if s = [43] ∨ s = [45] ∨ s = [42] ∨ s = [47] ∨ s = [60] ∨ s = [61] ∨ s = [58, 61] then 2 else if s = [112, 114, 105, 110, 116] ∨ s = [114, 101, 102] ∨ s = [33] then 1 else if s = [114, 101, 97, 100] then 0 else -1
theorem primN_rng (s : Str) : -1 ≤ primN s ∧ primN s ≤ 2 := by unfold primN; repeat' split <;> omega
def atomC (t : Cd) : Bool := decide (1 ≤ t.kind) && decide (t.kind ≤ 5)
def atomsC (t : Cd) (n : Nat) : Bool := (t.kids.take n).all atomC
/-- What the table says of a kind. -/
structure Shp where
  kids : Int
  atoms : Int
  name : Bool
  param : Bool
  n : Bool
  arms : Bool
abbrev Shp.v (s : Shp) : Value := .agg #[.int .i64 s.kids, .int .i64 s.atoms, .bool s.name, .bool s.param, .bool s.n, .bool s.arms]
def shTab (p : Int) : List (Int × Shp) := [(1, ⟨0, 0, true, false, false, false⟩), (2, ⟨0, 0, false, false, true, false⟩), (3, ⟨0, 0, false, false, true, false⟩), (4, ⟨0, 0, false, false, false, false⟩), (5, ⟨1, 0, true, false, false, false⟩),
  (6, ⟨2, -1, false, false, false, false⟩), (7, ⟨2, 0, true, false, false, false⟩), (8, ⟨2, 0, true, false, false, false⟩), (9, ⟨2, 0, true, true, false, false⟩), (10, ⟨3, 1, false, false, false, false⟩), (11, ⟨p, -1, true, false, false, false⟩),
  (12, ⟨-1, -1, true, false, false, false⟩), (13, ⟨1, 1, false, false, false, true⟩), (14, ⟨1, -1, true, false, false, false⟩), (15, ⟨1, 0, true, false, false, true⟩)]
def shZ : Shp := ⟨0, 0, false, false, false, false⟩
def shG (t : Cd) : Shp := (alook t.kind (shTab (primN t.name))).getD shZ
def shB (t : Cd) : Bool := (alook t.kind (shTab (primN t.name))).isSome
theorem alook_mapv (k : Int) : ∀ l : List (Int × Shp), alook k (l.map fun p => (p.1, p.2.v)) = (alook k l).map Shp.v
  | [] => rfl
  | (a, v) :: r => by simp only [List.map_cons, alook]; split; rfl; exact alook_mapv k r
theorem sh_look (t : Cd) {F : List (Int × Value)} (hF : F = (shTab (primN t.name)).map fun p => (p.1, p.2.v)) : (match alook t.kind F with | some u => (u, true) | none => (shZ.v, false)) = ((shG t).v, shB t) := by
  subst hF
  rw [alook_mapv]; unfold shG shB
  cases alook t.kind (shTab (primN t.name)) <;> rfl
theorem kind_cases (t : Cd) : (t.kind = 1 ∨ t.kind = 2 ∨ t.kind = 3 ∨ t.kind = 4 ∨ t.kind = 5 ∨ t.kind = 6 ∨ t.kind = 7 ∨ t.kind = 8 ∨ t.kind = 9 ∨ t.kind = 10 ∨ t.kind = 11 ∨ t.kind = 12 ∨ t.kind = 13 ∨ t.kind = 14 ∨ t.kind = 15) ∨ (¬ t.kind = 1 ∧ ¬ t.kind = 2 ∧ ¬ t.kind = 3 ∧ ¬ t.kind = 4 ∧ ¬ t.kind = 5 ∧ ¬ t.kind = 6 ∧ ¬ t.kind = 7 ∧ ¬ t.kind = 8 ∧ ¬ t.kind = 9 ∧ ¬ t.kind = 10 ∧ ¬ t.kind = 11 ∧ ¬ t.kind = 12 ∧ ¬ t.kind = 13 ∧ ¬ t.kind = 14 ∧ ¬ t.kind = 15) := by omega
theorem sh_none {t : Cd} (h : ¬ t.kind = 1 ∧ ¬ t.kind = 2 ∧ ¬ t.kind = 3 ∧ ¬ t.kind = 4 ∧ ¬ t.kind = 5 ∧ ¬ t.kind = 6 ∧ ¬ t.kind = 7 ∧ ¬ t.kind = 8 ∧ ¬ t.kind = 9 ∧ ¬ t.kind = 10 ∧ ¬ t.kind = 11 ∧ ¬ t.kind = 12 ∧ ¬ t.kind = 13 ∧ ¬ t.kind = 14 ∧ ¬ t.kind = 15) : shB t = false ∧ shG t = shZ := by
  have : alook t.kind (shTab (primN t.name)) = none := by unfold shTab; simp only [alook]; obtain ⟨h1, h2, h3, h4, h5, h6, h7, h8, h9, h10, h11, h12, h13, h14, h15⟩ := h; simp only [*, if_false]
  unfold shG shB; rw [this]; exact ⟨rfl, rfl⟩
theorem sh_cases (t : Cd) : (shB t = false ∧ shG t = shZ) ∨ t.kind = 11 ∨ ((shG t).atoms ≤ 0 ∨ (0 ≤ (shG t).kids ∧ (shG t).atoms ≤ (shG t).kids)) := by
  rcases kind_cases t with h | h
  · right
    rcases h with h | h | h | h | h | h | h | h | h | h | h | h | h | h | h
    all_goals first | (exact .inl h) | (right; unfold shG shTab; simp only [alook, h]; simp)
  · exact .inl (sh_none h)
theorem sh_11 {t : Cd} (h : t.kind = 11) : shG t = ⟨primN t.name, -1, true, false, false, false⟩ ∧ shB t = true := by unfold shG shB shTab; simp [alook, h]
/-- How many of the kids must be atoms. -/
def natoms (t : Cd) : Nat := if (shG t).atoms < 0 then t.kids.length else (shG t).atoms.toNat
def nameOk (l : List Str) : Bool := !decide ([] ∈ l)
/-- May an arm be, but for its body? -/
def armOk (k : Int) (i : Nat) (a : Ca) : Bool := nameOk a.vars && !decide (a.name = []) && (if k = 13 then !a.tail else if i = 0 then decide (a.name = [114, 101, 116, 117, 114, 110]) && decide (a.vars.length = 1) && !a.tail else (a.tail && decide (a.vars.length = 1)) || (!a.tail && decide (a.vars.length = 2)))
def armsOk (k : Int) : Nat → List Ca → Bool
  | _, [] => true
  | i, a :: l => armOk k i a && armsOk k (i + 1) l
/-- As the program says it. -/
def headP (t : Cd) : Bool := (shB t && !(decide (t.kind = 11) && decide ((shG t).kids < 0))) && !(decide (0 ≤ (shG t).kids) && !decide ((t.kids.length : Int) = (shG t).kids)) && !((shG t).name == decide (t.name = [])) && !((shG t).param == decide (t.param = [])) && !(!(shG t).n && !decide (t.n = 0)) && !((shG t).arms == decide (t.arms.length = 0)) &&
  !(decide (t.kind = 3) && !decide (t.n = 0) && !decide (t.n = 1))
/-- As the document's answer says it. -/
def headC (t : Cd) : Bool :=
  if t.kind = 1 then decide (t.kids.length = 0) && decide (t.arms.length = 0) && !decide (t.name = []) && decide (t.param = []) && decide (t.n = 0)
  else if t.kind = 2 then decide (t.kids.length = 0) && decide (t.arms.length = 0) && decide (t.name = []) && decide (t.param = [])
  else if t.kind = 3 then decide (t.kids.length = 0) && decide (t.arms.length = 0) && decide (t.name = []) && decide (t.param = []) && (decide (t.n = 0) || decide (t.n = 1))
  else if t.kind = 4 then decide (t.kids.length = 0) && decide (t.arms.length = 0) && decide (t.name = []) && decide (t.param = []) && decide (t.n = 0)
  else if t.kind = 5 then decide (t.kids.length = 1) && decide (t.arms.length = 0) && !decide (t.name = []) && decide (t.param = []) && decide (t.n = 0)
  else if t.kind = 6 then decide (t.kids.length = 2) && decide (t.arms.length = 0) && decide (t.name = []) && decide (t.param = []) && decide (t.n = 0) && atomsC t 2
  else if t.kind = 7 ∨ t.kind = 8 then decide (t.kids.length = 2) && decide (t.arms.length = 0) && !decide (t.name = []) && decide (t.param = []) && decide (t.n = 0)
  else if t.kind = 9 then decide (t.kids.length = 2) && decide (t.arms.length = 0) && !decide (t.name = []) && !decide (t.param = []) && decide (t.n = 0)
  else if t.kind = 10 then decide (t.kids.length = 3) && decide (t.arms.length = 0) && decide (t.name = []) && decide (t.param = []) && decide (t.n = 0) && atomsC t 1
  else if t.kind = 11 then decide ((t.kids.length : Int) = primN t.name) && decide (t.arms.length = 0) && !decide (t.name = []) && decide (t.param = []) && decide (t.n = 0) && atomsC t t.kids.length
  else if t.kind = 12 then decide (t.arms.length = 0) && !decide (t.name = []) && decide (t.param = []) && decide (t.n = 0) && atomsC t t.kids.length
  else if t.kind = 13 then decide (t.kids.length = 1) && decide (0 < t.arms.length) && decide (t.name = []) && decide (t.param = []) && decide (t.n = 0) && atomsC t 1
  else if t.kind = 14 then decide (t.kids.length = 1) && decide (t.arms.length = 0) && !decide (t.name = []) && decide (t.param = []) && decide (t.n = 0) && atomsC t 1
  else if t.kind = 15 then decide (t.kids.length = 1) && decide (0 < t.arms.length) && !decide (t.name = []) && decide (t.param = []) && decide (t.n = 0)
  else false
theorem any_not {l : List Cd} : l.any (fun u => !atomC u) = !(l.all atomC) := by induction l with | nil => rfl | cons x l ih => simp only [List.any_cons, List.all_cons, ih]; cases atomC x <;> rfl
theorem head_PC (t : Cd) : (headP t && atomsC t (natoms t)) = headC t := by
  have key : ∀ (k : Int) (s : Shp), t.kind = k → shG t = s → shB t = true → (headP t && atomsC t (natoms t)) = ((!(decide (k = 11) && decide (s.kids < 0))) && !(decide (0 ≤ s.kids) && !decide ((t.kids.length : Int) = s.kids)) && !(s.name == decide (t.name = [])) && !(s.param == decide (t.param = [])) && !(!s.n && !decide (t.n = 0)) && !(s.arms == decide (t.arms.length = 0)) &&
      !(decide (k = 3) && !decide (t.n = 0) && !decide (t.n = 1)) && atomsC t (if s.atoms < 0 then t.kids.length else s.atoms.toNat)) := by
    intro k s hk hs hb
    unfold headP natoms
    rw [hs, hb, hk]; simp only [Bool.true_and]
  have hz : atomsC t 0 = true := by simp [atomsC]
  rcases kind_cases t with h | h0
  · rcases h with h | h | h | h | h | h | h | h | h | h | h | h | h | h | h
    all_goals
      rw [key _ _ h (by unfold shG shTab; simp only [alook, h]; rfl) (by unfold shB shTab; simp only [alook, h]; rfl)]
      unfold headC
      simp only [h]
      rw [Bool.eq_iff_iff]
      by_cases h1 : t.name = [] <;> by_cases h2 : t.param = [] <;> by_cases h3 : t.n = 0 <;> by_cases h4 : t.arms.length = 0 <;> simp [h1, h2, h3, h4] <;> first | (intros; exact hz) | (intro hat; omega) | (by_cases hl1 : t.kids.length = 1 <;> simp [hl1, hz] <;> (intros; omega)) | (by_cases hl2 : t.kids.length = 2 <;> simp [hl2, hz] <;> omega) | omega | grind
  · obtain ⟨hb, -⟩ := sh_none h0
    obtain ⟨h1, h2, h3, h4, h5, h6, h7, h8, h9, h10, h11, h12, h13, h14, h15⟩ := h0
    unfold headP headC
    rw [hb]
    simp [*]
mutual
def rightC : Cd → Bool
  | ⟨k, s, p, n, ks, az⟩ => headC ⟨k, s, p, n, ks, az⟩ && armsOk k 0 az && rightKs ks && rightAs az
def rightKs : List Cd → Bool
  | [] => true
  | t :: ts => rightC t && rightKs ts
def rightAs : List Ca → Bool
  | [] => true
  | ⟨_, _, _, b⟩ :: ts => rightC b && rightAs ts
end
theorem rightKs_all : ∀ l : List Cd, rightKs l = l.all rightC
  | [] => by simp [rightKs]
  | t :: ts => by simp [rightKs, rightKs_all ts]
theorem rightAs_all : ∀ l : List Ca, rightAs l = l.all fun a => rightC a.body
  | [] => by simp [rightAs]
  | ⟨s, l, tl, b⟩ :: ts => by simp [rightAs, rightAs_all ts, Ca.body]
theorem rightC_eq (t : Cd) : rightC t = (headC t && armsOk t.kind 0 t.arms && t.kids.all rightC && t.arms.all fun a => rightC a.body) := by
  obtain ⟨k, s, p, n, ks, az⟩ := t
  rw [rightC, rightKs_all, rightAs_all]; rfl
theorem natoms_le {t : Cd} (h1 : shB t = true) (h2 : ¬0 ≤ (shG t).kids ∨ (t.kids.length : Int) = (shG t).kids) (h3 : ¬(shG t).atoms < 0) : natoms t ≤ t.kids.length := by
  unfold natoms; rw [if_neg h3]
  rcases sh_cases t with h | h | h
  · rw [h.1] at h1; cases h1
  · rw [(sh_11 h).1] at h3; exact absurd (by show (-1 : Int) < 0; decide) h3
  · omega
theorem headP_bad {t : Cd} (h : (((((shB t = false ∨ t.kind = 11 ∧ (shG t).kids < 0) ∨ 0 ≤ (shG t).kids ∧ ¬(t.kids.length : Int) = (shG t).kids) ∨ ((shG t).name == decide (t.name = [])) = true) ∨ ((shG t).param == decide (t.param = [])) = true) ∨ (shG t).n = false ∧ ¬t.n = 0) ∨ ((shG t).arms == decide ((t.arms.length : Int) = 0)) = true) : headP t = false := by
  rw [show decide ((t.arms.length : Int) = 0) = decide (t.arms.length = 0) from decide_eq_decide.2 (by omega)] at h
  unfold headP
  rcases h with (((((h | h) | h) | h) | h) | h) | h
  all_goals first | (rw [h]; simp; done) | (simp [h.1, h.2]; done) | (simp [h])
theorem headP_bad3 {t : Cd} (h : (t.kind = 3 ∧ ¬t.n = 0) ∧ ¬t.n = 1) : headP t = false := by unfold headP; simp [h.1.1, h.1.2, h.2]
theorem headP_good {t : Cd} (h : (((((shB t = true ∧ (¬t.kind = 11 ∨ ¬(shG t).kids < 0)) ∧ (¬0 ≤ (shG t).kids ∨ (t.kids.length : Int) = (shG t).kids)) ∧ ((shG t).name == decide (t.name = [])) = false) ∧ ((shG t).param == decide (t.param = [])) = false) ∧ ((shG t).n = true ∨ t.n = 0)) ∧ ((shG t).arms == decide ((t.arms.length : Int) = 0)) = false) (h3 : (¬t.kind = 3 ∨ t.n = 0) ∨ t.n = 1) : headP t = true := by
  rw [show decide ((t.arms.length : Int) = 0) = decide (t.arms.length = 0) from decide_eq_decide.2 (by omega)] at h
  obtain ⟨⟨⟨⟨⟨⟨h1, h2⟩, h4⟩, h5⟩, h6⟩, h7⟩, h8⟩ := h
  unfold headP
  rw [h1, h5, h6, h8]
  have e1 : (decide (t.kind = 11) && decide ((shG t).kids < 0)) = false := by rcases h2 with h | h <;> simp [h]
  have e2 : (decide (0 ≤ (shG t).kids) && !decide ((t.kids.length : Int) = (shG t).kids)) = false := by rcases h4 with h | h <;> simp [h]
  have e3 : (!(shG t).n && !decide (t.n = 0)) = false := by rcases h7 with h | h <;> simp [h]
  have e4 : (decide (t.kind = 3) && !decide (t.n = 0) && !decide (t.n = 1)) = false := by rcases h3 with (h | h) | h <;> simp [h]
  rw [e1, e2, e3, e4]; rfl
theorem rightC_parts (t : Cd) : rightC t = (headC t && armsOk t.kind 0 t.arms && (partsC t).all rightC) := by
  rw [rightC_eq, partsC, List.all_append, List.all_map, ← Bool.and_assoc]; rfl
theorem right_no {t : Cd} (h : headP t = false ∨ armsOk t.kind 0 t.arms = false ∨ atomsC t (natoms t) = false ∨ (partsC t).all rightC = false) : rightC t = false := by
  rw [rightC_parts, ← head_PC]
  rcases h with h | h | h | h <;> simp [h]
theorem right_all {t : Cd} (h1 : headP t = true) (h2 : armsOk t.kind 0 t.arms = true) (h3 : atomsC t (natoms t) = true) : rightC t = (partsC t).all rightC := by
  rw [rightC_parts, ← head_PC, h1, h2, h3]; simp
theorem any_cut {t : Cd} {n : Nat} {b : Bool} (hn : n = natoms t) (h : ((List.drop 0 (List.take n t.kids)).any fun u => !atomC u) = b) : atomsC t (natoms t) = !b := by
  rw [List.drop_zero, any_not] at h
  rw [← h, ← hn]; unfold atomsC; simp
theorem all_no {α : Type} {p : α → Bool} {l : List α} {x : α} (h : x ∈ l) (hx : p x = false) : l.all p = false := by rw [List.all_eq_false]; exact ⟨x, h, by simp [hx]⟩
theorem all_snoc {α : Type} {p : α → Bool} {l : List α} {i : Nat} {x : α} (h : (l.take i).all p = true) (hi : l[i]? = some x) (hx : p x = true) : (l.take (i + 1)).all p = true := by rw [List.take_succ, hi, List.all_append, h]; simp [hx]

end Go.Proofs.YtlihpgjabohebaaDoor
