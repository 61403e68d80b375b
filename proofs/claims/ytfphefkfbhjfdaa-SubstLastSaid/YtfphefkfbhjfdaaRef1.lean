/-
  Types, and brocaderef04: what its functions compute. Conditions: those of each theorem.
-/
import Derived.Test.YtfphefkfbhjfdaaTytree
import Derived.Test.YtfphefkfbhjfdaaRows
import Derived.Test.YtfphefkfbhjfdaaMulti
import Derived.Test.YtfphefkfbhjfdaaMapt
namespace Go.Proofs.Ytfphefkfbhjfdaa
set_option linter.all false
set_option maxRecDepth 4000
open Go.RowKit
theorem mixed : Try.prog.follows .mixedOrders = true := by kernel_rfl
/-- Where an element stands first; -1: nowhere. -/
def idxA {α : Type} [DecidableEq α] : Nat → List α → α → Int
  | _, [], _ => -1
  | i, x :: l, s => if s = x then (i : Int) else idxA (i + 1) l s
theorem idxA_pos {α : Type} [DecidableEq α] (s : α) : ∀ (l : List α) (i : Nat), decide (0 ≤ idxA i l s) = decide (s ∈ l)
  | [], i => by simp [idxA]
  | x :: l, i => by
    simp only [idxA, List.mem_cons]
    by_cases h : s = x
    · simp [h]
    · simp only [h, if_false, false_or]; exact idxA_pos s l (i + 1)
theorem idxA_mem {α : Type} [DecidableEq α] (s : α) (l : List α) (i : Nat) : 0 ≤ idxA i l s ↔ s ∈ l := by
  have h := idxA_pos s l i
  rwa [decide_eq_decide] at h
/-- Both are the same, one by one. -/
def all2 {α : Type} (ψ : α → α → Bool) : List α → List α → Bool
  | [], [] => true
  | x :: xs, y :: ys => ψ x y && all2 ψ xs ys
  | [], _ :: _ => false
  | _ :: _, [] => false
theorem all2_len {α : Type} {ψ : α → α → Bool} : ∀ {xs ys : List α}, xs.length ≠ ys.length → all2 ψ xs ys = false
  | [], [], h => absurd rfl h
  | [], _ :: _, _ => rfl
  | _ :: _, [], _ => rfl
  | x :: xs, y :: ys, h => by simp only [all2]; rw [all2_len (by simpa using h)]; simp
theorem all2_eq {α : Type} [DecidableEq α] : ∀ (xs ys : List α), all2 (fun a b => decide (a = b)) xs ys = decide (xs = ys)
  | [], [] => rfl
  | [], _ :: _ => by simp [all2]
  | _ :: _, [] => by simp [all2]
  | x :: xs, y :: ys => by simp [all2, all2_eq xs ys]

/-- A row's labels in order. -/
def isSortedS : List Str → Bool
  | a :: b :: r => !Op.bytesLess b a && isSortedS (b :: r)
  | _ => true
def rowOk (ls : List Str) (rv : Int) : Bool := decide (0 ≤ rv) && isSortedS ls && !ls.contains []
mutual
def depthT (left : Nat) : Ty → Nat
  | ⟨_, _, _, ts, _, _⟩ => if left = 0 then 1 else depthTs (left - 1) ts + 1
def depthTs (left : Nat) : List Ty → Nat
  | [] => 0
  | t :: ts => max (depthT left t) (depthTs left ts)
end
theorem depthT_eq (left : Nat) (t : Ty) : depthT left t = if left = 0 then 1 else depthTs (left - 1) t.args + 1 := by obtain ⟨k, n, v, ts, ls, r⟩ := t; rw [depthT]; rfl
theorem depthTs_snoc (left : Nat) : ∀ (l : List Ty) (x : Ty), depthTs left (l ++ [x]) = max (depthTs left l) (depthT left x)
  | [], x => by simp [depthTs]
  | t :: ts, x => by simp only [List.cons_append, depthTs, depthTs_snoc left ts x]; omega
mutual
def deepT : Ty → Nat
  | ⟨_, _, _, ts, _, _⟩ => deepTs ts + 1
def deepTs : List Ty → Nat
  | [] => 0
  | t :: ts => max (deepT t) (deepTs ts)
end
theorem deepT_eq (t : Ty) : deepT t = deepTs t.args + 1 := by obtain ⟨k, n, v, ts, ls, r⟩ := t; rw [deepT]; rfl
theorem args_all {p : Ty → Prop} (t : Ty) (h : ∀ u ∈ t.args, p u) (q : List Ty → Prop) (h0 : q []) (h1 : ∀ x l, p x → q l → q (x :: l)) : q t.args := by
  have key : ∀ l : List Ty, (∀ u ∈ l, u ∈ t.args) → q l := by
    intro l
    induction l with
    | nil => intro _; exact h0
    | cons x xs ih => intro hl; exact h1 x xs (h x (hl x (.head _))) (ih fun u hu => hl u (.tail _ hu))
  exact key _ fun u hu => hu
theorem depthT_min (t : Ty) (left : Nat) : depthT left t = min (left + 1) (deepT t) := by
  induction t using Ty.rec_ generalizing left with
  | h t ih =>
    rw [depthT_eq, deepT_eq]
    have hk := args_all t ih (fun l => ∀ left, depthTs left l = min (left + 1) (deepTs l)) (fun left => by simp [depthTs, deepTs]) (fun x l hx hl left => by
      simp only [depthTs, deepTs, hx left, hl left]; omega)
    split
    · omega
    · rw [hk (left - 1)]; omega
def arity (k : Int) : Option Nat := if k = 1 ∨ k = 2 ∨ k = 3 ∨ k = 4 then some 0 else if k = 5 then some 2 else if k = 6 then some 1 else none
def rightTB (k : Int) (nm : Str) (v : Int) (n : Nat) (ls : List Str) (rv : Int) (ko : Bool) : Bool :=
  if (k ≠ 5 ∧ ¬ (rv = 0 ∧ ls = [])) ∨ ((nm ≠ []) ≠ (k = 4)) then false
  else if k = 7 then decide (1 ≤ v) && decide (n = 0)
  else match arity k with
    | some a => decide (v = 0) && decide (n = a) && rowOk ls rv && ko
    | none => false
mutual
def rightT : Ty → Bool
  | ⟨k, nm, v, ts, ls, rv⟩ => rightTB k nm v ts.length ls rv (rightTs ts)
def rightTs : List Ty → Bool
  | [] => true
  | t :: ts => rightT t && rightTs ts
end
theorem rightT_eq (t : Ty) : rightT t = rightTB t.kind t.name t.var t.args.length t.labels t.rv (rightTs t.args) := by obtain ⟨k, n, v, ts, ls, r⟩ := t; rw [rightT]; rfl
theorem rightTs_any : ∀ (l : List Ty), (!l.any fun u => !rightT u) = rightTs l
  | [] => by simp [rightTs]
  | t :: ts => by simp only [List.any_cons, rightTs, Bool.not_or, Bool.not_not, rightTs_any ts]
def withI (l : List Int) (n : Int) : List Int := if l.contains n then l else l ++ [n]
mutual
def walkT : Ty → List Int × List Int → List Int × List Int
  | ⟨k, _, v, ts, _, rv⟩, s => walkTs k rv 0 ts (if k = 7 then (withI s.1 v, s.2) else s)
def walkTs (k rv : Int) : Nat → List Ty → List Int × List Int → List Int × List Int
  | _, [], s => s
  | i, t :: ts, s => walkTs k rv (i + 1) ts (if i = 0 ∧ k = 5 ∧ 0 < rv then ((walkT t s).1, withI (walkT t s).2 rv) else walkT t s)
end
theorem walkT_eq (t : Ty) (s : List Int × List Int) : walkT t s = walkTs t.kind t.rv 0 t.args (if t.kind = 7 then (withI s.1 t.var, s.2) else s) := by obtain ⟨k, n, v, ts, ls, r⟩ := t; rw [walkT]; rfl

/-- How much there is in a type: nodes, and all letters. -/
def lensS (ls : List Str) : Nat := (ls.map fun s => s.length + 2).sum
mutual
def bulkT : Ty → Nat
  | ⟨_, nm, _, ts, ls, _⟩ => 1 + nm.length + lensS ls + bulkTs ts
def bulkTs : List Ty → Nat
  | [] => 0
  | t :: ts => bulkT t + bulkTs ts
end
theorem bulkT_eq (t : Ty) : bulkT t = 1 + t.name.length + lensS t.labels + bulkTs t.args := by obtain ⟨k, n, v, ts, ls, r⟩ := t; rw [bulkT]; rfl
theorem bulkTs_mem : ∀ {l : List Ty} {u : Ty}, u ∈ l → bulkT u ≤ bulkTs l
  | t :: ts, u, h => by
    rw [bulkTs]
    rcases List.mem_cons.1 h with rfl | h
    · omega
    · have := bulkTs_mem h; omega
theorem bulkT_arg {t u : Ty} (h : u ∈ t.args) : bulkT u ≤ bulkT t := by rw [bulkT_eq t]; have := bulkTs_mem h; omega
theorem lensS_len (ls : List Str) : ls.length ≤ lensS ls := by
  unfold lensS; induction ls with
  | nil => simp
  | cons x l ih => simp only [List.length_cons, List.map_cons, List.sum_cons]; omega

theorem withI_in {l : List Int} {x : Int} (h : x ∈ l) : withI l x = l := by unfold withI; rw [if_pos (by simpa using h)]
theorem withI_out {l : List Int} {x : Int} (h : ¬ x ∈ l) : withI l x = l ++ [x] := by unfold withI; rw [if_neg (by simpa using h)]
theorem withI_len (l : List Int) (x : Int) : (withI l x).length ≤ l.length + 1 := by unfold withI; split <;> simp
mutual
def cntT : Ty → Nat
  | ⟨_, _, _, ts, _, _⟩ => cntTs ts + 1
def cntTs : List Ty → Nat
  | [] => 0
  | t :: ts => cntT t + cntTs ts
end
theorem cntT_eq (t : Ty) : cntT t = cntTs t.args + 1 := by obtain ⟨k, n, v, ts, ls, r⟩ := t; rw [cntT]; rfl
theorem cntTs_mem : ∀ {l : List Ty} {u : Ty}, u ∈ l → cntT u ≤ cntTs l
  | t :: ts, u, h => by
    rw [cntTs]
    rcases List.mem_cons.1 h with rfl | h
    · omega
    · have := cntTs_mem h; omega
theorem cnt_bulk (t : Ty) : cntT t ≤ bulkT t := by
  induction t using Ty.rec_ with
  | h t ih =>
    have hk := args_all t ih (fun l => cntTs l ≤ bulkTs l) (by simp [cntTs, bulkTs]) (fun x l hx hl => by simp only [cntTs, bulkTs]; omega)
    rw [cntT_eq, bulkT_eq]; omega
/-- The number of names there is room for. -/
def room (s : List Int × List Int) : Nat := s.1.length + s.2.length
theorem walkTs_cons (k rv : Int) (i : Nat) (t : Ty) (ts : List Ty) (s : List Int × List Int) : walkTs k rv i (t :: ts) s = walkTs k rv (i + 1) ts (if i = 0 ∧ k = 5 ∧ 0 < rv then ((walkT t s).1, withI (walkT t s).2 rv) else walkT t s) := by rw [walkTs]
theorem walk_room (t : Ty) : ∀ s, room (walkT t s) ≤ room s + 2 * cntT t := by
  induction t using Ty.rec_ with
  | h t ih =>
    intro s
    have key : ∀ (l : List Ty), (∀ u ∈ l, u ∈ t.args) → ∀ (i : Nat) s, room (walkTs t.kind t.rv i l s) ≤ room s + 2 * cntTs l + (if i = 0 then 1 else 0) := by
      intro l
      induction l with
      | nil => intro _ i s; rw [walkTs]; omega
      | cons x l ihl =>
        intro hl i s
        rw [walkTs_cons, cntTs]
        have h1 := ih x (hl x (.head _)) s
        have h2 := ihl (fun u hu => hl u (.tail _ hu)) (i + 1) (if i = 0 ∧ t.kind = 5 ∧ 0 < t.rv then ((walkT x s).1, withI (walkT x s).2 t.rv) else walkT x s)
        rw [if_neg (Nat.succ_ne_zero i)] at h2
        have h3 : room (if i = 0 ∧ t.kind = 5 ∧ 0 < t.rv then ((walkT x s).1, withI (walkT x s).2 t.rv) else walkT x s) ≤ room (walkT x s) + (if i = 0 then 1 else 0) := by
          have := withI_len (walkT x s).2 t.rv
          split <;> split <;> simp only [room] <;> omega
        omega
    rw [walkT_eq, cntT_eq]
    have h1 := key t.args (fun u hu => hu) 0 (if t.kind = 7 then (withI s.1 t.var, s.2) else s)
    have h2 : room (if t.kind = 7 then (withI s.1 t.var, s.2) else s) ≤ room s + 1 := by
      have := withI_len s.1 t.var
      split <;> simp only [room] <;> omega
    simp only [if_true] at h1; omega
/-- Depths, as the reference has them. -/
def capD (k : Nat) (t : Ty) : Nat := if deepT t ≤ k then deepT t else 201
def capDs (k : Nat) : List Ty → Nat
  | [] => 0
  | t :: ts => max (capD k t) (capDs k ts)
theorem capDs_snoc (k : Nat) : ∀ (l : List Ty) (x : Ty), capDs k (l ++ [x]) = max (capDs k l) (capD k x)
  | [], x => by simp [capDs]
  | t :: ts, x => by simp only [List.cons_append, capDs, capDs_snoc k ts x]; omega
theorem capDs_eq (k : Nat) (hk : k ≤ 200) : ∀ l : List Ty, capDs k l = if deepTs l ≤ k then deepTs l else 201
  | [] => by simp [capDs, deepTs]
  | t :: ts => by
    rw [capDs, deepTs, capDs_eq k hk ts]; unfold capD
    split <;> split <;> split <;> omega
theorem capD_eq {k : Nat} (h0 : 0 < k) (hk : k ≤ 201) (t : Ty) : capD k t = min 201 (capDs (k - 1) t.args + 1) := by
  rw [capDs_eq (k - 1) (by omega)]; unfold capD; rw [deepT_eq]
  split <;> split <;> omega
theorem capD_le {k : Nat} (hk : k ≤ 201) (t : Ty) : capD k t ≤ 201 := by unfold capD; split <;> omega
/-- A row that is right, as far as one has looked. -/
def preOk (ls : List Str) : Bool := isSortedS ls && !ls.contains []
theorem preOk_snoc (ls : List Str) (x : Str) (y : Nat) (h : ls.length = y) : preOk (ls ++ [x]) = (preOk ls && !(decide (x = []) || (decide (0 < y) && Op.bytesLess x (ls.getLast?.getD [])))) := by
  unfold preOk
  have hs : isSortedS (ls ++ [x]) = (isSortedS ls && !(decide (0 < y) && Op.bytesLess x (ls.getLast?.getD []))) := by
    subst h
    rcases List.eq_nil_or_concat ls with rfl | ⟨p, a, rfl⟩
    · simp [isSortedS]
    · rw [List.concat_eq_append, List.append_assoc]
      have key : ∀ (p : List Str), isSortedS (p ++ ([a] ++ [x])) = (isSortedS (p ++ [a]) && !Op.bytesLess x a) := by
        intro p
        induction p with
        | nil => simp [isSortedS]
        | cons z p ih =>
          cases p with
          | nil => simp [isSortedS, Bool.and_assoc]
          | cons z' p => simp only [List.cons_append, isSortedS] at ih ⊢; rw [ih, Bool.and_assoc]
      rw [key]; simp
  rw [hs]
  have hc : (ls ++ [x]).contains [] = (ls.contains [] || decide (x = [])) := by
    rw [Bool.eq_iff_iff]
    simp only [List.contains_iff_mem, List.mem_append, List.mem_singleton, Bool.or_eq_true, decide_eq_true_eq]
    constructor
    · rintro (h | h); exact .inl h; exact .inr h.symm
    · rintro (h | h); exact .inl h; exact .inr h.symm
  rw [hc]
  cases isSortedS ls <;> cases ls.contains [] <;> cases decide (x = []) <;> simp
theorem isSortedS_take : ∀ (l : List Str) (k : Nat), isSortedS l = true → isSortedS (l.take k) = true
  | [], k, _ => by simp [isSortedS]
  | [a], 0, _ => rfl
  | [a], k + 1, _ => by simp [isSortedS]
  | a :: b :: r, 0, _ => rfl
  | a :: b :: r, 1, _ => by simp [isSortedS]
  | a :: b :: r, k + 2, h => by
    rw [isSortedS, Bool.and_eq_true] at h
    have := isSortedS_take (b :: r) (k + 1) h.2
    simp only [List.take_succ_cons] at this ⊢
    rw [isSortedS, h.1, this]; rfl
theorem rowOk_false {ls : List Str} {rv : Int} {k : Nat} (h : preOk (ls.take k) = false) : rowOk ls rv = false := by
  unfold preOk at h; unfold rowOk
  by_cases h1 : isSortedS ls = true
  · rw [isSortedS_take ls k h1, Bool.true_and] at h
    have h2 : [] ∈ ls.take k := by simpa using h
    have h3 : ls.contains [] = true := by simpa using List.mem_of_mem_take h2
    rw [h3]; simp
  · rw [Bool.not_eq_true] at h1; rw [h1]; simp

mutual
def sameT : Ty → Ty → Bool
  | ⟨k, s, v, ts, ls, r⟩, ⟨k', s', v', ts', ls', r'⟩ => decide (k = k') && decide (s = s') && decide (v = v') && (decide (r = r') && decide (ls = ls')) && sameTs ts ts'
def sameTs : List Ty → List Ty → Bool
  | [], [] => true
  | t :: ts, u :: us => sameT t u && sameTs ts us
  | [], _ :: _ => false
  | _ :: _, [] => false
end
theorem sameTs_all2 : ∀ (l l' : List Ty), all2 sameT l l' = sameTs l l'
  | [], [] => by simp [all2, sameTs]
  | [], _ :: _ => by simp [all2, sameTs]
  | _ :: _, [] => by simp [all2, sameTs]
  | t :: ts, u :: us => by simp [all2, sameTs, sameTs_all2 ts us]
theorem sameT_eq (t u : Ty) : sameT t u = (decide (t.kind = u.kind) && decide (t.name = u.name) && decide (t.var = u.var) && (decide (t.rv = u.rv) && decide (t.labels = u.labels)) && sameTs t.args u.args) := by
  obtain ⟨k, n, v, ts, ls, r⟩ := t; obtain ⟨k', n', v', ts', ls', r'⟩ := u; rw [sameT]; rfl
theorem sameT_iff (t u : Ty) : sameT t u = true ↔ t = u := by
  induction t using Ty.rec_ generalizing u with
  | h t ih =>
    have hk := args_all t ih (fun l => ∀ l' : List Ty, sameTs l l' = true ↔ l = l') (fun l' => by cases l' <;> simp [sameTs]) (fun x l hx hl l' => by
      cases l' with
      | nil => simp [sameTs]
      | cons y l' => simp [sameTs, hx, hl])
    rw [sameT_eq]
    obtain ⟨k, n, v, ts, ls, r⟩ := t; obtain ⟨k', n', v', ts', ls', r'⟩ := u
    simp only [Ty.kind, Ty.name, Ty.var, Ty.args, Ty.labels, Ty.rv] at *
    simp only [hk, Bool.and_eq_true, Ty.mk.injEq, and_assoc]
    exact ⟨fun ⟨a, b, c, d, e, f⟩ => ⟨of_decide_eq_true a, of_decide_eq_true b, of_decide_eq_true c, f, of_decide_eq_true e, of_decide_eq_true d⟩, fun ⟨a, b, c, f, e, d⟩ => ⟨decide_eq_true a, decide_eq_true b, decide_eq_true c, decide_eq_true d, decide_eq_true e, f⟩⟩

/-- What is right of a type's head. -/
def bareT (t : Ty) : Bool := decide ((t.labels.length : Int) = 0) && decide (t.rv = 0)
def hdT (t : Ty) : Bool :=
  if t.kind = 1 ∨ t.kind = 2 ∨ t.kind = 3 then decide ((t.args.length : Int) = 0) && bareT t && decide (t.name = []) && decide (t.var = 0)
  else if t.kind = 4 then decide ((t.args.length : Int) = 0) && bareT t && !decide (t.name = []) && decide (t.var = 0)
  else if t.kind = 7 then decide ((t.args.length : Int) = 0) && bareT t && decide (t.name = []) && decide (1 ≤ t.var)
  else if t.kind = 6 then decide ((t.args.length : Int) = 1) && bareT t && decide (t.name = []) && decide (t.var = 0)
  else if t.kind = 5 then decide ((t.args.length : Int) = 2) && rowOk t.labels t.rv && decide (t.name = []) && decide (t.var = 0)
  else false
theorem hdT1 {t : Ty} (h : t.kind = 1 ∨ t.kind = 2 ∨ t.kind = 3) : hdT t = (decide ((t.args.length : Int) = 0) && bareT t && decide (t.name = []) && decide (t.var = 0)) := by unfold hdT; rw [if_pos h]
theorem hdT4 {t : Ty} (h : t.kind = 4) : hdT t = (decide ((t.args.length : Int) = 0) && bareT t && !decide (t.name = []) && decide (t.var = 0)) := by unfold hdT; rw [if_neg (by omega), if_pos h]
theorem hdT7 {t : Ty} (h : t.kind = 7) : hdT t = (decide ((t.args.length : Int) = 0) && bareT t && decide (t.name = []) && decide (1 ≤ t.var)) := by unfold hdT; rw [if_neg (by omega), if_neg (by omega), if_pos h]
theorem hdT6 {t : Ty} (h : t.kind = 6) : hdT t = (decide ((t.args.length : Int) = 1) && bareT t && decide (t.name = []) && decide (t.var = 0)) := by unfold hdT; rw [if_neg (by omega), if_neg (by omega), if_neg (by omega), if_pos h]
theorem hdT5 {t : Ty} (h : t.kind = 5) : hdT t = (decide ((t.args.length : Int) = 2) && rowOk t.labels t.rv && decide (t.name = []) && decide (t.var = 0)) := by unfold hdT; rw [if_neg (by omega), if_neg (by omega), if_neg (by omega), if_neg (by omega), if_pos h]
theorem hdT0 {t : Ty} (h : ¬ (t.kind = 1 ∨ t.kind = 2 ∨ t.kind = 3)) (h4 : ¬ t.kind = 4) (h7 : ¬ t.kind = 7) (h6 : ¬ t.kind = 6) (h5 : ¬ t.kind = 5) : hdT t = false := by unfold hdT; rw [if_neg h, if_neg h4, if_neg h7, if_neg h6, if_neg h5]
theorem len0 {α : Type} (l : List α) : decide ((l.length : Int) = 0) = decide (l = []) := by rw [decide_eq_decide]; constructor; (intro h; exact List.eq_nil_of_length_eq_zero (by omega)); (intro h; rw [h]; rfl)
theorem rowOk_bare : rowOk [] 0 = true := rfl
theorem lenK {α : Type} (l : List α) (k : Nat) : decide ((l.length : Int) = (k : Int)) = decide (l.length = k) := by rw [decide_eq_decide]; omega
theorem rightR_eq (t : Ty) : rightT t = (hdT t && rightTs t.args) := by
  rw [rightT_eq]; unfold rightTB
  have e2 := lenK t.args 2; have e1 := lenK t.args 1; have e0 := len0 t.args
  have hb : bareT t = (decide (t.labels = []) && decide (t.rv = 0)) := by unfold bareT; rw [len0]
  by_cases h7 : t.kind = 7
  · rw [hdT7 h7, hb, e0]
    by_cases hc : (t.kind ≠ 5 ∧ ¬ (t.rv = 0 ∧ t.labels = [])) ∨ ((t.name ≠ []) ≠ (t.kind = 4))
    · rw [if_pos hc]; simp only [h7] at hc; simp at hc ⊢; intro _ a b c d; rcases hc with h | h; exact absurd a (h b); exact absurd c h
    · rw [if_neg hc, if_pos h7]; simp only [h7] at hc; simp at hc
      obtain ⟨⟨h1, h2⟩, h3⟩ := hc
      rw [h1, h2, h3]
      cases hl : t.args with
      | nil => simp [rightTs]
      | cons x l => simp
  · by_cases h5 : t.kind = 5
    · rw [hdT5 h5]
      by_cases hc : (t.kind ≠ 5 ∧ ¬ (t.rv = 0 ∧ t.labels = [])) ∨ ((t.name ≠ []) ≠ (t.kind = 4))
      · rw [if_pos hc]; simp only [h5] at hc; simp at hc ⊢; intro _ _ c; exact absurd c hc
      · rw [if_neg hc, if_neg h7, show arity t.kind = some 2 by rw [h5]; rfl]; simp only [h5] at hc; simp at hc
        rw [show decide ((t.args.length : Int) = 2) = decide (t.args.length = 2) from e2, hc]; dsimp only
        cases decide (t.var = 0) <;> cases decide (t.args.length = 2) <;> cases rowOk t.labels t.rv <;> simp
    · by_cases h6 : t.kind = 6
      · rw [hdT6 h6, hb]
        by_cases hc : (t.kind ≠ 5 ∧ ¬ (t.rv = 0 ∧ t.labels = [])) ∨ ((t.name ≠ []) ≠ (t.kind = 4))
        · rw [if_pos hc]; simp only [h6] at hc; simp at hc ⊢; intro _ a b c; rcases hc with h | h; exact absurd a (h b); exact absurd c h
        · rw [if_neg hc, if_neg h7, show arity t.kind = some 1 by rw [h6]; rfl]; simp only [h6] at hc; simp at hc
          obtain ⟨⟨h1, h2⟩, h3⟩ := hc
          rw [h1, h2, h3, rowOk_bare, show decide ((t.args.length : Int) = 1) = decide (t.args.length = 1) from e1]; dsimp only
          cases decide (t.var = 0) <;> cases decide (t.args.length = 1) <;> simp
      · by_cases h4 : t.kind = 4
        · rw [hdT4 h4, hb, e0]
          by_cases hc : (t.kind ≠ 5 ∧ ¬ (t.rv = 0 ∧ t.labels = [])) ∨ ((t.name ≠ []) ≠ (t.kind = 4))
          · rw [if_pos hc]; simp only [h4] at hc; simp at hc ⊢; intro _ a b c; rcases hc with h | h; exact absurd a (h b); exact absurd h c
          · rw [if_neg hc, if_neg h7, show arity t.kind = some 0 by rw [h4]; rfl]; simp only [h4] at hc; simp at hc
            obtain ⟨⟨h1, h2⟩, h3⟩ := hc
            rw [h1, h2, rowOk_bare]; dsimp only
            cases decide (t.var = 0) <;> cases ht : t.args <;> simp [h3, rightTs]
        · by_cases h1 : t.kind = 1 ∨ t.kind = 2 ∨ t.kind = 3
          · rw [hdT1 h1, hb, e0]
            by_cases hc : (t.kind ≠ 5 ∧ ¬ (t.rv = 0 ∧ t.labels = [])) ∨ ((t.name ≠ []) ≠ (t.kind = 4))
            · rw [if_pos hc]; simp only [h4] at hc; simp at hc ⊢; intro _ a b c; rcases hc with h | h; exact absurd a (h.2 b); exact absurd c h
            · rw [if_neg hc, if_neg h7, show arity t.kind = some 0 by unfold arity; rw [if_pos (by omega)]]; simp only [h4] at hc; simp at hc
              obtain ⟨h12, h3⟩ := hc; obtain ⟨h1, h2⟩ := h12 h5
              rw [h1, h2, h3, rowOk_bare]; dsimp only
              cases decide (t.var = 0) <;> cases ht : t.args <;> simp [rightTs]
          · rw [hdT0 h1 h4 h7 h6 h5, show arity t.kind = none by unfold arity; rw [if_neg (by omega), if_neg h5, if_neg h6]]
            simp [h7]

set_option maxHeartbeats 400000 in
theorem sameRowR_c {w : World} {m : Mem} {a : Rw} {vs_a : List Value} {b : Rw} {vs_b : List Value} (hA : Agree w m) (h_a : RwR m a vs_a) (h_b : RwR m b vs_b) : FnV Try.prog 15 #[.agg vs_a.toArray, .agg vs_b.toArray] w m (fun _ _ v => v = .bool (decide (a.var = b.var) && decide (a.labels = b.labels))) := by
  obtain ⟨o_a, c_a, rfl, hs_a, hr_a⟩ := h_a.open_
  have hbs_a := hs_a.big; have hcs_a := hs_a.cap
  obtain ⟨o_b, c_b, rfl, hs_b, hr_b⟩ := h_b.open_
  have hbs_b := hs_b.big; have hcs_b := hs_b.cap
  refine fn_enter (vs := [_, _]) Try.func15 rfl rfl rfl fun a0 hfr0 => ?_
  have hst0 := st_enter hA (loc_nil [] _ w m)
  have hM : MLe m m := MLe.refl m
  have hae := all2_eq a.labels b.labels
  refine seq_any fun _ hK1 => ?_
  refine rp0 hst0 hfr0 (.cons rfl (ob_box rfl rfl) <| .cons rfl (ob_box rfl rfl) <| .cons rfl (ob_assign rfl) <| .nil) ?_
  intro a1 w1 m1 hst1 hle1 hk1
  have hfr1 := hk1.fr (T' := []) (.nil)
  obtain ⟨g2, e2, hc2⟩ := hk1.ex 2 rfl
  replace hfr1 := hfr1.cons e2
  obtain ⟨g3, e3, hc3⟩ := hk1.ex 3 rfl
  replace hfr1 := hfr1.cons e3
  replace hs_a := hs_a.mono hle1
  replace hs_b := hs_b.mono hle1
  clear hst0 hfr0 hk1
  refine hK1 _ _ ?_; clear hK1
  refine seq_any fun _ hK4 => ?_
  refine seq_any fun _ hK5 => ?_
  refine rp0 hst1 hfr1 (.cons rfl (ob_fieldAddrO (off := 1) rfl Try.underlying26 rfl rfl Try.sizeOf3 rfl) <| .cons rfl (ob_load1 rfl hc2 Try.isAgg3 rfl) <| .cons rfl (ob_fieldAddrO (off := 1) rfl Try.underlying26 rfl rfl Try.sizeOf3 rfl) <| .cons rfl (ob_load1 rfl hc3 Try.isAgg3 rfl) <| .cons rfl (ob_neq rfl rfl) <| .cons rfl (ob_move rfl) <| .cons rfl (ob_fieldAddrO (off := 0) rfl Try.underlying26 rfl rfl Try.sizeOf24 rfl) <| .cons rfl (ob_load1 rfl hc2 Try.isAgg24 rfl) <| .cons rfl (ob_len rfl Try.underlying24) <| .cons rfl (ob_fieldAddrO (off := 0) rfl Try.underlying26 rfl rfl Try.sizeOf24 rfl) <| .cons rfl (ob_load1 rfl hc3 Try.isAgg24 rfl) <| .cons rfl (ob_len rfl Try.underlying24) <| .cons rfl (ob_neq rfl rfl) <| .cons rfl (ob_or rfl rfl rfl) <| .nil) ?_
  intro a2 w2 m2 hst2 hle2 hk2
  have hfr2 := hk2.fr (T' := [(2, _), (3, _), (19, _)]) (.old rfl rfl <| .old rfl rfl <| .new rfl <| .nil)
  replace hs_a := hs_a.mono hle2
  replace hs_b := hs_b.mono hle2
  replace hc2 := hc2.mono hle2
  replace hc3 := hc3.mono hle2
  clear hst1 hfr1 hk2
  refine hK5 _ _ ?_; clear hK5
  refine cond_any hfr2 rfl rfl (fun hb19 => ?_) (fun hb19 => ?_)
  · try simp only [nq1, nq2, nq3, nq4, nq5, nq6, nq7, nq8, nq9, u8_eq] at hb19
    have hr : (decide (a.var = b.var) && decide (a.labels = b.labels)) = false := by rcases hb19 with h | h; (rw [decide_eq_false h]; rfl); (rw [← hae, all2_len (by omega), Bool.and_false])
    refine seq_any fun _ hK6 => ?_
    refine rp0 hst2 hfr2 (.cons rfl (ob_assign rfl) <| .nil) ?_
    intro a3 w3 m3 hst3 hle3 hk3
    have hfr3 := hk3.fr (T' := [(4, _)]) (.new rfl <| .nil)
    clear hst2 hfr2 hk3
    refine hK6 _ _ ?_; clear hK6
    refine wp_ret ?_
    repeat (with_reducible first | refine then_ret ?_ | refine block_ret ?_)
    exact fn_ret hst3 hfr3 rfl (.tmp rfl <| .nil) (by rw [hr]; rfl)
  · try simp only [nq1, nq2, nq3, nq4, nq5, nq6, nq7, nq8, nq9, u8_eq] at hb19
    have hv : a.var = b.var := by omega
    have hln : a.labels.length = b.labels.length := by omega
    refine wp_skip ?_
    refine hK4 _ _ ?_; clear hK4
    refine seq_any fun _ hK8 => ?_
    refine seq_any fun _ hK9 => ?_
    refine rp0 hst2 hfr2 (.cons rfl (ob_assign rfl) <| .nil) ?_
    intro a3 w3 m3 hst3 hle3 hk3
    have hfr3 := hk3.fr (T' := [(2, _), (3, _), (5, _)]) (.old rfl rfl <| .old rfl rfl <| .new rfl <| .nil)
    replace hs_a := hs_a.mono hle3
    replace hs_b := hs_b.mono hle3
    replace hc2 := hc2.mono hle3
    replace hc3 := hc3.mono hle3
    clear hst2 hfr2 hk3
    refine hK9 _ _ ?_; clear hK9
    refine wp_block ?_
    refine loop_any (T := [(2, _), (3, _)]) (fun (y : Nat) => ([(5, .int .i64 (y : Int))] : List (Nat × Value))) (fun _ => _) (fun (y : Nat) m => (y ≤ a.labels.length) ∧ (all2 (fun a b => decide (a = b)) a.labels b.labels = all2 (fun a b => decide (a = b)) (a.labels.drop y) (b.labels.drop y))) (fun y => a.labels.length - y) (0) ⟨hst3, MLe.refl _, hfr3.sub (.cons rfl <| .cons rfl <| .cons rfl <| .nil), ⟨Nat.zero_le _, rfl⟩⟩ fun y a4 w4 m4 hh4 => ?_
    have hst4 := hh4.st; have hle4 := hh4.le; have hfr4 := hh4.fr; have hrel := hh4.rel; clear hh4
    replace hs_a := hs_a.mono hle4
    replace hs_b := hs_b.mono hle4
    replace hc2 := hc2.mono hle4
    replace hc3 := hc3.mono hle4
    clear hst3 hfr3
    obtain ⟨hyn, hrem⟩ := hrel
    have hlh4 := hle4
    refine seq_any fun _ hK11 => ?_
    refine seq_any fun _ hK12 => ?_
    refine rp0 hst4 hfr4 (.cons rfl (ob_move rfl) <| .cons rfl (ob_fieldAddrO (off := 0) rfl Try.underlying26 rfl rfl Try.sizeOf24 rfl) <| .cons rfl (ob_load1 rfl hc2 Try.isAgg24 rfl) <| .cons rfl (ob_len rfl Try.underlying24) <| .cons rfl (ob_lss rfl rfl) <| .nil) ?_
    intro a5 w5 m5 hst5 hle5 hk5
    have hfr5 := hk5.fr (T' := [(5, _), (2, _), (3, _), (24, _)]) (.old rfl rfl <| .old rfl rfl <| .old rfl rfl <| .new rfl <| .nil)
    replace hs_a := hs_a.mono hle5
    replace hs_b := hs_b.mono hle5
    replace hc2 := hc2.mono hle5
    replace hc3 := hc3.mono hle5
    have hlh5 := hlh4.trans hle5
    clear hst4 hfr4 hk5
    refine hK12 _ _ ?_; clear hK12
    refine cond_any hfr5 rfl rfl (fun hb24 => ?_) (fun hb24 => ?_)
    · try simp only [nq1, nq2, nq3, nq4, nq5, nq6, nq7, nq8, nq9, u8_eq] at hb24
      refine wp_skip ?_
      refine hK11 _ _ ?_; clear hK11
      refine seq_any fun _ hK13 => ?_
      refine wp_block ?_
      refine seq_any fun _ hK14 => ?_
      obtain ⟨p15, vs15, x15, ho15, hd15, hm_x15, ht15, hcv15, hl15, hv15⟩ := hs_a.nth (k := y) (by omega)
      cases ho15
      subst hv15
      try rw [hd15] at hrem
      try simp only [all2] at hrem
      obtain ⟨p16, vs16, x16, ho16, hd16, hm_x16, ht16, hcv16, hl16, hv16⟩ := hs_b.nth (k := y) (by omega)
      cases ho16
      subst hv16
      try rw [hd16] at hrem
      try simp only [all2] at hrem
      refine region_plain (fun _ => mixed) hst5 hfr5 (by kernel_rfl) (by kernel_rfl) (.cons rfl (ob_fieldAddrO (off := 0) rfl Try.underlying26 rfl rfl Try.sizeOf24 rfl) <| .cons rfl (ob_load1 rfl hc2 Try.isAgg24 rfl) <| .cons rfl (ob_move rfl) <| .cons rfl (ob_indexAddr (k := y) rfl rfl Try.underlying24 Try.sizeOf9 rfl (by omega)) <| .cons rfl (ob_load1' rfl hcv15 Try.isAgg9 rfl) <| .cons rfl (ob_fieldAddrO (off := 0) rfl Try.underlying26 rfl rfl Try.sizeOf24 rfl) <| .cons rfl (ob_load1 rfl hc3 Try.isAgg24 rfl) <| .cons rfl (ob_move rfl) <| .cons rfl (ob_indexAddr (k := y) rfl rfl Try.underlying24 Try.sizeOf9 rfl (by omega)) <| .cons rfl (ob_load1' rfl hcv16 Try.isAgg9 rfl) <| .cons rfl (ob_sneq rfl rfl) <| .nil) ?_
      intro a6 w6 m6 hst6 hle6 hk6
      have hfr6 := hk6.fr (T' := [(5, _), (2, _), (3, _), (37, _)]) (.old rfl rfl <| .old rfl rfl <| .old rfl rfl <| .new rfl <| .nil)
      have hlh6 := hlh5.trans hle6
      clear hst5 hfr5 hk6
      refine hK14 _ _ ?_; clear hK14
      refine cond_any hfr6 rfl rfl (fun hb37 => ?_) (fun hb37 => ?_)
      · try simp only [nq1, nq2, nq3, nq4, nq5, nq6, nq7, nq8, nq9, u8_eq] at hb37
        refine seq_any fun _ hK17 => ?_
        refine rp0 hst6 hfr6 (.cons rfl (ob_assign rfl) <| .nil) ?_
        intro a7 w7 m7 hst7 hle7 hk7
        have hfr7 := hk7.fr (T' := [(5, _), (4, _)]) (.old rfl rfl <| .new rfl <| .nil)
        have hlh7 := hlh6.trans hle7
        clear hst6 hfr6 hk7
        refine hK17 _ _ ?_; clear hK17
        refine wp_ret ?_
        repeat (with_reducible first | refine then_ret ?_ | refine block_ret ?_)
        exact fn_ret hst7 hfr7 rfl (.tmp rfl <| .nil) (by refine congrArg Value.bool ?_; rw [← hae, hrem, hv]; simp_all)
      · try simp only [nq1, nq2, nq3, nq4, nq5, nq6, nq7, nq8, nq9, u8_eq] at hb37
        refine wp_skip ?_
        refine hK13 _ _ ?_; clear hK13
        refine rp0 hst6 hfr6 (.cons rfl (ob_move rfl) <| .cons rfl (ob_add rfl rfl ⟨by omega, by omega⟩) <| .cons rfl (ob_assign rfl) <| .nil) ?_
        intro a7 w7 m7 hst7 hle7 hk7
        have hfr7 := hk7.fr (T' := [(2, _), (3, _), (5, _)]) (.old rfl rfl <| .old rfl rfl <| .new rfl <| .nil)
        have hlh7 := hlh6.trans hle7
        clear hst6 hfr6 hk7
        exact ⟨y + 1, m7, by show a.labels.length - (y + 1) < a.labels.length - y; omega, ⟨hst7, hlh7, hfr7.sub (.cons rfl <| .cons rfl <| .cons rfl <| .nil), ⟨by show y + 1 ≤ a.labels.length; omega, by simp_all⟩⟩⟩
    · try simp only [nq1, nq2, nq3, nq4, nq5, nq6, nq7, nq8, nq9, u8_eq] at hb24
      have hge : y = a.labels.length := by omega
      rw [List.drop_of_length_le (by omega), List.drop_of_length_le (by omega)] at hrem
      simp only [all2] at hrem
      refine wp_exit ?_
      refine hK8 _ _ ?_; clear hK8
      refine seq_any fun _ hK19 => ?_
      refine rp0 hst5 hfr5 (.cons rfl (ob_assign rfl) <| .nil) ?_
      intro a6 w6 m6 hst6 hle6 hk6
      have hfr6 := hk6.fr (T' := [(5, _), (4, _)]) (.old rfl rfl <| .new rfl <| .nil)
      have hlh6 := hlh5.trans hle6
      clear hst5 hfr5 hk6
      refine hK19 _ _ ?_; clear hK19
      refine wp_ret ?_
      repeat (with_reducible first | refine then_ret ?_ | refine block_ret ?_)
      exact fn_ret hst6 hfr6 rfl (.tmp rfl <| .nil) (by refine congrArg Value.bool ?_; rw [← hae, hrem, hv]; simp_all)

abbrev sameR_G (t : Ty) : Prop := ∀ {w : World} {m : Mem} {vs_t : List Value} {u : Ty} {vs_u : List Value} (hA : Agree w m) (h_t : TyR m t vs_t) (h_u : TyR m u vs_u), FnV Try.prog 14 #[.agg vs_t.toArray, .agg vs_u.toArray] w m (fun _ _ v => v = .bool (sameT t u))
set_option maxHeartbeats 400000 in
theorem sameR_s {t : Ty} (ih : ∀ u ∈ t.args, sameR_G u) {w : World} {m : Mem} {vs_t : List Value} {u : Ty} {vs_u : List Value} (hA : Agree w m) (h_t : TyR m t vs_t) (h_u : TyR m u vs_u) : FnV Try.prog 14 #[.agg vs_t.toArray, .agg vs_u.toArray] w m (fun _ _ v => v = .bool (sameT t u)) := by
  obtain ⟨o_t, c_t, oL_t, cL_t, rfl, hk_t, hs_t, hi_t, hj_t, hr_t⟩ := h_t.open_
  have hbg_t := hk_t.big; have hcp_t := hk_t.cap; have hbs_t := hs_t.big; have hcs_t := hs_t.cap
  have hrw_t : RwR _ ⟨t.labels, t.rv⟩ _ := ⟨_, _, rfl, hs_t, hr_t⟩
  obtain ⟨o_u, c_u, oL_u, cL_u, rfl, hk_u, hs_u, hi_u, hj_u, hr_u⟩ := h_u.open_
  have hbg_u := hk_u.big; have hcp_u := hk_u.cap; have hbs_u := hs_u.big; have hcs_u := hs_u.cap
  have hrw_u : RwR _ ⟨u.labels, u.rv⟩ _ := ⟨_, _, rfl, hs_u, hr_u⟩
  refine fn_enter (vs := [_, _]) Try.func14 rfl rfl rfl fun a0 hfr0 => ?_
  have hst0 := st_enter hA (loc_nil [] _ w m)
  have hM : MLe m m := MLe.refl m
  have hse := sameT_eq t u
  rw [← sameTs_all2] at hse
  refine seq_any fun _ hK1 => ?_
  refine rp0 hst0 hfr0 (.cons rfl (ob_box rfl rfl) <| .cons rfl (ob_box rfl rfl) <| .cons rfl (ob_assign rfl) <| .nil) ?_
  intro a1 w1 m1 hst1 hle1 hk1
  have hfr1 := hk1.fr (T' := []) (.nil)
  obtain ⟨g2, e2, hc2⟩ := hk1.ex 2 rfl
  replace hfr1 := hfr1.cons e2
  obtain ⟨g3, e3, hc3⟩ := hk1.ex 3 rfl
  replace hfr1 := hfr1.cons e3
  replace h_t := h_t.mono hle1
  replace hk_t := hk_t.mono hle1
  replace hs_t := hs_t.mono hle1
  replace hrw_t := hrw_t.mono hle1
  replace h_u := h_u.mono hle1
  replace hk_u := hk_u.mono hle1
  replace hs_u := hs_u.mono hle1
  replace hrw_u := hrw_u.mono hle1
  clear hst0 hfr0 hk1
  refine hK1 _ _ ?_; clear hK1
  refine seq_any fun _ hK4 => ?_
  refine rp0 hst1 hfr1 (.cons rfl (ob_fieldAddrO (off := 4) rfl Try.underlying28 rfl rfl Try.sizeOf26 rfl) <| .cons rfl (ob_loadS rfl hc2 Try.isAgg26 Try.sizeOf26 rfl rfl) <| .cons rfl (ob_fieldAddrO (off := 4) rfl Try.underlying28 rfl rfl Try.sizeOf26 rfl) <| .cons rfl (ob_loadS rfl hc3 Try.isAgg26 Try.sizeOf26 rfl rfl) <| .cons rfl (ob_callE rfl (.cons rfl <| .cons rfl <| .nil) Try.call15 (fun w m hK => by have hle_ := KC.le hK; have hA := KC.agree hK; have hrw_t := hrw_t.mono hle_; have hrw_u := hrw_u.mono hle_; exact sameRowR_c (a := ⟨t.labels, t.rv⟩) (b := ⟨u.labels, u.rv⟩) hA hrw_t hrw_u)) <| .cons rfl (ob_assign rfl) <| .nil) ?_
  intro a2 w2 m2 hst2 hle2 hk2
  have hfr2 := hk2.fr (T' := [(2, _), (3, _), (5, _)]) (.old rfl rfl <| .old rfl rfl <| .new rfl <| .nil)
  replace h_t := h_t.mono hle2
  replace hk_t := hk_t.mono hle2
  replace hs_t := hs_t.mono hle2
  replace hrw_t := hrw_t.mono hle2
  replace h_u := h_u.mono hle2
  replace hk_u := hk_u.mono hle2
  replace hs_u := hs_u.mono hle2
  replace hrw_u := hrw_u.mono hle2
  replace hc2 := hc2.mono hle2
  replace hc3 := hc3.mono hle2
  clear hst1 hfr1 hk2
  refine hK4 _ _ ?_; clear hK4
  refine seq_any fun _ hK5 => ?_
  refine seq_any fun _ hK6 => ?_
  refine rp0 hst2 hfr2 (.cons rfl (ob_fieldAddrO (off := 0) rfl Try.underlying28 rfl rfl Try.sizeOf3 rfl) <| .cons rfl (ob_load1 rfl hc2 Try.isAgg3 rfl) <| .cons rfl (ob_fieldAddrO (off := 0) rfl Try.underlying28 rfl rfl Try.sizeOf3 rfl) <| .cons rfl (ob_load1 rfl hc3 Try.isAgg3 rfl) <| .cons rfl (ob_neq rfl rfl) <| .cons rfl (ob_move rfl) <| .cons rfl (ob_fieldAddrO (off := 1) rfl Try.underlying28 rfl rfl Try.sizeOf9 rfl) <| .cons rfl (ob_load1 rfl hc2 Try.isAgg9 rfl) <| .cons rfl (ob_fieldAddrO (off := 1) rfl Try.underlying28 rfl rfl Try.sizeOf9 rfl) <| .cons rfl (ob_load1 rfl hc3 Try.isAgg9 rfl) <| .cons rfl (ob_sneq rfl rfl) <| .cons rfl (ob_or rfl rfl rfl) <| .cons rfl (ob_move rfl) <| .cons rfl (ob_fieldAddrO (off := 2) rfl Try.underlying28 rfl rfl Try.sizeOf3 rfl) <| .cons rfl (ob_load1 rfl hc2 Try.isAgg3 rfl) <| .cons rfl (ob_fieldAddrO (off := 2) rfl Try.underlying28 rfl rfl Try.sizeOf3 rfl) <| .cons rfl (ob_load1 rfl hc3 Try.isAgg3 rfl) <| .cons rfl (ob_neq rfl rfl) <| .cons rfl (ob_or rfl rfl rfl) <| .cons rfl (ob_move rfl) <| .cons rfl (ob_fieldAddrO (off := 3) rfl Try.underlying28 rfl rfl Try.sizeOf23 rfl) <| .cons rfl (ob_load1 rfl hc2 Try.isAgg23 rfl) <| .cons rfl (ob_len rfl Try.underlying23) <| .cons rfl (ob_fieldAddrO (off := 3) rfl Try.underlying28 rfl rfl Try.sizeOf23 rfl) <| .cons rfl (ob_load1 rfl hc3 Try.isAgg23 rfl) <| .cons rfl (ob_len rfl Try.underlying23) <| .cons rfl (ob_neq rfl rfl) <| .cons rfl (ob_or rfl rfl rfl) <| .cons rfl (ob_move rfl) <| .cons rfl (ob_move rfl) <| .cons rfl (ob_not rfl) <| .cons rfl (ob_or rfl rfl rfl) <| .nil) ?_
  intro a3 w3 m3 hst3 hle3 hk3
  have hfr3 := hk3.fr (T' := [(2, _), (3, _), (44, _)]) (.old rfl rfl <| .old rfl rfl <| .new rfl <| .nil)
  replace h_t := h_t.mono hle3
  replace hk_t := hk_t.mono hle3
  replace hs_t := hs_t.mono hle3
  replace hrw_t := hrw_t.mono hle3
  replace h_u := h_u.mono hle3
  replace hk_u := hk_u.mono hle3
  replace hs_u := hs_u.mono hle3
  replace hrw_u := hrw_u.mono hle3
  replace hc2 := hc2.mono hle3
  replace hc3 := hc3.mono hle3
  clear hst2 hfr2 hk3
  refine hK6 _ _ ?_; clear hK6
  refine cond_any hfr3 rfl rfl (fun hb44 => ?_) (fun hb44 => ?_)
  · try simp only [nq1, nq2, nq3, nq4, nq5, nq6, nq7, nq8, nq9, u8_eq] at hb44
    have hr : sameT t u = false := by
      rw [hse]
      by_cases h1 : t.args.length = u.args.length
      · simp_all; intro e1 e2 e3 e4 e5; rcases hb44 with ((h | h) | h) | h | h <;> exact absurd (by assumption) h
      · rw [all2_len h1, Bool.and_false]
    refine seq_any fun _ hK7 => ?_
    refine rp0 hst3 hfr3 (.cons rfl (ob_assign rfl) <| .nil) ?_
    intro a4 w4 m4 hst4 hle4 hk4
    have hfr4 := hk4.fr (T' := [(4, _)]) (.new rfl <| .nil)
    clear hst3 hfr3 hk4
    refine hK7 _ _ ?_; clear hK7
    refine wp_ret ?_
    repeat (with_reducible first | refine then_ret ?_ | refine block_ret ?_)
    exact fn_ret hst4 hfr4 rfl (.tmp rfl <| .nil) (by rw [hr]; rfl)
  · try simp only [nq1, nq2, nq3, nq4, nq5, nq6, nq7, nq8, nq9, u8_eq] at hb44
    have hln : t.args.length = u.args.length := by omega
    have hh : sameT t u = all2 sameT t.args u.args := by rw [hse]; simp_all
    refine wp_skip ?_
    refine hK5 _ _ ?_; clear hK5
    refine seq_any fun _ hK9 => ?_
    refine seq_any fun _ hK10 => ?_
    refine rp0 hst3 hfr3 (.cons rfl (ob_assign rfl) <| .nil) ?_
    intro a4 w4 m4 hst4 hle4 hk4
    have hfr4 := hk4.fr (T' := [(2, _), (3, _), (6, _)]) (.old rfl rfl <| .old rfl rfl <| .new rfl <| .nil)
    replace h_t := h_t.mono hle4
    replace hk_t := hk_t.mono hle4
    replace hs_t := hs_t.mono hle4
    replace hrw_t := hrw_t.mono hle4
    replace h_u := h_u.mono hle4
    replace hk_u := hk_u.mono hle4
    replace hs_u := hs_u.mono hle4
    replace hrw_u := hrw_u.mono hle4
    replace hc2 := hc2.mono hle4
    replace hc3 := hc3.mono hle4
    clear hst3 hfr3 hk4
    refine hK10 _ _ ?_; clear hK10
    refine wp_block ?_
    refine loop_any (T := [(2, _), (3, _)]) (fun (y : Nat) => ([(6, .int .i64 (y : Int))] : List (Nat × Value))) (fun _ => _) (fun (y : Nat) m => (y ≤ t.args.length) ∧ (all2 sameT t.args u.args = all2 sameT (t.args.drop y) (u.args.drop y))) (fun y => t.args.length - y) (0) ⟨hst4, MLe.refl _, hfr4.sub (.cons rfl <| .cons rfl <| .cons rfl <| .nil), ⟨Nat.zero_le _, rfl⟩⟩ fun y a5 w5 m5 hh5 => ?_
    have hst5 := hh5.st; have hle5 := hh5.le; have hfr5 := hh5.fr; have hrel := hh5.rel; clear hh5
    replace h_t := h_t.mono hle5
    replace hk_t := hk_t.mono hle5
    replace hs_t := hs_t.mono hle5
    replace hrw_t := hrw_t.mono hle5
    replace h_u := h_u.mono hle5
    replace hk_u := hk_u.mono hle5
    replace hs_u := hs_u.mono hle5
    replace hrw_u := hrw_u.mono hle5
    replace hc2 := hc2.mono hle5
    replace hc3 := hc3.mono hle5
    clear hst4 hfr4
    obtain ⟨hyn, hrem⟩ := hrel
    have hlh5 := hle5
    refine seq_any fun _ hK12 => ?_
    refine seq_any fun _ hK13 => ?_
    refine rp0 hst5 hfr5 (.cons rfl (ob_move rfl) <| .cons rfl (ob_fieldAddrO (off := 3) rfl Try.underlying28 rfl rfl Try.sizeOf23 rfl) <| .cons rfl (ob_load1 rfl hc2 Try.isAgg23 rfl) <| .cons rfl (ob_len rfl Try.underlying23) <| .cons rfl (ob_lss rfl rfl) <| .nil) ?_
    intro a6 w6 m6 hst6 hle6 hk6
    have hfr6 := hk6.fr (T' := [(6, _), (2, _), (3, _), (49, _)]) (.old rfl rfl <| .old rfl rfl <| .old rfl rfl <| .new rfl <| .nil)
    replace h_t := h_t.mono hle6
    replace hk_t := hk_t.mono hle6
    replace hs_t := hs_t.mono hle6
    replace hrw_t := hrw_t.mono hle6
    replace h_u := h_u.mono hle6
    replace hk_u := hk_u.mono hle6
    replace hs_u := hs_u.mono hle6
    replace hrw_u := hrw_u.mono hle6
    replace hc2 := hc2.mono hle6
    replace hc3 := hc3.mono hle6
    have hlh6 := hlh5.trans hle6
    clear hst5 hfr5 hk6
    refine hK13 _ _ ?_; clear hK13
    refine cond_any hfr6 rfl rfl (fun hb49 => ?_) (fun hb49 => ?_)
    · try simp only [nq1, nq2, nq3, nq4, nq5, nq6, nq7, nq8, nq9, u8_eq] at hb49
      refine wp_skip ?_
      refine hK12 _ _ ?_; clear hK12
      refine seq_any fun _ hK14 => ?_
      refine wp_block ?_
      refine seq_any fun _ hK15 => ?_
      obtain ⟨p16, vs16, x16, ho16, hd16, hm_x16, ht16, hcv16, hl16, hv16⟩ := hk_t.nth (k := y) (by omega)
      cases ho16
      obtain ⟨o16, c16, oL16, cL16, rfl, hkd16, hs16, hi16, hj16, hr16⟩ := hv16.open_
      have hbg16 := hkd16.big; have hcp16 := hkd16.cap; have hbs16 := hs16.big; have hcs16 := hs16.cap
      have hrw16 : RwR _ ⟨x16.labels, x16.rv⟩ _ := ⟨_, _, rfl, hs16, hr16⟩
      try rw [hd16] at hrem
      try simp only [all2] at hrem
      obtain ⟨p17, vs17, x17, ho17, hd17, hm_x17, ht17, hcv17, hl17, hv17⟩ := hk_u.nth (k := y) (by omega)
      cases ho17
      obtain ⟨o17, c17, oL17, cL17, rfl, hkd17, hs17, hi17, hj17, hr17⟩ := hv17.open_
      have hbg17 := hkd17.big; have hcp17 := hkd17.cap; have hbs17 := hs17.big; have hcs17 := hs17.cap
      have hrw17 : RwR _ ⟨x17.labels, x17.rv⟩ _ := ⟨_, _, rfl, hs17, hr17⟩
      try rw [hd17] at hrem
      try simp only [all2] at hrem
      refine region_plain (fun _ => mixed) hst6 hfr6 (by kernel_rfl) (by kernel_rfl) (.cons rfl (ob_fieldAddrO (off := 3) rfl Try.underlying28 rfl rfl Try.sizeOf23 rfl) <| .cons rfl (ob_load1 rfl hc2 Try.isAgg23 rfl) <| .cons rfl (ob_move rfl) <| .cons rfl (ob_indexAddr (k := y) rfl rfl Try.underlying23 Try.sizeOf28 rfl (by omega)) <| .cons rfl (ob_loadS' rfl hcv16 Try.isAgg28 Try.sizeOf28 rfl rfl) <| .cons rfl (ob_fieldAddrO (off := 3) rfl Try.underlying28 rfl rfl Try.sizeOf23 rfl) <| .cons rfl (ob_load1 rfl hc3 Try.isAgg23 rfl) <| .cons rfl (ob_move rfl) <| .cons rfl (ob_indexAddr (k := y) rfl rfl Try.underlying23 Try.sizeOf28 rfl (by omega)) <| .cons rfl (ob_loadS' rfl hcv17 Try.isAgg28 Try.sizeOf28 rfl rfl) <| .cons rfl (ob_callE rfl (.cons rfl <| .cons rfl <| .nil) Try.call14 (fun w m hK => by have hle_ := KC.le hK; have hA := KC.agree hK; have h_t := h_t.mono hle_; have hk_t := hk_t.mono hle_; have hs_t := hs_t.mono hle_; have hrw_t := hrw_t.mono hle_; have h_u := h_u.mono hle_; have hk_u := hk_u.mono hle_; have hs_u := hs_u.mono hle_; have hrw_u := hrw_u.mono hle_; have hc2 := hc2.mono hle_; have hc3 := hc3.mono hle_; have hcv16 := hcv16.mono hle_; have hv16 := hv16.mono hle_; have hkd16 := hkd16.mono hle_; have hs16 := hs16.mono hle_; have hrw16 := hrw16.mono hle_; have hcv17 := hcv17.mono hle_; have hv17 := hv17.mono hle_; have hkd17 := hkd17.mono hle_; have hs17 := hs17.mono hle_; have hrw17 := hrw17.mono hle_; exact ih _ (by assumption) hA (by assumption) (by assumption))) <| .cons rfl (ob_assign rfl) <| .nil) ?_
      intro a7 w7 m7 hst7 hle7 hk7
      have hfr7 := hk7.fr (T' := [(6, _), (2, _), (3, _), (7, _)]) (.old rfl rfl <| .old rfl rfl <| .old rfl rfl <| .new rfl <| .nil)
      have hlh7 := hlh6.trans hle7
      clear hst6 hfr6 hk7
      refine hK15 _ _ ?_; clear hK15
      refine seq_any fun _ hK18 => ?_
      refine rp0 hst7 hfr7 (.cons rfl (ob_move rfl) <| .cons rfl (ob_not rfl) <| .nil) ?_
      intro a8 w8 m8 hst8 hle8 hk8
      have hfr8 := hk8.fr (T' := [(6, _), (2, _), (3, _), (64, _)]) (.old rfl rfl <| .old rfl rfl <| .old rfl rfl <| .new rfl <| .nil)
      have hlh8 := hlh7.trans hle8
      clear hst7 hfr7 hk8
      refine hK18 _ _ ?_; clear hK18
      refine cond_any hfr8 rfl rfl (fun hb64 => ?_) (fun hb64 => ?_)
      · try simp only [nq1, nq2, nq3, nq4, nq5, nq6, nq7, nq8, nq9, u8_eq] at hb64
        refine seq_any fun _ hK19 => ?_
        refine rp0 hst8 hfr8 (.cons rfl (ob_assign rfl) <| .nil) ?_
        intro a9 w9 m9 hst9 hle9 hk9
        have hfr9 := hk9.fr (T' := [(6, _), (4, _)]) (.old rfl rfl <| .new rfl <| .nil)
        have hlh9 := hlh8.trans hle9
        clear hst8 hfr8 hk9
        refine hK19 _ _ ?_; clear hK19
        refine wp_ret ?_
        repeat (with_reducible first | refine then_ret ?_ | refine block_ret ?_)
        exact fn_ret hst9 hfr9 rfl (.tmp rfl <| .nil) (by refine congrArg Value.bool ?_; rw [hh, hrem]; try simp_all)
      · try simp only [nq1, nq2, nq3, nq4, nq5, nq6, nq7, nq8, nq9, u8_eq] at hb64
        refine wp_skip ?_
        refine hK14 _ _ ?_; clear hK14
        refine rp0 hst8 hfr8 (.cons rfl (ob_move rfl) <| .cons rfl (ob_add rfl rfl ⟨by omega, by omega⟩) <| .cons rfl (ob_assign rfl) <| .nil) ?_
        intro a9 w9 m9 hst9 hle9 hk9
        have hfr9 := hk9.fr (T' := [(2, _), (3, _), (6, _)]) (.old rfl rfl <| .old rfl rfl <| .new rfl <| .nil)
        have hlh9 := hlh8.trans hle9
        clear hst8 hfr8 hk9
        exact ⟨y + 1, m9, by show t.args.length - (y + 1) < t.args.length - y; omega, ⟨hst9, hlh9, hfr9.sub (.cons rfl <| .cons rfl <| .cons rfl <| .nil), ⟨by show y + 1 ≤ t.args.length; omega, by simp_all⟩⟩⟩
    · try simp only [nq1, nq2, nq3, nq4, nq5, nq6, nq7, nq8, nq9, u8_eq] at hb49
      have hge : y = t.args.length := by omega
      rw [List.drop_of_length_le (by omega), List.drop_of_length_le (by omega)] at hrem
      simp only [all2] at hrem
      refine wp_exit ?_
      refine hK9 _ _ ?_; clear hK9
      refine seq_any fun _ hK21 => ?_
      refine rp0 hst6 hfr6 (.cons rfl (ob_assign rfl) <| .nil) ?_
      intro a7 w7 m7 hst7 hle7 hk7
      have hfr7 := hk7.fr (T' := [(6, _), (4, _)]) (.old rfl rfl <| .new rfl <| .nil)
      have hlh7 := hlh6.trans hle7
      clear hst6 hfr6 hk7
      refine hK21 _ _ ?_; clear hK21
      refine wp_ret ?_
      repeat (with_reducible first | refine then_ret ?_ | refine block_ret ?_)
      exact fn_ret hst7 hfr7 rfl (.tmp rfl <| .nil) (by refine congrArg Value.bool ?_; rw [hh, hrem]; try simp_all)
theorem sameR_c (t : Ty) : sameR_G t := Ty.rec_ (p := sameR_G) (fun t ih => sameR_s ih) t

abbrev deepR_G (t : Ty) : Prop := ∀ {w : World} {m : Mem} {vs_t : List Value} {left : Nat} (hA : Agree w m) (h_t : TyR m t vs_t) (hl : left ≤ 201), FnV Try.prog 31 #[.agg vs_t.toArray, .int .i64 (left : Int)] w m (fun _ _ v => v = .int .i64 (capD left t : Nat))
set_option maxHeartbeats 400000 in
theorem deepR_s {t : Ty} (ih : ∀ u ∈ t.args, deepR_G u) {w : World} {m : Mem} {vs_t : List Value} {left : Nat} (hA : Agree w m) (h_t : TyR m t vs_t) (hl : left ≤ 201) : FnV Try.prog 31 #[.agg vs_t.toArray, .int .i64 (left : Int)] w m (fun _ _ v => v = .int .i64 (capD left t : Nat)) := by
  obtain ⟨o_t, c_t, oL_t, cL_t, rfl, hk_t, hs_t, hi_t, hj_t, hr_t⟩ := h_t.open_
  have hbg_t := hk_t.big; have hcp_t := hk_t.cap; have hbs_t := hs_t.big; have hcs_t := hs_t.cap
  have hrw_t : RwR _ ⟨t.labels, t.rv⟩ _ := ⟨_, _, rfl, hs_t, hr_t⟩
  refine fn_enter (vs := [_, _]) Try.func31 rfl rfl rfl fun a0 hfr0 => ?_
  have hst0 := st_enter hA (loc_nil [] _ w m)
  have hM : MLe m m := MLe.refl m
  refine seq_any fun _ hK1 => ?_
  refine rp0 hst0 hfr0 (.cons rfl (ob_box rfl rfl) <| .cons rfl (ob_assign rfl) <| .nil) ?_
  intro a1 w1 m1 hst1 hle1 hk1
  have hfr1 := hk1.fr (T' := [(1, _)]) (.old rfl rfl <| .nil)
  obtain ⟨g2, e2, hc2⟩ := hk1.ex 2 rfl
  replace hfr1 := hfr1.cons e2
  replace h_t := h_t.mono hle1
  replace hk_t := hk_t.mono hle1
  replace hs_t := hs_t.mono hle1
  replace hrw_t := hrw_t.mono hle1
  clear hst0 hfr0 hk1
  refine hK1 _ _ ?_; clear hK1
  refine seq_any fun _ hK3 => ?_
  refine seq_any fun _ hK4 => ?_
  refine rp0 hst1 hfr1 (.cons rfl (ob_move rfl) <| .cons rfl (ob_eql rfl rfl) <| .nil) ?_
  intro a2 w2 m2 hst2 hle2 hk2
  have hfr2 := hk2.fr (T' := [(1, _), (2, _), (9, _)]) (.old rfl rfl <| .old rfl rfl <| .new rfl <| .nil)
  replace h_t := h_t.mono hle2
  replace hk_t := hk_t.mono hle2
  replace hs_t := hs_t.mono hle2
  replace hrw_t := hrw_t.mono hle2
  replace hc2 := hc2.mono hle2
  clear hst1 hfr1 hk2
  refine hK4 _ _ ?_; clear hK4
  refine cond_any hfr2 rfl rfl (fun hb9 => ?_) (fun hb9 => ?_)
  · try simp only [nq1, nq2, nq3, nq4, nq5, nq6, nq7, nq8, nq9, u8_eq] at hb9
    refine seq_any fun _ hK5 => ?_
    refine rp0 hst2 hfr2 (.cons rfl (ob_assign rfl) <| .nil) ?_
    intro a3 w3 m3 hst3 hle3 hk3
    have hfr3 := hk3.fr (T' := [(4, _)]) (.new rfl <| .nil)
    clear hst2 hfr2 hk3
    refine hK5 _ _ ?_; clear hK5
    refine wp_ret ?_
    repeat (with_reducible first | refine then_ret ?_ | refine block_ret ?_)
    exact fn_ret hst3 hfr3 rfl (.tmp rfl <| .nil) (by refine congrArg (Value.int _) ?_; unfold capD; have := deepT_eq t; rw [if_neg (by omega)]; omega)
  · try simp only [nq1, nq2, nq3, nq4, nq5, nq6, nq7, nq8, nq9, u8_eq] at hb9
    refine wp_skip ?_
    refine hK3 _ _ ?_; clear hK3
    refine seq_any fun _ hK7 => ?_
    refine rp0 hst2 hfr2 (.cons rfl (ob_assign rfl) <| .nil) ?_
    intro a3 w3 m3 hst3 hle3 hk3
    have hfr3 := hk3.fr (T' := [(1, _), (2, _), (5, _)]) (.old rfl rfl <| .old rfl rfl <| .new rfl <| .nil)
    replace h_t := h_t.mono hle3
    replace hk_t := hk_t.mono hle3
    replace hs_t := hs_t.mono hle3
    replace hrw_t := hrw_t.mono hle3
    replace hc2 := hc2.mono hle3
    clear hst2 hfr2 hk3
    refine hK7 _ _ ?_; clear hK7
    refine seq_any fun _ hK8 => ?_
    refine seq_any fun _ hK9 => ?_
    refine rp0 hst3 hfr3 (.cons rfl (ob_assign rfl) <| .nil) ?_
    intro a4 w4 m4 hst4 hle4 hk4
    have hfr4 := hk4.fr (T' := [(1, _), (2, _), (5, _), (6, _)]) (.old rfl rfl <| .old rfl rfl <| .old rfl rfl <| .new rfl <| .nil)
    replace h_t := h_t.mono hle4
    replace hk_t := hk_t.mono hle4
    replace hs_t := hs_t.mono hle4
    replace hrw_t := hrw_t.mono hle4
    replace hc2 := hc2.mono hle4
    clear hst3 hfr3 hk4
    refine hK9 _ _ ?_; clear hK9
    refine wp_block ?_
    refine loop_any (T := [(1, _), (2, _)]) (fun (y : Nat × Int) => ([(5, .int .i64 y.2), (6, .int .i64 (y.1 : Int))] : List (Nat × Value))) (fun _ => _) (fun (y : Nat × Int) m => (fun (y : Nat) (a : Int) => (y ≤ t.args.length) ∧ (a = (capDs (left - 1) (t.args.take y) : Nat)) ∧ (a ≤ 201)) y.1 y.2) (fun y => t.args.length - y.1) ((0, 0)) ⟨hst4, MLe.refl _, hfr4.sub (.cons rfl <| .cons rfl <| .cons rfl <| .cons rfl <| .nil), ⟨Nat.zero_le _, rfl, by omega⟩⟩ fun y a5 w5 m5 hh5 => ?_
    have hst5 := hh5.st; have hle5 := hh5.le; have hfr5 := hh5.fr; have hrel := hh5.rel; clear hh5
    replace h_t := h_t.mono hle5
    replace hk_t := hk_t.mono hle5
    replace hs_t := hs_t.mono hle5
    replace hrw_t := hrw_t.mono hle5
    replace hc2 := hc2.mono hle5
    clear hst4 hfr4
    obtain ⟨y, a⟩ := y
    dsimp only at hrel hfr5 hst5
    obtain ⟨hyn, ha, ha2⟩ := hrel
    have hlh5 := hle5
    refine seq_any fun _ hK11 => ?_
    refine seq_any fun _ hK12 => ?_
    refine rp0 hst5 hfr5 (.cons rfl (ob_move rfl) <| .cons rfl (ob_fieldAddrO (off := 3) rfl Try.underlying28 rfl rfl Try.sizeOf23 rfl) <| .cons rfl (ob_load1 rfl hc2 Try.isAgg23 rfl) <| .cons rfl (ob_len rfl Try.underlying23) <| .cons rfl (ob_lss rfl rfl) <| .nil) ?_
    intro a6 w6 m6 hst6 hle6 hk6
    have hfr6 := hk6.fr (T' := [(5, _), (6, _), (1, _), (2, _), (14, _)]) (.old rfl rfl <| .old rfl rfl <| .old rfl rfl <| .old rfl rfl <| .new rfl <| .nil)
    replace h_t := h_t.mono hle6
    replace hk_t := hk_t.mono hle6
    replace hs_t := hs_t.mono hle6
    replace hrw_t := hrw_t.mono hle6
    replace hc2 := hc2.mono hle6
    have hlh6 := hlh5.trans hle6
    clear hst5 hfr5 hk6
    refine hK12 _ _ ?_; clear hK12
    refine cond_any hfr6 rfl rfl (fun hb14 => ?_) (fun hb14 => ?_)
    · try simp only [nq1, nq2, nq3, nq4, nq5, nq6, nq7, nq8, nq9, u8_eq] at hb14
      refine wp_skip ?_
      refine hK11 _ _ ?_; clear hK11
      refine seq_any fun _ hK13 => ?_
      refine wp_block ?_
      refine seq_any fun _ hK14 => ?_
      have el : ((left - 1 : Nat) : Int) = (left : Int) - 1 := by omega
      obtain ⟨p15, vs15, x15, ho15, hd15, hm_x15, ht15, hcv15, hl15, hv15⟩ := hk_t.nth (k := y) (by omega)
      cases ho15
      obtain ⟨o15, c15, oL15, cL15, rfl, hkd15, hs15, hi15, hj15, hr15⟩ := hv15.open_
      have hbg15 := hkd15.big; have hcp15 := hkd15.cap; have hbs15 := hs15.big; have hcs15 := hs15.cap
      have hrw15 : RwR _ ⟨x15.labels, x15.rv⟩ _ := ⟨_, _, rfl, hs15, hr15⟩
      refine rp0 hst6 hfr6 (.cons rfl (ob_fieldAddrO (off := 3) rfl Try.underlying28 rfl rfl Try.sizeOf23 rfl) <| .cons rfl (ob_load1 rfl hc2 Try.isAgg23 rfl) <| .cons rfl (ob_move rfl) <| .cons rfl (ob_indexAddr (k := y) rfl rfl Try.underlying23 Try.sizeOf28 rfl (by omega)) <| .cons rfl (ob_loadS' rfl hcv15 Try.isAgg28 Try.sizeOf28 rfl rfl) <| .cons rfl (ob_move rfl) <| .cons rfl (ob_sub rfl rfl ⟨by omega, by omega⟩) <| .cons rfl (ob_callE rfl (.cons rfl <| .cons rfl <| .nil) Try.call31 (fun w m hK => by have hle_ := KC.le hK; have hA := KC.agree hK; have h_t := h_t.mono hle_; have hk_t := hk_t.mono hle_; have hs_t := hs_t.mono hle_; have hrw_t := hrw_t.mono hle_; have hc2 := hc2.mono hle_; have hcv15 := hcv15.mono hle_; have hv15 := hv15.mono hle_; have hkd15 := hkd15.mono hle_; have hs15 := hs15.mono hle_; have hrw15 := hrw15.mono hle_; exact (show FnV Try.prog 31 #[_, .int .i64 ((left : Int) - 1)] _ _ _ from by rw [← el]; exact ih _ (by assumption) hA (by assumption) (by omega)))) <| .cons rfl (ob_assign rfl) <| .nil) ?_
      intro a7 w7 m7 hst7 hle7 hk7
      have hfr7 := hk7.fr (T' := [(5, _), (6, _), (1, _), (2, _), (7, _)]) (.old rfl rfl <| .old rfl rfl <| .old rfl rfl <| .old rfl rfl <| .new rfl <| .nil)
      have hlh7 := hlh6.trans hle7
      clear hst6 hfr6 hk7
      refine hK14 _ _ ?_; clear hK14
      refine rp0 hst7 hfr7 (.cons rfl (ob_move rfl) <| .cons rfl (ob_move rfl) <| .cons rfl (ob_max2 rfl rfl) <| .cons rfl (ob_assign rfl) <| .nil) ?_
      intro a8 w8 m8 hst8 hle8 hk8
      have hfr8 := hk8.fr (T' := [(6, _), (1, _), (2, _), (5, _)]) (.old rfl rfl <| .old rfl rfl <| .old rfl rfl <| .new rfl <| .nil)
      have hlh8 := hlh7.trans hle8
      clear hst7 hfr7 hk8
      refine hK13 _ _ ?_; clear hK13
      refine rp0 hst8 hfr8 (.cons rfl (ob_move rfl) <| .cons rfl (ob_add rfl rfl ⟨by omega, by omega⟩) <| .cons rfl (ob_assign rfl) <| .nil) ?_
      intro a9 w9 m9 hst9 hle9 hk9
      have hfr9 := hk9.fr (T' := [(1, _), (2, _), (5, _), (6, _)]) (.old rfl rfl <| .old rfl rfl <| .old rfl rfl <| .new rfl <| .nil)
      have hlh9 := hlh8.trans hle9
      clear hst8 hfr8 hk9
      have hz : (if ((capD (left - 1) x15 : Nat) : Int) > a then ((capD (left - 1) x15 : Nat) : Int) else a) = ((capDs (left - 1) (t.args.take (y + 1)) : Nat) : Int) := by rw [ht15, capDs_snoc, ha]; split <;> omega
      rw [hz] at hfr9
      exact ⟨(y + 1, _), m9, by show t.args.length - (y + 1) < t.args.length - y; omega, ⟨hst9, hlh9, hfr9.sub (.cons rfl <| .cons rfl <| .cons rfl <| .cons rfl <| .nil), ⟨by show y + 1 ≤ t.args.length; omega, rfl, by show ((capDs (left - 1) (t.args.take (y + 1)) : Nat) : Int) ≤ 201; have h8 := capD_le (k := left - 1) (by omega) x15; rw [ht15, capDs_snoc]; omega⟩⟩⟩
    · try simp only [nq1, nq2, nq3, nq4, nq5, nq6, nq7, nq8, nq9, u8_eq] at hb14
      have hge : y = t.args.length := by omega
      rw [List.take_of_length_le (by omega)] at ha
      refine wp_exit ?_
      refine hK8 _ _ ?_; clear hK8
      refine seq_any fun _ hK16 => ?_
      refine rp0 hst6 hfr6 (.cons rfl (ob_move rfl) <| .cons rfl (ob_add rfl rfl ⟨by omega, by omega⟩) <| .cons rfl (ob_min2 rfl rfl) <| .cons rfl (ob_assign rfl) <| .nil) ?_
      intro a7 w7 m7 hst7 hle7 hk7
      have hfr7 := hk7.fr (T' := [(5, _), (6, _), (4, _)]) (.old rfl rfl <| .old rfl rfl <| .new rfl <| .nil)
      have hlh7 := hlh6.trans hle7
      clear hst6 hfr6 hk7
      refine hK16 _ _ ?_; clear hK16
      refine wp_ret ?_
      repeat (with_reducible first | refine then_ret ?_ | refine block_ret ?_)
      exact fn_ret hst7 hfr7 rfl (.tmp rfl <| .nil) (by refine congrArg (Value.int _) ?_; rw [capD_eq (by omega) hl]; split <;> omega)
theorem deepR_c (t : Ty) : deepR_G t := Ty.rec_ (p := deepR_G) (fun t ih => deepR_s ih) t

set_option maxHeartbeats 400000 in
theorem rightRowR_c {w : World} {m : Mem} {r : Rw} {vs_r : List Value} (hA : Agree w m) (h_r : RwR m r vs_r) : FnV Try.prog 35 #[.agg vs_r.toArray] w m (fun _ _ v => v = .bool (rowOk r.labels r.var)) := by
  obtain ⟨o_r, c_r, rfl, hs_r, hr_r⟩ := h_r.open_
  have hbs_r := hs_r.big; have hcs_r := hs_r.cap
  refine fn_enter (vs := [_]) Try.func35 rfl rfl rfl fun a0 hfr0 => ?_
  have hst0 := st_enter hA (loc_nil [] _ w m)
  have hM : MLe m m := MLe.refl m
  refine seq_any fun _ hK1 => ?_
  refine rp0 hst0 hfr0 (.cons rfl (ob_box rfl rfl) <| .cons rfl (ob_assign rfl) <| .nil) ?_
  intro a1 w1 m1 hst1 hle1 hk1
  have hfr1 := hk1.fr (T' := []) (.nil)
  obtain ⟨g2, e2, hc1⟩ := hk1.ex 1 rfl
  replace hfr1 := hfr1.cons e2
  replace hs_r := hs_r.mono hle1
  clear hst0 hfr0 hk1
  refine hK1 _ _ ?_; clear hK1
  refine seq_any fun _ hK3 => ?_
  refine seq_any fun _ hK4 => ?_
  refine rp0 hst1 hfr1 (.cons rfl (ob_assign rfl) <| .nil) ?_
  intro a2 w2 m2 hst2 hle2 hk2
  have hfr2 := hk2.fr (T' := [(1, _), (3, _)]) (.old rfl rfl <| .new rfl <| .nil)
  replace hs_r := hs_r.mono hle2
  replace hc1 := hc1.mono hle2
  clear hst1 hfr1 hk2
  refine hK4 _ _ ?_; clear hK4
  refine wp_block ?_
  refine loop_any (T := [(1, _)]) (fun (y : Nat) => ([(3, .int .i64 (y : Int))] : List (Nat × Value))) (fun _ => _) (fun (y : Nat) m => (y ≤ r.labels.length) ∧ (preOk (r.labels.take y) = true)) (fun y => r.labels.length - y) (0) ⟨hst2, MLe.refl _, hfr2.sub (.cons rfl <| .cons rfl <| .nil), ⟨Nat.zero_le _, by simp [preOk, isSortedS]⟩⟩ fun y a3 w3 m3 hh3 => ?_
  have hst3 := hh3.st; have hle3 := hh3.le; have hfr3 := hh3.fr; have hrel := hh3.rel; clear hh3
  replace hs_r := hs_r.mono hle3
  replace hc1 := hc1.mono hle3
  clear hst2 hfr2
  obtain ⟨hyn, hpo⟩ := hrel
  have hlh3 := hle3
  refine seq_any fun _ hK6 => ?_
  refine seq_any fun _ hK7 => ?_
  refine rp0 hst3 hfr3 (.cons rfl (ob_move rfl) <| .cons rfl (ob_fieldAddrO (off := 0) rfl Try.underlying26 rfl rfl Try.sizeOf24 rfl) <| .cons rfl (ob_load1 rfl hc1 Try.isAgg24 rfl) <| .cons rfl (ob_len rfl Try.underlying24) <| .cons rfl (ob_lss rfl rfl) <| .nil) ?_
  intro a4 w4 m4 hst4 hle4 hk4
  have hfr4 := hk4.fr (T' := [(3, _), (1, _), (8, _)]) (.old rfl rfl <| .old rfl rfl <| .new rfl <| .nil)
  replace hs_r := hs_r.mono hle4
  replace hc1 := hc1.mono hle4
  have hlh4 := hlh3.trans hle4
  clear hst3 hfr3 hk4
  refine hK7 _ _ ?_; clear hK7
  refine cond_any hfr4 rfl rfl (fun hb8 => ?_) (fun hb8 => ?_)
  · try simp only [nq1, nq2, nq3, nq4, nq5, nq6, nq7, nq8, nq9, u8_eq] at hb8
    refine wp_skip ?_
    refine hK6 _ _ ?_; clear hK6
    refine seq_any fun _ hK8 => ?_
    refine wp_block ?_
    refine seq_any fun _ hK9 => ?_
    rcases Nat.eq_zero_or_pos y with hy0 | hy0
    · skip
      obtain ⟨p10, vs10, x10, ho10, hd10, hm_x10, ht10, hcv10, hl10, hv10⟩ := hs_r.nth (k := y) (by omega)
      cases ho10
      subst hv10
      refine region_plain (fun _ => mixed) hst4 hfr4 (by kernel_rfl) (by kernel_rfl) (.cons rfl (ob_fieldAddrO (off := 0) rfl Try.underlying26 rfl rfl Try.sizeOf24 rfl) <| .cons rfl (ob_load1 rfl hc1 Try.isAgg24 rfl) <| .cons rfl (ob_move rfl) <| .cons rfl (ob_indexAddr (k := y) rfl rfl Try.underlying24 Try.sizeOf9 rfl (by omega)) <| .cons rfl (ob_load1' rfl hcv10 Try.isAgg9 rfl) <| .cons rfl (ob_seql rfl rfl) <| .cons rfl (ob_move rfl) <| .cons rfl (ob_move rfl) <| .cons rfl (ob_gtr rfl rfl) <| .cons rfl (ob_move rfl) <| .cons rfl (ob_guard (κ := .eq (.bool false)) (b := true) 20 rfl rfl (fun h => by simp [hy0] at h)) <| .cons rfl (ob_guard (κ := .eq (.bool false)) (b := true) 20 rfl rfl (fun h => by simp [hy0] at h)) <| .cons rfl (ob_guard (κ := .eq (.bool false)) (b := true) 20 rfl rfl (fun h => by simp [hy0] at h)) <| .cons rfl (ob_guard (κ := .eq (.bool false)) (b := true) 20 rfl rfl (fun h => by simp [hy0] at h)) <| .cons rfl (ob_guard (κ := .eq (.bool false)) (b := true) 20 rfl rfl (fun h => by simp [hy0] at h)) <| .cons rfl (ob_guard (κ := .eq (.bool false)) (b := true) 20 rfl rfl (fun h => by simp [hy0] at h)) <| .cons rfl (ob_guard (κ := .eq (.bool false)) (b := true) 20 rfl rfl (fun h => by simp [hy0] at h)) <| .cons rfl (ob_guard (κ := .eq (.bool false)) (b := true) 20 rfl rfl (fun h => by simp [hy0] at h)) <| .cons rfl (ob_guard (κ := .eq (.bool false)) (b := true) 20 rfl rfl (fun h => by simp [hy0] at h)) <| .cons rfl (ob_guard (κ := .eq (.bool false)) (b := true) 20 rfl rfl (fun h => by simp [hy0] at h)) <| .cons rfl (ob_guard (κ := .eq (.bool false)) (b := true) 20 rfl rfl (fun h => by simp [hy0] at h)) <| .cons rfl (ob_guard (κ := .eq (.bool false)) (b := true) 20 rfl rfl (fun h => by simp [hy0] at h)) <| .cons rfl (ob_and rfl rfl rfl) <| .cons rfl (ob_or rfl rfl rfl) <| .nil) ?_
      intro a5 w5 m5 hst5 hle5 hk5
      have hfr5 := hk5.fr (T' := [(3, _), (1, _), (34, _)]) (.old rfl rfl <| .old rfl rfl <| .new rfl <| .nil)
      have hlh5 := hlh4.trans hle5
      clear hst4 hfr4 hk5
      have hpe : preOk (r.labels.take (y + 1)) = (preOk (r.labels.take y) && !(decide (x10 = []) || (decide (0 < y) && Op.bytesLess x10 []))) := by rw [ht10, preOk_snoc _ _ y (by rw [List.length_take]; omega)]; rw [show decide (0 < y) = false from by simp [hy0], Bool.false_and, Bool.false_and]
      refine hK9 _ _ ?_; clear hK9
      refine cond_any hfr5 rfl rfl (fun hb34 => ?_) (fun hb34 => ?_)
      · try simp only [nq1, nq2, nq3, nq4, nq5, nq6, nq7, nq8, nq9, u8_eq] at hb34
        refine seq_any fun _ hK11 => ?_
        refine rp0 hst5 hfr5 (.cons rfl (ob_assign rfl) <| .nil) ?_
        intro a6 w6 m6 hst6 hle6 hk6
        have hfr6 := hk6.fr (T' := [(3, _), (2, _)]) (.old rfl rfl <| .new rfl <| .nil)
        have hlh6 := hlh5.trans hle6
        clear hst5 hfr5 hk6
        refine hK11 _ _ ?_; clear hK11
        refine wp_ret ?_
        repeat (with_reducible first | refine then_ret ?_ | refine block_ret ?_)
        exact fn_ret hst6 hfr6 rfl (.tmp rfl <| .nil) (by refine congrArg Value.bool ?_; rw [rowOk_false (k := y + 1) (by rw [hpe, hpo]; rcases hb34 with h | ⟨h1, h2⟩ <;> first | (simp [h]; done) | (exact absurd h1 (by omega)) | (simp [h2, show 0 < y by omega]; done))])
      · try simp only [nq1, nq2, nq3, nq4, nq5, nq6, nq7, nq8, nq9, u8_eq] at hb34
        refine wp_skip ?_
        refine hK8 _ _ ?_; clear hK8
        refine rp0 hst5 hfr5 (.cons rfl (ob_move rfl) <| .cons rfl (ob_add rfl rfl ⟨by omega, by omega⟩) <| .cons rfl (ob_assign rfl) <| .nil) ?_
        intro a6 w6 m6 hst6 hle6 hk6
        have hfr6 := hk6.fr (T' := [(1, _), (3, _)]) (.old rfl rfl <| .new rfl <| .nil)
        have hlh6 := hlh5.trans hle6
        clear hst5 hfr5 hk6
        exact ⟨y + 1, m6, by show r.labels.length - (y + 1) < r.labels.length - y; omega, ⟨hst6, hlh6, hfr6.sub (.cons rfl <| .cons rfl <| .nil), ⟨by show y + 1 ≤ r.labels.length; omega, by rw [hpe, hpo]; first | (simp [hb34.1, hb34.2, hy0]; done) | (simp [hb34, hy0]; done) | simp_all⟩⟩⟩
    · skip
      obtain ⟨p13, vs13, x13, ho13, hd13, hm_x13, ht13, hcv13, hl13, hv13⟩ := hs_r.nth (k := y) (by omega)
      cases ho13
      subst hv13
      obtain ⟨p14, vs14, x14, ho14, hd14, hm_x14, ht14, hcv14, hl14, hv14⟩ := hs_r.nth (k := y - 1) (by omega)
      cases ho14
      subst hv14
      refine region_plain (fun _ => mixed) hst4 hfr4 (by kernel_rfl) (by kernel_rfl) (.cons rfl (ob_fieldAddrO (off := 0) rfl Try.underlying26 rfl rfl Try.sizeOf24 rfl) <| .cons rfl (ob_load1 rfl hc1 Try.isAgg24 rfl) <| .cons rfl (ob_move rfl) <| .cons rfl (ob_indexAddr (k := y) rfl rfl Try.underlying24 Try.sizeOf9 rfl (by omega)) <| .cons rfl (ob_load1' rfl hcv13 Try.isAgg9 rfl) <| .cons rfl (ob_seql rfl rfl) <| .cons rfl (ob_move rfl) <| .cons rfl (ob_move rfl) <| .cons rfl (ob_gtr rfl rfl) <| .cons rfl (ob_move rfl) <| .cons rfl (ob_fieldAddrO (off := 0) rfl Try.underlying26 rfl rfl Try.sizeOf24 rfl) <| .cons rfl (ob_load1 rfl hc1 Try.isAgg24 rfl) <| .cons rfl (ob_move rfl) <| .cons rfl (ob_indexAddr (k := y) rfl rfl Try.underlying24 Try.sizeOf9 rfl (by omega)) <| .cons rfl (ob_load1' rfl hcv13 Try.isAgg9 rfl) <| .cons rfl (ob_fieldAddrO (off := 0) rfl Try.underlying26 rfl rfl Try.sizeOf24 rfl) <| .cons rfl (ob_load1 rfl hc1 Try.isAgg24 rfl) <| .cons rfl (ob_move rfl) <| .cons rfl (ob_sub rfl rfl ⟨by omega, by omega⟩) <| .cons rfl (ob_indexAddr (k := y - 1) rfl rfl Try.underlying24 Try.sizeOf9 (by omega) (by omega)) <| .cons rfl (ob_load1' rfl hcv14 Try.isAgg9 rfl) <| .cons rfl (ob_slss rfl rfl) <| .cons rfl (ob_and rfl rfl rfl) <| .cons rfl (ob_or rfl rfl rfl) <| .nil) ?_
      intro a5 w5 m5 hst5 hle5 hk5
      have hfr5 := hk5.fr (T' := [(3, _), (1, _), (34, _)]) (.old rfl rfl <| .old rfl rfl <| .new rfl <| .nil)
      have hlh5 := hlh4.trans hle5
      clear hst4 hfr4 hk5
      have hpe : preOk (r.labels.take (y + 1)) = (preOk (r.labels.take y) && !(decide (x13 = []) || (decide (0 < y) && Op.bytesLess x13 x14))) := by rw [ht13, preOk_snoc _ _ y (by rw [List.length_take]; omega)]; have h9 := ht14; rw [show y - 1 + 1 = y by omega] at h9; rw [h9, List.getLast?_concat]; rfl
      refine hK9 _ _ ?_; clear hK9
      refine cond_any hfr5 rfl rfl (fun hb34 => ?_) (fun hb34 => ?_)
      · try simp only [nq1, nq2, nq3, nq4, nq5, nq6, nq7, nq8, nq9, u8_eq] at hb34
        refine seq_any fun _ hK15 => ?_
        refine rp0 hst5 hfr5 (.cons rfl (ob_assign rfl) <| .nil) ?_
        intro a6 w6 m6 hst6 hle6 hk6
        have hfr6 := hk6.fr (T' := [(3, _), (2, _)]) (.old rfl rfl <| .new rfl <| .nil)
        have hlh6 := hlh5.trans hle6
        clear hst5 hfr5 hk6
        refine hK15 _ _ ?_; clear hK15
        refine wp_ret ?_
        repeat (with_reducible first | refine then_ret ?_ | refine block_ret ?_)
        exact fn_ret hst6 hfr6 rfl (.tmp rfl <| .nil) (by refine congrArg Value.bool ?_; rw [rowOk_false (k := y + 1) (by rw [hpe, hpo]; rcases hb34 with h | ⟨h1, h2⟩ <;> first | (simp [h]; done) | (exact absurd h1 (by omega)) | (simp [h2, show 0 < y by omega]; done))])
      · try simp only [nq1, nq2, nq3, nq4, nq5, nq6, nq7, nq8, nq9, u8_eq] at hb34
        refine wp_skip ?_
        refine hK8 _ _ ?_; clear hK8
        refine rp0 hst5 hfr5 (.cons rfl (ob_move rfl) <| .cons rfl (ob_add rfl rfl ⟨by omega, by omega⟩) <| .cons rfl (ob_assign rfl) <| .nil) ?_
        intro a6 w6 m6 hst6 hle6 hk6
        have hfr6 := hk6.fr (T' := [(1, _), (3, _)]) (.old rfl rfl <| .new rfl <| .nil)
        have hlh6 := hlh5.trans hle6
        clear hst5 hfr5 hk6
        exact ⟨y + 1, m6, by show r.labels.length - (y + 1) < r.labels.length - y; omega, ⟨hst6, hlh6, hfr6.sub (.cons rfl <| .cons rfl <| .nil), ⟨by show y + 1 ≤ r.labels.length; omega, by rw [hpe, hpo]; first | (simp [hb34.1, hb34.2, hy0]; done) | (simp [hb34, hy0]; done) | simp_all⟩⟩⟩
  · try simp only [nq1, nq2, nq3, nq4, nq5, nq6, nq7, nq8, nq9, u8_eq] at hb8
    have hge : y = r.labels.length := by omega
    rw [List.take_of_length_le (by omega)] at hpo
    refine wp_exit ?_
    refine hK3 _ _ ?_; clear hK3
    refine seq_any fun _ hK17 => ?_
    refine rp0 hst4 hfr4 (.cons rfl (ob_fieldAddrO (off := 1) rfl Try.underlying26 rfl rfl Try.sizeOf3 rfl) <| .cons rfl (ob_load1 rfl hc1 Try.isAgg3 rfl) <| .cons rfl (ob_geq rfl rfl) <| .cons rfl (ob_assign rfl) <| .nil) ?_
    intro a5 w5 m5 hst5 hle5 hk5
    have hfr5 := hk5.fr (T' := [(3, _), (2, _)]) (.old rfl rfl <| .new rfl <| .nil)
    have hlh5 := hlh4.trans hle5
    clear hst4 hfr4 hk5
    refine hK17 _ _ ?_; clear hK17
    refine wp_ret ?_
    repeat (with_reducible first | refine then_ret ?_ | refine block_ret ?_)
    exact fn_ret hst5 hfr5 rfl (.tmp rfl <| .nil) (by refine congrArg Value.bool ?_; unfold rowOk; unfold preOk at hpo; simp_all)

abbrev rightR_G (t : Ty) : Prop := ∀ {w : World} {m : Mem} {vs_t : List Value} (hA : Agree w m) (h_t : TyR m t vs_t), FnV Try.prog 32 #[.agg vs_t.toArray] w m (fun _ _ v => v = .bool (rightT t))
set_option maxHeartbeats 400000 in
theorem rightR_s {t : Ty} (ih : ∀ u ∈ t.args, rightR_G u) {w : World} {m : Mem} {vs_t : List Value} (hA : Agree w m) (h_t : TyR m t vs_t) : FnV Try.prog 32 #[.agg vs_t.toArray] w m (fun _ _ v => v = .bool (rightT t)) := by
  obtain ⟨o_t, c_t, oL_t, cL_t, rfl, hk_t, hs_t, hi_t, hj_t, hr_t⟩ := h_t.open_
  have hbg_t := hk_t.big; have hcp_t := hk_t.cap; have hbs_t := hs_t.big; have hcs_t := hs_t.cap
  have hrw_t : RwR _ ⟨t.labels, t.rv⟩ _ := ⟨_, _, rfl, hs_t, hr_t⟩
  refine fn_enter (vs := [_]) Try.func32 rfl rfl rfl fun a0 hfr0 => ?_
  have hst0 := st_enter hA (loc_nil [] _ w m)
  have hM : MLe m m := MLe.refl m
  have hrt := rightR_eq t
  refine seq_any fun _ hK1 => ?_
  refine rp0 hst0 hfr0 (.cons rfl (ob_box rfl rfl) <| .cons rfl (ob_assign rfl) <| .nil) ?_
  intro a1 w1 m1 hst1 hle1 hk1
  have hfr1 := hk1.fr (T' := []) (.nil)
  obtain ⟨g2, e2, hc1⟩ := hk1.ex 1 rfl
  replace hfr1 := hfr1.cons e2
  replace h_t := h_t.mono hle1
  replace hk_t := hk_t.mono hle1
  replace hs_t := hs_t.mono hle1
  replace hrw_t := hrw_t.mono hle1
  clear hst0 hfr0 hk1
  refine hK1 _ _ ?_; clear hK1
  refine seq_any fun _ hK3 => ?_
  refine rp0 hst1 hfr1 (.cons rfl (ob_fieldAddrO (off := 4) rfl Try.underlying28 rfl rfl Try.sizeOf26 rfl) <| .cons rfl (ob_loadS rfl hc1 Try.isAgg26 Try.sizeOf26 rfl rfl) <| .cons rfl (ob_callE rfl (.cons rfl <| .nil) Try.call35 (fun w m hK => by have hle_ := KC.le hK; have hA := KC.agree hK; have hrw_t := hrw_t.mono hle_; exact rightRowR_c (r := ⟨t.labels, t.rv⟩) hA hrw_t)) <| .cons rfl (ob_assign rfl) <| .nil) ?_
  intro a2 w2 m2 hst2 hle2 hk2
  have hfr2 := hk2.fr (T' := [(1, _), (3, _)]) (.old rfl rfl <| .new rfl <| .nil)
  replace h_t := h_t.mono hle2
  replace hk_t := hk_t.mono hle2
  replace hs_t := hs_t.mono hle2
  replace hrw_t := hrw_t.mono hle2
  replace hc1 := hc1.mono hle2
  clear hst1 hfr1 hk2
  refine hK3 _ _ ?_; clear hK3
  refine seq_any fun _ hK4 => ?_
  refine rp0 hst2 hfr2 (.cons rfl (ob_fieldAddrO (off := 4) rfl Try.underlying28 rfl rfl Try.sizeOf26 rfl) <| .cons rfl (ob_fieldAddrO (off := 0) rfl Try.underlying26 rfl rfl Try.sizeOf24 rfl) <| .cons rfl (ob_load1 rfl (hc1.drop 4) Try.isAgg24 rfl) <| .cons rfl (ob_len rfl Try.underlying24) <| .cons rfl (ob_eql rfl rfl) <| .cons rfl (ob_move rfl) <| .cons rfl (ob_fieldAddrO (off := 4) rfl Try.underlying28 rfl rfl Try.sizeOf26 rfl) <| .cons rfl (ob_fieldAddrO (off := 1) rfl Try.underlying26 rfl rfl Try.sizeOf3 rfl) <| .cons rfl (ob_load1 rfl (hc1.drop 4) Try.isAgg3 rfl) <| .cons rfl (ob_eql rfl rfl) <| .cons rfl (ob_and rfl rfl rfl) <| .cons rfl (ob_assign rfl) <| .nil) ?_
  intro a3 w3 m3 hst3 hle3 hk3
  have hfr3 := hk3.fr (T' := [(1, _), (3, _), (4, _)]) (.old rfl rfl <| .old rfl rfl <| .new rfl <| .nil)
  replace h_t := h_t.mono hle3
  replace hk_t := hk_t.mono hle3
  replace hs_t := hs_t.mono hle3
  replace hrw_t := hrw_t.mono hle3
  replace hc1 := hc1.mono hle3
  clear hst2 hfr2 hk3
  refine hK4 _ _ ?_; clear hK4
  refine seq_any fun _ hK5 => ?_
  refine rp0 hst3 hfr3 (.cons rfl (ob_fieldAddrO (off := 3) rfl Try.underlying28 rfl rfl Try.sizeOf23 rfl) <| .cons rfl (ob_load1 rfl hc1 Try.isAgg23 rfl) <| .cons rfl (ob_len rfl Try.underlying23) <| .cons rfl (ob_assign rfl) <| .nil) ?_
  intro a4 w4 m4 hst4 hle4 hk4
  have hfr4 := hk4.fr (T' := [(1, _), (3, _), (4, _), (5, _)]) (.old rfl rfl <| .old rfl rfl <| .old rfl rfl <| .new rfl <| .nil)
  replace h_t := h_t.mono hle4
  replace hk_t := hk_t.mono hle4
  replace hs_t := hs_t.mono hle4
  replace hrw_t := hrw_t.mono hle4
  replace hc1 := hc1.mono hle4
  clear hst3 hfr3 hk4
  refine hK5 _ _ ?_; clear hK5
  refine seq_any fun _ hK6 => ?_
  refine rp0 hst4 hfr4 (.cons rfl (ob_assign rfl) <| .nil) ?_
  intro a5 w5 m5 hst5 hle5 hk5
  have hfr5 := hk5.fr (T' := [(1, _), (3, _), (4, _), (5, _), (6, _)]) (.old rfl rfl <| .old rfl rfl <| .old rfl rfl <| .old rfl rfl <| .new rfl <| .nil)
  replace h_t := h_t.mono hle5
  replace hk_t := hk_t.mono hle5
  replace hs_t := hs_t.mono hle5
  replace hrw_t := hrw_t.mono hle5
  replace hc1 := hc1.mono hle5
  clear hst4 hfr4 hk5
  refine hK6 _ _ ?_; clear hK6
  refine join_any (T := [(1, _), (5, _)]) (fun (y : Bool) => ([(6, .bool y)] : List (Nat × Value))) (fun y => []) (fun (y : Bool) m => (fun (ok : Bool) => (ok = hdT t)) y) ((_)) ⟨hst5, MLe.refl _, hfr5.sub (.cons rfl <| .cons rfl <| .cons rfl <| .nil), trivial⟩ (fun y a6 w6 m6 hh6 => ?_) (fun K7 hj7 => ?_)
  · have hst6 := hh6.st; have hle6 := hh6.le; have hfr6 := hh6.fr; have hrel := hh6.rel; clear hh6
    replace h_t := h_t.mono hle6
    replace hk_t := hk_t.mono hle6
    replace hs_t := hs_t.mono hle6
    replace hrw_t := hrw_t.mono hle6
    replace hc1 := hc1.mono hle6
    clear hst5 hfr5
    obtain ⟨ok, rfl⟩ : ∃ z, z = y := ⟨_, rfl⟩
    try dsimp only at hrel
    try dsimp only at hfr6
    try dsimp only at hst6
    have hok0 := hrel
    refine seq_any fun _ hK8 => ?_
    refine seq_any fun _ hK9 => ?_
    refine rp0 hst6 hfr6 (.cons rfl (ob_assign rfl) <| .nil) ?_
    intro a7 w7 m7 hst7 hle7 hk7
    have hfr7 := hk7.fr (T' := [(6, _), (1, _), (5, _), (7, _)]) (.old rfl rfl <| .old rfl rfl <| .old rfl rfl <| .new rfl <| .nil)
    replace h_t := h_t.mono hle7
    replace hk_t := hk_t.mono hle7
    replace hs_t := hs_t.mono hle7
    replace hrw_t := hrw_t.mono hle7
    replace hc1 := hc1.mono hle7
    clear hst6 hfr6 hk7
    refine hK9 _ _ ?_; clear hK9
    refine wp_block ?_
    refine loop_any (T := [(1, _), (5, _)]) (fun (y : Nat × Bool) => ([(6, .bool y.2), (7, .int .i64 (y.1 : Int))] : List (Nat × Value))) (fun _ => _) (fun (y : Nat × Bool) m => (fun (y : Nat) (ok2 : Bool) => (y ≤ t.args.length) ∧ (rightT t = (ok2 && rightTs (t.args.drop y)))) y.1 y.2) (fun y => t.args.length - y.1) ((0, ok)) ⟨hst7, MLe.refl _, hfr7.sub (.cons rfl <| .cons rfl <| .cons rfl <| .cons rfl <| .nil), ⟨Nat.zero_le _, by rw [hrt, List.drop_zero, hok0]⟩⟩ fun y a8 w8 m8 hh8 => ?_
    have hst8 := hh8.st; have hle8 := hh8.le; have hfr8 := hh8.fr; have hrel := hh8.rel; clear hh8
    replace h_t := h_t.mono hle8
    replace hk_t := hk_t.mono hle8
    replace hs_t := hs_t.mono hle8
    replace hrw_t := hrw_t.mono hle8
    replace hc1 := hc1.mono hle8
    clear hst7 hfr7
    obtain ⟨y, ok2⟩ := y
    dsimp only at hrel hfr8 hst8
    obtain ⟨hyn, hok⟩ := hrel
    have hlh8 := hle8
    refine seq_any fun _ hK11 => ?_
    refine seq_any fun _ hK12 => ?_
    refine rp0 hst8 hfr8 (.cons rfl (ob_move rfl) <| .cons rfl (ob_move rfl) <| .cons rfl (ob_lss rfl rfl) <| .cons rfl (ob_move rfl) <| .cons rfl (ob_move rfl) <| .cons rfl (ob_and rfl rfl rfl) <| .nil) ?_
    intro a9 w9 m9 hst9 hle9 hk9
    have hfr9 := hk9.fr (T' := [(6, _), (7, _), (1, _), (5, _), (119, _)]) (.old rfl rfl <| .old rfl rfl <| .old rfl rfl <| .old rfl rfl <| .new rfl <| .nil)
    replace h_t := h_t.mono hle9
    replace hk_t := hk_t.mono hle9
    replace hs_t := hs_t.mono hle9
    replace hrw_t := hrw_t.mono hle9
    replace hc1 := hc1.mono hle9
    have hlh9 := hlh8.trans hle9
    clear hst8 hfr8 hk9
    refine hK12 _ _ ?_; clear hK12
    refine cond_any hfr9 rfl rfl (fun hb119 => ?_) (fun hb119 => ?_)
    · try simp only [nq1, nq2, nq3, nq4, nq5, nq6, nq7, nq8, nq9, u8_eq] at hb119
      refine wp_skip ?_
      refine hK11 _ _ ?_; clear hK11
      refine seq_any fun _ hK13 => ?_
      refine wp_block ?_
      obtain ⟨p14, vs14, x14, ho14, hd14, hm_x14, ht14, hcv14, hl14, hv14⟩ := hk_t.nth (k := y) (by omega)
      cases ho14
      obtain ⟨o14, c14, oL14, cL14, rfl, hkd14, hs14, hi14, hj14, hr14⟩ := hv14.open_
      have hbg14 := hkd14.big; have hcp14 := hkd14.cap; have hbs14 := hs14.big; have hcs14 := hs14.cap
      have hrw14 : RwR _ ⟨x14.labels, x14.rv⟩ _ := ⟨_, _, rfl, hs14, hr14⟩
      refine rp0 hst9 hfr9 (.cons rfl (ob_fieldAddrO (off := 3) rfl Try.underlying28 rfl rfl Try.sizeOf23 rfl) <| .cons rfl (ob_load1 rfl hc1 Try.isAgg23 rfl) <| .cons rfl (ob_move rfl) <| .cons rfl (ob_indexAddr (k := y) rfl rfl Try.underlying23 Try.sizeOf28 rfl (by omega)) <| .cons rfl (ob_loadS' rfl hcv14 Try.isAgg28 Try.sizeOf28 rfl rfl) <| .cons rfl (ob_callE rfl (.cons rfl <| .nil) Try.call32 (fun w m hK => by have hle_ := KC.le hK; have hA := KC.agree hK; have h_t := h_t.mono hle_; have hk_t := hk_t.mono hle_; have hs_t := hs_t.mono hle_; have hrw_t := hrw_t.mono hle_; have hc1 := hc1.mono hle_; have hcv14 := hcv14.mono hle_; have hv14 := hv14.mono hle_; have hkd14 := hkd14.mono hle_; have hs14 := hs14.mono hle_; have hrw14 := hrw14.mono hle_; exact ih _ (by assumption) hA (by assumption))) <| .cons rfl (ob_assign rfl) <| .nil) ?_
      intro a10 w10 m10 hst10 hle10 hk10
      have hfr10 := hk10.fr (T' := [(7, _), (1, _), (5, _), (6, _)]) (.old rfl rfl <| .old rfl rfl <| .old rfl rfl <| .new rfl <| .nil)
      have hlh10 := hlh9.trans hle10
      clear hst9 hfr9 hk10
      refine hK13 _ _ ?_; clear hK13
      refine rp0 hst10 hfr10 (.cons rfl (ob_move rfl) <| .cons rfl (ob_add rfl rfl ⟨by omega, by omega⟩) <| .cons rfl (ob_assign rfl) <| .nil) ?_
      intro a11 w11 m11 hst11 hle11 hk11
      have hfr11 := hk11.fr (T' := [(1, _), (5, _), (6, _), (7, _)]) (.old rfl rfl <| .old rfl rfl <| .old rfl rfl <| .new rfl <| .nil)
      have hlh11 := hlh10.trans hle11
      clear hst10 hfr10 hk11
      exact ⟨(y + 1, _), m11, by show t.args.length - (y + 1) < t.args.length - y; omega, ⟨hst11, hlh11, hfr11.sub (.cons rfl <| .cons rfl <| .cons rfl <| .cons rfl <| .nil), ⟨by show y + 1 ≤ t.args.length; omega, by rw [hok, hb119.2, Bool.true_and, hd14, rightTs]⟩⟩⟩
    · try simp only [nq1, nq2, nq3, nq4, nq5, nq6, nq7, nq8, nq9, u8_eq] at hb119
      have hres : rightT t = ok2 := by rw [hok]; rcases hb119 with h | h; (rw [List.drop_of_length_le (by omega), rightTs, Bool.and_true]); (rw [h, Bool.false_and])
      refine wp_exit ?_
      refine hK8 _ _ ?_; clear hK8
      refine seq_any fun _ hK15 => ?_
      refine rp0 hst9 hfr9 (.cons rfl (ob_move rfl) <| .cons rfl (ob_assign rfl) <| .nil) ?_
      intro a10 w10 m10 hst10 hle10 hk10
      have hfr10 := hk10.fr (T' := [(6, _), (7, _), (2, _)]) (.old rfl rfl <| .old rfl rfl <| .new rfl <| .nil)
      have hlh10 := hlh9.trans hle10
      clear hst9 hfr9 hk10
      refine hK15 _ _ ?_; clear hK15
      refine wp_ret ?_
      repeat (with_reducible first | refine then_ret ?_ | refine block_ret ?_)
      exact fn_ret hst10 hfr10 rfl (.tmp rfl <| .nil) (by refine congrArg Value.bool ?_; rw [hres])
  · have hlj7 : MLe m5 m5 := MLe.refl _
    refine seq_any fun _ hK17 => ?_
    refine rp0 hst5 hfr5 (.cons rfl (ob_fieldAddrO (off := 0) rfl Try.underlying28 rfl rfl Try.sizeOf3 rfl) <| .cons rfl (ob_load1 rfl hc1 Try.isAgg3 rfl) <| .nil) ?_
    intro a6 w6 m6 hst6 hle6 hk6
    have hfr6 := hk6.fr (T' := [(1, _), (3, _), (4, _), (5, _), (6, _), (26, _)]) (.old rfl rfl <| .old rfl rfl <| .old rfl rfl <| .old rfl rfl <| .old rfl rfl <| .new rfl <| .nil)
    replace hc1 := hc1.mono hle6
    replace hlj7 := hlj7.trans hle6
    clear hst5 hfr5 hk6
    refine hK17 _ _ ?_; clear hK17
    refine wp_block ?_
    refine seq_any fun _ hK18 => ?_
    refine seq_any fun _ hK19 => ?_
    refine rp0 hst6 hfr6 (.cons rfl (ob_eql rfl rfl) <| .cons rfl (ob_assign rfl) <| .nil) ?_
    intro a7 w7 m7 hst7 hle7 hk7
    have hfr7 := hk7.fr (T' := [(1, _), (3, _), (4, _), (5, _), (6, _), (26, _), (27, _)]) (.old rfl rfl <| .old rfl rfl <| .old rfl rfl <| .old rfl rfl <| .old rfl rfl <| .old rfl rfl <| .new rfl <| .nil)
    replace hc1 := hc1.mono hle7
    replace hlj7 := hlj7.trans hle7
    clear hst6 hfr6 hk7
    refine hK19 _ _ ?_; clear hK19
    refine cond_any hfr7 rfl rfl (fun hb27 => ?_) (fun hb27 => ?_)
    · try simp only [nq1, nq2, nq3, nq4, nq5, nq6, nq7, nq8, nq9, u8_eq] at hb27
      refine wp_skip ?_
      refine hK18 _ _ ?_; clear hK18
      refine cond_any hfr7 rfl rfl (fun hb27x => ?_) (fun hb27x => ?_)
      · try simp only [nq1, nq2, nq3, nq4, nq5, nq6, nq7, nq8, nq9, u8_eq] at hb27x
        refine rp0 hst7 hfr7 (.cons rfl (ob_move rfl) <| .cons rfl (ob_eql rfl rfl) <| .cons rfl (ob_move rfl) <| .cons rfl (ob_move rfl) <| .cons rfl (ob_and rfl rfl rfl) <| .cons rfl (ob_move rfl) <| .cons rfl (ob_fieldAddrO (off := 1) rfl Try.underlying28 rfl rfl Try.sizeOf9 rfl) <| .cons rfl (ob_load1 rfl hc1 Try.isAgg9 rfl) <| .cons rfl (ob_seql rfl rfl) <| .cons rfl (ob_and rfl rfl rfl) <| .cons rfl (ob_move rfl) <| .cons rfl (ob_fieldAddrO (off := 2) rfl Try.underlying28 rfl rfl Try.sizeOf3 rfl) <| .cons rfl (ob_load1 rfl hc1 Try.isAgg3 rfl) <| .cons rfl (ob_eql rfl rfl) <| .cons rfl (ob_and rfl rfl rfl) <| .cons rfl (ob_assign rfl) <| .nil) ?_
        intro a8 w8 m8 hst8 hle8 hk8
        have hfr8 := hk8.fr (T' := [(1, _), (5, _), (6, _)]) (.old rfl rfl <| .old rfl rfl <| .new rfl <| .nil)
        replace hlj7 := hlj7.trans hle8
        clear hst7 hfr7 hk8
        repeat (with_reducible first | refine then_exit ?_ | refine block_exit ?_ | refine block_normal ?_)
        exact hj7 (_) _ _ _ ⟨hst8, hlj7, hfr8.sub (.cons rfl <| .cons rfl <| .cons rfl <| .nil), by show _ = hdT t; rw [hdT1 (by omega)]; try rfl⟩
      · exfalso; try simp only [nq1, nq2, nq3, nq4, nq5, nq6, nq7, nq8, nq9, u8_eq] at hb27x
        first | exact absurd hb27x hb27 | exact absurd hb27 hb27x | simp_all
    · try simp only [nq1, nq2, nq3, nq4, nq5, nq6, nq7, nq8, nq9, u8_eq] at hb27
      refine seq_any fun _ hK20 => ?_
      refine rp0 hst7 hfr7 (.cons rfl (ob_eql rfl rfl) <| .cons rfl (ob_assign rfl) <| .nil) ?_
      intro a8 w8 m8 hst8 hle8 hk8
      have hfr8 := hk8.fr (T' := [(1, _), (3, _), (4, _), (5, _), (6, _), (26, _), (27, _)]) (.old rfl rfl <| .old rfl rfl <| .old rfl rfl <| .old rfl rfl <| .old rfl rfl <| .old rfl rfl <| .new rfl <| .nil)
      replace hc1 := hc1.mono hle8
      replace hlj7 := hlj7.trans hle8
      clear hst7 hfr7 hk8
      refine hK20 _ _ ?_; clear hK20
      refine cond_any hfr8 rfl rfl (fun hb27 => ?_) (fun hb27 => ?_)
      · try simp only [nq1, nq2, nq3, nq4, nq5, nq6, nq7, nq8, nq9, u8_eq] at hb27
        refine wp_skip ?_
        refine hK18 _ _ ?_; clear hK18
        refine cond_any hfr8 rfl rfl (fun hb27x => ?_) (fun hb27x => ?_)
        · try simp only [nq1, nq2, nq3, nq4, nq5, nq6, nq7, nq8, nq9, u8_eq] at hb27x
          refine rp0 hst8 hfr8 (.cons rfl (ob_move rfl) <| .cons rfl (ob_eql rfl rfl) <| .cons rfl (ob_move rfl) <| .cons rfl (ob_move rfl) <| .cons rfl (ob_and rfl rfl rfl) <| .cons rfl (ob_move rfl) <| .cons rfl (ob_fieldAddrO (off := 1) rfl Try.underlying28 rfl rfl Try.sizeOf9 rfl) <| .cons rfl (ob_load1 rfl hc1 Try.isAgg9 rfl) <| .cons rfl (ob_seql rfl rfl) <| .cons rfl (ob_and rfl rfl rfl) <| .cons rfl (ob_move rfl) <| .cons rfl (ob_fieldAddrO (off := 2) rfl Try.underlying28 rfl rfl Try.sizeOf3 rfl) <| .cons rfl (ob_load1 rfl hc1 Try.isAgg3 rfl) <| .cons rfl (ob_eql rfl rfl) <| .cons rfl (ob_and rfl rfl rfl) <| .cons rfl (ob_assign rfl) <| .nil) ?_
          intro a9 w9 m9 hst9 hle9 hk9
          have hfr9 := hk9.fr (T' := [(1, _), (5, _), (6, _)]) (.old rfl rfl <| .old rfl rfl <| .new rfl <| .nil)
          replace hlj7 := hlj7.trans hle9
          clear hst8 hfr8 hk9
          repeat (with_reducible first | refine then_exit ?_ | refine block_exit ?_ | refine block_normal ?_)
          exact hj7 (_) _ _ _ ⟨hst9, hlj7, hfr9.sub (.cons rfl <| .cons rfl <| .cons rfl <| .nil), by show _ = hdT t; rw [hdT1 (by omega)]; try rfl⟩
        · exfalso; try simp only [nq1, nq2, nq3, nq4, nq5, nq6, nq7, nq8, nq9, u8_eq] at hb27x
          first | exact absurd hb27x hb27 | exact absurd hb27 hb27x | simp_all
      · try simp only [nq1, nq2, nq3, nq4, nq5, nq6, nq7, nq8, nq9, u8_eq] at hb27
        refine rp0 hst8 hfr8 (.cons rfl (ob_eql rfl rfl) <| .cons rfl (ob_assign rfl) <| .nil) ?_
        intro a9 w9 m9 hst9 hle9 hk9
        have hfr9 := hk9.fr (T' := [(1, _), (3, _), (4, _), (5, _), (6, _), (26, _), (27, _)]) (.old rfl rfl <| .old rfl rfl <| .old rfl rfl <| .old rfl rfl <| .old rfl rfl <| .old rfl rfl <| .new rfl <| .nil)
        replace hc1 := hc1.mono hle9
        replace hlj7 := hlj7.trans hle9
        clear hst8 hfr8 hk9
        refine hK18 _ _ ?_; clear hK18
        refine cond_any hfr9 rfl rfl (fun hb27 => ?_) (fun hb27 => ?_)
        · try simp only [nq1, nq2, nq3, nq4, nq5, nq6, nq7, nq8, nq9, u8_eq] at hb27
          refine rp0 hst9 hfr9 (.cons rfl (ob_move rfl) <| .cons rfl (ob_eql rfl rfl) <| .cons rfl (ob_move rfl) <| .cons rfl (ob_move rfl) <| .cons rfl (ob_and rfl rfl rfl) <| .cons rfl (ob_move rfl) <| .cons rfl (ob_fieldAddrO (off := 1) rfl Try.underlying28 rfl rfl Try.sizeOf9 rfl) <| .cons rfl (ob_load1 rfl hc1 Try.isAgg9 rfl) <| .cons rfl (ob_seql rfl rfl) <| .cons rfl (ob_and rfl rfl rfl) <| .cons rfl (ob_move rfl) <| .cons rfl (ob_fieldAddrO (off := 2) rfl Try.underlying28 rfl rfl Try.sizeOf3 rfl) <| .cons rfl (ob_load1 rfl hc1 Try.isAgg3 rfl) <| .cons rfl (ob_eql rfl rfl) <| .cons rfl (ob_and rfl rfl rfl) <| .cons rfl (ob_assign rfl) <| .nil) ?_
          intro a10 w10 m10 hst10 hle10 hk10
          have hfr10 := hk10.fr (T' := [(1, _), (5, _), (6, _)]) (.old rfl rfl <| .old rfl rfl <| .new rfl <| .nil)
          replace hlj7 := hlj7.trans hle10
          clear hst9 hfr9 hk10
          repeat (with_reducible first | refine then_exit ?_ | refine block_exit ?_ | refine block_normal ?_)
          exact hj7 (_) _ _ _ ⟨hst10, hlj7, hfr10.sub (.cons rfl <| .cons rfl <| .cons rfl <| .nil), by show _ = hdT t; rw [hdT1 (by omega)]; try rfl⟩
        · try simp only [nq1, nq2, nq3, nq4, nq5, nq6, nq7, nq8, nq9, u8_eq] at hb27
          refine seq_any fun _ hK21 => ?_
          refine rp0 hst9 hfr9 (.cons rfl (ob_eql rfl rfl) <| .cons rfl (ob_assign rfl) <| .nil) ?_
          intro a10 w10 m10 hst10 hle10 hk10
          have hfr10 := hk10.fr (T' := [(1, _), (3, _), (4, _), (5, _), (6, _), (26, _), (46, _)]) (.old rfl rfl <| .old rfl rfl <| .old rfl rfl <| .old rfl rfl <| .old rfl rfl <| .old rfl rfl <| .new rfl <| .nil)
          replace hc1 := hc1.mono hle10
          replace hlj7 := hlj7.trans hle10
          clear hst9 hfr9 hk10
          refine hK21 _ _ ?_; clear hK21
          refine cond_any hfr10 rfl rfl (fun hb46 => ?_) (fun hb46 => ?_)
          · try simp only [nq1, nq2, nq3, nq4, nq5, nq6, nq7, nq8, nq9, u8_eq] at hb46
            refine rp0 hst10 hfr10 (.cons rfl (ob_move rfl) <| .cons rfl (ob_eql rfl rfl) <| .cons rfl (ob_move rfl) <| .cons rfl (ob_move rfl) <| .cons rfl (ob_and rfl rfl rfl) <| .cons rfl (ob_move rfl) <| .cons rfl (ob_fieldAddrO (off := 1) rfl Try.underlying28 rfl rfl Try.sizeOf9 rfl) <| .cons rfl (ob_load1 rfl hc1 Try.isAgg9 rfl) <| .cons rfl (ob_sneq rfl rfl) <| .cons rfl (ob_and rfl rfl rfl) <| .cons rfl (ob_move rfl) <| .cons rfl (ob_fieldAddrO (off := 2) rfl Try.underlying28 rfl rfl Try.sizeOf3 rfl) <| .cons rfl (ob_load1 rfl hc1 Try.isAgg3 rfl) <| .cons rfl (ob_eql rfl rfl) <| .cons rfl (ob_and rfl rfl rfl) <| .cons rfl (ob_assign rfl) <| .nil) ?_
            intro a11 w11 m11 hst11 hle11 hk11
            have hfr11 := hk11.fr (T' := [(1, _), (5, _), (6, _)]) (.old rfl rfl <| .old rfl rfl <| .new rfl <| .nil)
            replace hlj7 := hlj7.trans hle11
            clear hst10 hfr10 hk11
            repeat (with_reducible first | refine then_exit ?_ | refine block_exit ?_ | refine block_normal ?_)
            exact hj7 (_) _ _ _ ⟨hst11, hlj7, hfr11.sub (.cons rfl <| .cons rfl <| .cons rfl <| .nil), by show _ = hdT t; rw [hdT4 (by omega)]; try rfl⟩
          · try simp only [nq1, nq2, nq3, nq4, nq5, nq6, nq7, nq8, nq9, u8_eq] at hb46
            refine seq_any fun _ hK22 => ?_
            refine rp0 hst10 hfr10 (.cons rfl (ob_eql rfl rfl) <| .cons rfl (ob_assign rfl) <| .nil) ?_
            intro a11 w11 m11 hst11 hle11 hk11
            have hfr11 := hk11.fr (T' := [(1, _), (3, _), (4, _), (5, _), (6, _), (26, _), (63, _)]) (.old rfl rfl <| .old rfl rfl <| .old rfl rfl <| .old rfl rfl <| .old rfl rfl <| .old rfl rfl <| .new rfl <| .nil)
            replace hc1 := hc1.mono hle11
            replace hlj7 := hlj7.trans hle11
            clear hst10 hfr10 hk11
            refine hK22 _ _ ?_; clear hK22
            refine cond_any hfr11 rfl rfl (fun hb63 => ?_) (fun hb63 => ?_)
            · try simp only [nq1, nq2, nq3, nq4, nq5, nq6, nq7, nq8, nq9, u8_eq] at hb63
              refine rp0 hst11 hfr11 (.cons rfl (ob_move rfl) <| .cons rfl (ob_eql rfl rfl) <| .cons rfl (ob_move rfl) <| .cons rfl (ob_move rfl) <| .cons rfl (ob_and rfl rfl rfl) <| .cons rfl (ob_move rfl) <| .cons rfl (ob_fieldAddrO (off := 1) rfl Try.underlying28 rfl rfl Try.sizeOf9 rfl) <| .cons rfl (ob_load1 rfl hc1 Try.isAgg9 rfl) <| .cons rfl (ob_seql rfl rfl) <| .cons rfl (ob_and rfl rfl rfl) <| .cons rfl (ob_move rfl) <| .cons rfl (ob_fieldAddrO (off := 2) rfl Try.underlying28 rfl rfl Try.sizeOf3 rfl) <| .cons rfl (ob_load1 rfl hc1 Try.isAgg3 rfl) <| .cons rfl (ob_geq rfl rfl) <| .cons rfl (ob_and rfl rfl rfl) <| .cons rfl (ob_assign rfl) <| .nil) ?_
              intro a12 w12 m12 hst12 hle12 hk12
              have hfr12 := hk12.fr (T' := [(1, _), (5, _), (6, _)]) (.old rfl rfl <| .old rfl rfl <| .new rfl <| .nil)
              replace hlj7 := hlj7.trans hle12
              clear hst11 hfr11 hk12
              repeat (with_reducible first | refine then_exit ?_ | refine block_exit ?_ | refine block_normal ?_)
              exact hj7 (_) _ _ _ ⟨hst12, hlj7, hfr12.sub (.cons rfl <| .cons rfl <| .cons rfl <| .nil), by show _ = hdT t; rw [hdT7 (by omega)]; try rfl⟩
            · try simp only [nq1, nq2, nq3, nq4, nq5, nq6, nq7, nq8, nq9, u8_eq] at hb63
              refine seq_any fun _ hK23 => ?_
              refine rp0 hst11 hfr11 (.cons rfl (ob_eql rfl rfl) <| .cons rfl (ob_assign rfl) <| .nil) ?_
              intro a12 w12 m12 hst12 hle12 hk12
              have hfr12 := hk12.fr (T' := [(1, _), (3, _), (4, _), (5, _), (6, _), (26, _), (80, _)]) (.old rfl rfl <| .old rfl rfl <| .old rfl rfl <| .old rfl rfl <| .old rfl rfl <| .old rfl rfl <| .new rfl <| .nil)
              replace hc1 := hc1.mono hle12
              replace hlj7 := hlj7.trans hle12
              clear hst11 hfr11 hk12
              refine hK23 _ _ ?_; clear hK23
              refine cond_any hfr12 rfl rfl (fun hb80 => ?_) (fun hb80 => ?_)
              · try simp only [nq1, nq2, nq3, nq4, nq5, nq6, nq7, nq8, nq9, u8_eq] at hb80
                refine rp0 hst12 hfr12 (.cons rfl (ob_move rfl) <| .cons rfl (ob_eql rfl rfl) <| .cons rfl (ob_move rfl) <| .cons rfl (ob_move rfl) <| .cons rfl (ob_and rfl rfl rfl) <| .cons rfl (ob_move rfl) <| .cons rfl (ob_fieldAddrO (off := 1) rfl Try.underlying28 rfl rfl Try.sizeOf9 rfl) <| .cons rfl (ob_load1 rfl hc1 Try.isAgg9 rfl) <| .cons rfl (ob_seql rfl rfl) <| .cons rfl (ob_and rfl rfl rfl) <| .cons rfl (ob_move rfl) <| .cons rfl (ob_fieldAddrO (off := 2) rfl Try.underlying28 rfl rfl Try.sizeOf3 rfl) <| .cons rfl (ob_load1 rfl hc1 Try.isAgg3 rfl) <| .cons rfl (ob_eql rfl rfl) <| .cons rfl (ob_and rfl rfl rfl) <| .cons rfl (ob_assign rfl) <| .nil) ?_
                intro a13 w13 m13 hst13 hle13 hk13
                have hfr13 := hk13.fr (T' := [(1, _), (5, _), (6, _)]) (.old rfl rfl <| .old rfl rfl <| .new rfl <| .nil)
                replace hlj7 := hlj7.trans hle13
                clear hst12 hfr12 hk13
                repeat (with_reducible first | refine then_exit ?_ | refine block_exit ?_ | refine block_normal ?_)
                exact hj7 (_) _ _ _ ⟨hst13, hlj7, hfr13.sub (.cons rfl <| .cons rfl <| .cons rfl <| .nil), by show _ = hdT t; rw [hdT6 (by omega)]; try rfl⟩
              · try simp only [nq1, nq2, nq3, nq4, nq5, nq6, nq7, nq8, nq9, u8_eq] at hb80
                refine seq_any fun _ hK24 => ?_
                refine rp0 hst12 hfr12 (.cons rfl (ob_eql rfl rfl) <| .cons rfl (ob_assign rfl) <| .nil) ?_
                intro a13 w13 m13 hst13 hle13 hk13
                have hfr13 := hk13.fr (T' := [(1, _), (3, _), (5, _), (6, _), (97, _)]) (.old rfl rfl <| .old rfl rfl <| .old rfl rfl <| .old rfl rfl <| .new rfl <| .nil)
                replace hc1 := hc1.mono hle13
                replace hlj7 := hlj7.trans hle13
                clear hst12 hfr12 hk13
                refine hK24 _ _ ?_; clear hK24
                refine cond_any hfr13 rfl rfl (fun hb97 => ?_) (fun hb97 => ?_)
                · try simp only [nq1, nq2, nq3, nq4, nq5, nq6, nq7, nq8, nq9, u8_eq] at hb97
                  refine rp0 hst13 hfr13 (.cons rfl (ob_move rfl) <| .cons rfl (ob_eql rfl rfl) <| .cons rfl (ob_move rfl) <| .cons rfl (ob_move rfl) <| .cons rfl (ob_and rfl rfl rfl) <| .cons rfl (ob_move rfl) <| .cons rfl (ob_fieldAddrO (off := 1) rfl Try.underlying28 rfl rfl Try.sizeOf9 rfl) <| .cons rfl (ob_load1 rfl hc1 Try.isAgg9 rfl) <| .cons rfl (ob_seql rfl rfl) <| .cons rfl (ob_and rfl rfl rfl) <| .cons rfl (ob_move rfl) <| .cons rfl (ob_fieldAddrO (off := 2) rfl Try.underlying28 rfl rfl Try.sizeOf3 rfl) <| .cons rfl (ob_load1 rfl hc1 Try.isAgg3 rfl) <| .cons rfl (ob_eql rfl rfl) <| .cons rfl (ob_and rfl rfl rfl) <| .cons rfl (ob_assign rfl) <| .nil) ?_
                  intro a14 w14 m14 hst14 hle14 hk14
                  have hfr14 := hk14.fr (T' := [(1, _), (5, _), (6, _)]) (.old rfl rfl <| .old rfl rfl <| .new rfl <| .nil)
                  replace hlj7 := hlj7.trans hle14
                  clear hst13 hfr13 hk14
                  repeat (with_reducible first | refine then_exit ?_ | refine block_exit ?_ | refine block_normal ?_)
                  exact hj7 (_) _ _ _ ⟨hst14, hlj7, hfr14.sub (.cons rfl <| .cons rfl <| .cons rfl <| .nil), by show _ = hdT t; rw [hdT5 (by omega)]; try rfl⟩
                · try simp only [nq1, nq2, nq3, nq4, nq5, nq6, nq7, nq8, nq9, u8_eq] at hb97
                  refine wp_skip ?_
                  repeat (with_reducible first | refine then_exit ?_ | refine block_exit ?_ | refine block_normal ?_)
                  exact hj7 (_) _ _ _ ⟨hst13, hlj7, hfr13.sub (.cons rfl <| .cons rfl <| .cons rfl <| .nil), by show _ = hdT t; rw [hdT0 (by omega) (by omega) (by omega) (by omega) (by omega)]; try rfl⟩
theorem rightR_c (t : Ty) : rightR_G t := Ty.rec_ (p := rightR_G) (fun t ih => rightR_s ih) t

set_option maxHeartbeats 400000 in
theorem right0R_c {w : World} {m : Mem} {t : Ty} {vs_t : List Value} (hA : Agree w m) (h_t : TyR m t vs_t) : FnV Try.prog 16 #[.agg vs_t.toArray] w m (fun _ _ v => v = .bool (decide (deepT t ≤ 200) && rightT t)) := by
  obtain ⟨o_t, c_t, oL_t, cL_t, rfl, hk_t, hs_t, hi_t, hj_t, hr_t⟩ := h_t.open_
  have hbg_t := hk_t.big; have hcp_t := hk_t.cap; have hbs_t := hs_t.big; have hcs_t := hs_t.cap
  have hrw_t : RwR _ ⟨t.labels, t.rv⟩ _ := ⟨_, _, rfl, hs_t, hr_t⟩
  refine fn_enter (vs := [_]) Try.func16 rfl rfl rfl fun a0 hfr0 => ?_
  have hst0 := st_enter hA (loc_nil [] _ w m)
  have hM : MLe m m := MLe.refl m
  refine seq_any fun _ hK1 => ?_
  refine rp0 hst0 hfr0 (.cons rfl (ob_box rfl rfl) <| .cons rfl (ob_assign rfl) <| .nil) ?_
  intro a1 w1 m1 hst1 hle1 hk1
  have hfr1 := hk1.fr (T' := []) (.nil)
  obtain ⟨g2, e2, hc1⟩ := hk1.ex 1 rfl
  replace hfr1 := hfr1.cons e2
  replace h_t := h_t.mono hle1
  clear hst0 hfr0 hk1
  refine hK1 _ _ ?_; clear hK1
  refine seq_any fun _ hK3 => ?_
  refine seq_any fun _ hK4 => ?_
  refine rp0 hst1 hfr1 (.cons rfl (ob_loadS' rfl hc1 Try.isAgg28 Try.sizeOf28 rfl rfl) <| .cons rfl (ob_callE rfl (.cons rfl <| .cons rfl <| .nil) Try.call31 (fun w m hK => by have hle_ := KC.le hK; have hA := KC.agree hK; have h_t := h_t.mono hle_; exact deepR_c t (left := 201) hA h_t (by omega))) <| .cons rfl (ob_gtr rfl rfl) <| .nil) ?_
  intro a2 w2 m2 hst2 hle2 hk2
  have hfr2 := hk2.fr (T' := [(1, _), (5, _)]) (.old rfl rfl <| .new rfl <| .nil)
  replace h_t := h_t.mono hle2
  replace hc1 := hc1.mono hle2
  clear hst1 hfr1 hk2
  refine hK4 _ _ ?_; clear hK4
  refine cond_any hfr2 rfl rfl (fun hb5 => ?_) (fun hb5 => ?_)
  · try simp only [nq1, nq2, nq3, nq4, nq5, nq6, nq7, nq8, nq9, u8_eq] at hb5
    have hq : decide (deepT t ≤ 200) = false := by rw [decide_eq_false_iff_not]; unfold capD at hb5; split at hb5 <;> omega
    refine seq_any fun _ hK5 => ?_
    refine rp0 hst2 hfr2 (.cons rfl (ob_assign rfl) <| .nil) ?_
    intro a3 w3 m3 hst3 hle3 hk3
    have hfr3 := hk3.fr (T' := [(2, _)]) (.new rfl <| .nil)
    clear hst2 hfr2 hk3
    refine hK5 _ _ ?_; clear hK5
    refine wp_ret ?_
    repeat (with_reducible first | refine then_ret ?_ | refine block_ret ?_)
    exact fn_ret hst3 hfr3 rfl (.tmp rfl <| .nil) (by refine congrArg Value.bool ?_; rw [hq]; simp)
  · try simp only [nq1, nq2, nq3, nq4, nq5, nq6, nq7, nq8, nq9, u8_eq] at hb5
    have hq : decide (deepT t ≤ 200) = true := by rw [decide_eq_true_eq]; unfold capD at hb5; split at hb5 <;> omega
    refine wp_skip ?_
    refine hK3 _ _ ?_; clear hK3
    refine seq_any fun _ hK7 => ?_
    refine rp0 hst2 hfr2 (.cons rfl (ob_loadS' rfl hc1 Try.isAgg28 Try.sizeOf28 rfl rfl) <| .cons rfl (ob_callE rfl (.cons rfl <| .nil) Try.call32 (fun w m hK => by have hle_ := KC.le hK; have hA := KC.agree hK; have h_t := h_t.mono hle_; exact rightR_c t hA h_t)) <| .cons rfl (ob_assign rfl) <| .nil) ?_
    intro a3 w3 m3 hst3 hle3 hk3
    have hfr3 := hk3.fr (T' := [(2, _)]) (.new rfl <| .nil)
    clear hst2 hfr2 hk3
    refine hK7 _ _ ?_; clear hK7
    refine wp_ret ?_
    repeat (with_reducible first | refine then_ret ?_ | refine block_ret ?_)
    exact fn_ret hst3 hfr3 rfl (.tmp rfl <| .nil) (by refine congrArg Value.bool ?_; rw [hq]; simp)

set_option maxHeartbeats 400000 in
theorem withR_c {w : World} {m : Mem} {o_l : Option Addr} {c_l : Nat} {l : List Int} {n : Int} (hA : Agree w m) (h_l : Ints m o_l l.length c_l l) (hbig : l.length ≤ 1073741824) : FnV Try.prog 42 #[.slice o_l l.length c_l, .int .i64 n] w m (fun _ m v => (MP.ints (withI l n)).p m v) := by
  have hb_l := h_l.big; have hc_l := h_l.cap
  refine fn_enter (vs := [_, _]) Try.func42 rfl rfl rfl fun a0 hfr0 => ?_
  have hst0 := st_enter hA (loc_nil [] _ w m)
  have hM : MLe m m := MLe.refl m
  refine seq_any fun _ hK1 => ?_
  refine rp0 hst0 hfr0 (.cons rfl (ob_assign rfl) <| .nil) ?_
  intro a1 w1 m1 hst1 hle1 hk1
  have hfr1 := hk1.fr (T' := [(0, _), (1, _)]) (.old rfl rfl <| .old rfl rfl <| .nil)
  replace h_l := h_l.mono hle1
  clear hst0 hfr0 hk1
  refine hK1 _ _ ?_; clear hK1
  refine seq_any fun _ hK2 => ?_
  refine seq_any fun _ hK3 => ?_
  refine rp0 hst1 hfr1 (.cons rfl (ob_assign rfl) <| .nil) ?_
  intro a2 w2 m2 hst2 hle2 hk2
  have hfr2 := hk2.fr (T' := [(0, _), (1, _), (5, _)]) (.old rfl rfl <| .old rfl rfl <| .new rfl <| .nil)
  replace h_l := h_l.mono hle2
  clear hst1 hfr1 hk2
  refine hK3 _ _ ?_; clear hK3
  refine wp_block ?_
  refine loop_any (T := [(0, _), (1, _)]) (fun (y : Nat) => ([(5, .int .i64 (y : Int))] : List (Nat × Value))) (fun _ => _) (fun (y : Nat) m => (y ≤ l.length) ∧ ((n ∈ l) = (n ∈ l.drop y))) (fun y => l.length - y) (0) ⟨hst2, MLe.refl _, hfr2.sub (.cons rfl <| .cons rfl <| .cons rfl <| .nil), ⟨Nat.zero_le _, rfl⟩⟩ fun y a3 w3 m3 hh3 => ?_
  have hst3 := hh3.st; have hle3 := hh3.le; have hfr3 := hh3.fr; have hrel := hh3.rel; clear hh3
  replace h_l := h_l.mono hle3
  clear hst2 hfr2
  obtain ⟨hyn, hrem⟩ := hrel
  have hlh3 := hle3
  refine seq_any fun _ hK5 => ?_
  refine seq_any fun _ hK6 => ?_
  refine rp0 hst3 hfr3 (.cons rfl (ob_move rfl) <| .cons rfl (ob_move rfl) <| .cons rfl (ob_len rfl Try.underlying37) <| .cons rfl (ob_lss rfl rfl) <| .nil) ?_
  intro a4 w4 m4 hst4 hle4 hk4
  have hfr4 := hk4.fr (T' := [(5, _), (0, _), (1, _), (9, _)]) (.old rfl rfl <| .old rfl rfl <| .old rfl rfl <| .new rfl <| .nil)
  replace h_l := h_l.mono hle4
  have hlh4 := hlh3.trans hle4
  clear hst3 hfr3 hk4
  refine hK6 _ _ ?_; clear hK6
  refine cond_any hfr4 rfl rfl (fun hb9 => ?_) (fun hb9 => ?_)
  · try simp only [nq1, nq2, nq3, nq4, nq5, nq6, nq7, nq8, nq9, u8_eq] at hb9
    refine wp_skip ?_
    refine hK5 _ _ ?_; clear hK5
    refine seq_any fun _ hK7 => ?_
    refine wp_block ?_
    refine seq_any fun _ hK8 => ?_
    obtain ⟨p9, vs9, x9, ho9, hd9, hm_x9, ht9, hcv9, hl9, hv9⟩ := h_l.nth (k := y) (by omega)
    cases ho9
    subst hv9
    try rw [hd9] at hrem
    try simp only [List.mem_cons] at hrem
    refine rp0 hst4 hfr4 (.cons rfl (ob_move rfl) <| .cons rfl (ob_move rfl) <| .cons rfl (ob_indexAddr (k := y) rfl rfl Try.underlying37 Try.sizeOf3 rfl (by omega)) <| .cons rfl (ob_load1' rfl hcv9 Try.isAgg3 rfl) <| .cons rfl (ob_move rfl) <| .cons rfl (ob_eql rfl rfl) <| .nil) ?_
    intro a5 w5 m5 hst5 hle5 hk5
    have hfr5 := hk5.fr (T' := [(5, _), (0, _), (1, _), (17, _)]) (.old rfl rfl <| .old rfl rfl <| .old rfl rfl <| .new rfl <| .nil)
    replace h_l := h_l.mono hle5
    have hlh5 := hlh4.trans hle5
    clear hst4 hfr4 hk5
    refine hK8 _ _ ?_; clear hK8
    refine cond_any hfr5 rfl rfl (fun hb17 => ?_) (fun hb17 => ?_)
    · try simp only [nq1, nq2, nq3, nq4, nq5, nq6, nq7, nq8, nq9, u8_eq] at hb17
      have hin : n ∈ l := by rw [hrem]; exact .inl hb17.symm
      refine seq_any fun _ hK10 => ?_
      refine rp0 hst5 hfr5 (.cons rfl (ob_move rfl) <| .cons rfl (ob_assign rfl) <| .nil) ?_
      intro a6 w6 m6 hst6 hle6 hk6
      have hfr6 := hk6.fr (T' := [(5, _), (4, _)]) (.old rfl rfl <| .new rfl <| .nil)
      replace h_l := h_l.mono hle6
      have hlh6 := hlh5.trans hle6
      clear hst5 hfr5 hk6
      refine hK10 _ _ ?_; clear hK10
      refine wp_ret ?_
      repeat (with_reducible first | refine then_ret ?_ | refine block_ret ?_)
      exact fn_ret hst6 hfr6 rfl (.tmp rfl <| .nil) (⟨(some p9, c_l), by rw [withI_in hin]; rfl, by rw [withI_in hin]; exact h_l⟩)
    · try simp only [nq1, nq2, nq3, nq4, nq5, nq6, nq7, nq8, nq9, u8_eq] at hb17
      refine wp_skip ?_
      refine hK7 _ _ ?_; clear hK7
      refine rp0 hst5 hfr5 (.cons rfl (ob_move rfl) <| .cons rfl (ob_add rfl rfl ⟨by omega, by omega⟩) <| .cons rfl (ob_assign rfl) <| .nil) ?_
      intro a6 w6 m6 hst6 hle6 hk6
      have hfr6 := hk6.fr (T' := [(0, _), (1, _), (5, _)]) (.old rfl rfl <| .old rfl rfl <| .new rfl <| .nil)
      have hlh6 := hlh5.trans hle6
      clear hst5 hfr5 hk6
      exact ⟨y + 1, m6, by show l.length - (y + 1) < l.length - y; omega, ⟨hst6, hlh6, hfr6.sub (.cons rfl <| .cons rfl <| .cons rfl <| .nil), ⟨by show y + 1 ≤ l.length; omega, by rw [hrem]; simp only [eq_iff_iff]; constructor; (intro h; rcases h with h | h; (exact absurd h.symm hb17); exact h); exact .inr⟩⟩⟩
  · try simp only [nq1, nq2, nq3, nq4, nq5, nq6, nq7, nq8, nq9, u8_eq] at hb9
    have hge : y = l.length := by omega
    rw [List.drop_of_length_le (by omega)] at hrem
    have hout : ¬ n ∈ l := by rw [hrem]; simp
    refine wp_exit ?_
    refine hK2 _ _ ?_; clear hK2
    refine seq_any fun _ hK12 => ?_
    obtain ⟨cs_13, hrw_13, hrd_13, hcl_13⟩ := h_l.reads
    replace hst4 := hst4.more (r := .free) trivial List.nodup_nil (by simp [Res.blocks])
    refine ra0 (tch := [(2, 0, (fun v => .row (nz v) _ _ _ _)), (5, 0, (fun v => .row (nz v) _ _ _ _))]) hst4 hfr4 (.cons rfl (ob_buildSlice0 Try.underlying37 Try.sizeOf3) <| .cons rfl (ob_move rfl) <| .consT rfl rfl (fun _ => rfl) rfl (ob_imgT 19 rfl rfl rfl fun y19 => ob_appendZ (size := 1) (bytes := 8) rfl rfl (fun _ => .inr ⟨rfl, rfl, rfl, rfl⟩) Try.underlying37 Try.type3 rfl rfl rfl rfl (fun w m hK => hrw_13.mono (KC.le hK)) hcl_13 (by decide) hrd_13.one (by simp only [maxLen]; omega) (by omega)) <| .cons rfl (ob_move rfl) <| .cons rfl (ob_buildSlice (.cons rfl <| .nil) Try.underlying37 Try.sizeOf3 Try.zeroValue3 rfl rfl rfl rfl) <| .consT rfl rfl (fun _ => rfl) rfl (ob_imgT 21 rfl rfl rfl fun y21 => ob_imgT 23 rfl rfl rfl fun y23 => ob_appendZ (size := 1) (bytes := 8) rfl rfl (fun _ => .inl rfl) Try.underlying37 Try.type3 rfl rfl rfl rfl (fun w m hK => .inr ⟨_, rfl, hK.2⟩) rfl (by decide) rfl (by simp only [maxLen]; omega) (by omega)) <| .consA 24 rfl rfl <| .nil) ?_
    intro a5 w5 m5 hst5 hle5 hk5
    have hfr5 := hk5.fr (T' := [(5, _)]) (.old rfl rfl <| .nil)
    obtain ⟨⟨oz13, cz13⟩, e15, hrz13, hcz13⟩ := hk5.ex 21 rfl
    replace e15 : envOf a5 21 = .slice oz13 (l).length cz13 := by rw [e15]; refine congrArg (fun q => Value.slice _ q _) ?_; first | omega | (simp only [List.length_append, List.length_cons, List.length_nil, List.nil_append, List.length_take, List.length_drop]; try omega)
    obtain ⟨⟨oz14, cz14⟩, e16, hrz14, hcz14⟩ := hk5.ex 24 rfl
    replace e16 : envOf a5 24 = .slice oz14 ((l ++ [n])).length cz14 := by rw [e16]; refine congrArg (fun q => Value.slice _ q _) ?_; first | omega | (simp only [List.length_append, List.length_cons, List.length_nil, List.nil_append, List.length_take, List.length_drop]; try omega)
    replace hfr5 := hfr5.cons (hk5.same 4 rfl e16)
    replace hst5 := hst5.fin (L' := [_]) (.cons e15 <| .cons e16 <| .nil)
    replace hrd_13 := hrd_13.mono hle5
    have hlh5 := hlh4.trans hle5
    clear hst4 hfr4 hk5
    have hsz14 : Ints m5 oz14 ((l ++ [n])).length cz14 (l ++ [n]) := Reads.sl ((Reads.nil.app hrd_13).app (Reads.single (vs := [_]) rfl rfl)) hrz14 (by decide) rfl (by have h := hcz14; first | omega | (simp only [List.length_append, List.length_cons, List.length_nil, List.nil_append, List.length_take, List.length_drop] at h ⊢; omega)) (by first | omega | (simp only [List.length_append, List.length_cons, List.length_nil, List.nil_append, List.length_take, List.length_drop]; omega))
    refine hK12 _ _ ?_; clear hK12
    refine wp_ret ?_
    repeat (with_reducible first | refine then_ret ?_ | refine block_ret ?_)
    exact fn_ret hst5 hfr5 rfl (.tmp rfl <| .nil) (⟨(oz14, cz14), by rw [withI_out hout]; rfl, by rw [withI_out hout]; exact hsz14⟩)

def MP.two (a b : List Int) : MP := MP.mem (fun y : (Option Addr × Nat) × (Option Addr × Nat) => .tuple #[.slice y.1.1 a.length y.1.2, .slice y.2.1 b.length y.2.2]) (fun y m => Ints m y.1.1 a.length y.1.2 a ∧ Ints m y.2.1 b.length y.2.2 b) fun hm h => ⟨h.1.mono hm, h.2.mono hm⟩

abbrev varsR_G (t : Ty) : Prop := ∀ {w : World} {m : Mem} {vs_t : List Value} {o_a : Option Addr} {c_a : Nat} {a : List Int} {o_b : Option Addr} {c_b : Nat} {b : List Int} (hA : Agree w m) (h_t : TyR m t vs_t) (h_a : Ints m o_a a.length c_a a) (h_b : Ints m o_b b.length c_b b) (hbig : a.length + b.length + 2 * cntT t ≤ 1073741824), FnV Try.prog 33 #[.agg vs_t.toArray, .slice o_a a.length c_a, .slice o_b b.length c_b] w m (fun _ m v => (MP.two (walkT t (a, b)).1 (walkT t (a, b)).2).p m v)
set_option maxHeartbeats 400000 in
theorem varsR_s {t : Ty} (ih : ∀ u ∈ t.args, varsR_G u) {w : World} {m : Mem} {vs_t : List Value} {o_a : Option Addr} {c_a : Nat} {a : List Int} {o_b : Option Addr} {c_b : Nat} {b : List Int} (hA : Agree w m) (h_t : TyR m t vs_t) (h_a : Ints m o_a a.length c_a a) (h_b : Ints m o_b b.length c_b b) (hbig : a.length + b.length + 2 * cntT t ≤ 1073741824) : FnV Try.prog 33 #[.agg vs_t.toArray, .slice o_a a.length c_a, .slice o_b b.length c_b] w m (fun _ m v => (MP.two (walkT t (a, b)).1 (walkT t (a, b)).2).p m v) := by
  obtain ⟨o_t, c_t, oL_t, cL_t, rfl, hk_t, hs_t, hi_t, hj_t, hr_t⟩ := h_t.open_
  have hbg_t := hk_t.big; have hcp_t := hk_t.cap; have hbs_t := hs_t.big; have hcs_t := hs_t.cap
  have hrw_t : RwR _ ⟨t.labels, t.rv⟩ _ := ⟨_, _, rfl, hs_t, hr_t⟩
  have hb_a := h_a.big; have hc_a := h_a.cap
  have hb_b := h_b.big; have hc_b := h_b.cap
  refine fn_enter (vs := [_, _, _]) Try.func33 rfl rfl rfl fun a0 hfr0 => ?_
  have hst0 := st_enter hA (loc_nil [] _ w m)
  have hM : MLe m m := MLe.refl m
  have hce := cntT_eq t
  have hw := walkT_eq t (a, b)
  refine seq_any fun _ hK1 => ?_
  refine rp0 hst0 hfr0 (.cons rfl (ob_box rfl rfl) <| .cons rfl (ob_assign rfl) <| .cons rfl (ob_assign rfl) <| .nil) ?_
  intro a1 w1 m1 hst1 hle1 hk1
  have hfr1 := hk1.fr (T' := [(1, _), (2, _)]) (.old rfl rfl <| .old rfl rfl <| .nil)
  obtain ⟨g2, e2, hc3⟩ := hk1.ex 3 rfl
  replace hfr1 := hfr1.cons e2
  replace hk_t := hk_t.mono hle1
  replace h_a := h_a.mono hle1
  replace h_b := h_b.mono hle1
  clear hst0 hfr0 hk1
  refine hK1 _ _ ?_; clear hK1
  refine seq_any fun _ hK3 => ?_
  refine seq_any fun _ hK4 => ?_
  refine rp0 hst1 hfr1 (.cons rfl (ob_fieldAddrO (off := 0) rfl Try.underlying28 rfl rfl Try.sizeOf3 rfl) <| .cons rfl (ob_load1 rfl hc3 Try.isAgg3 rfl) <| .cons rfl (ob_eql rfl rfl) <| .nil) ?_
  intro a2 w2 m2 hst2 hle2 hk2
  have hfr2 := hk2.fr (T' := [(1, _), (2, _), (3, _), (11, _)]) (.old rfl rfl <| .old rfl rfl <| .old rfl rfl <| .new rfl <| .nil)
  replace hk_t := hk_t.mono hle2
  replace h_a := h_a.mono hle2
  replace h_b := h_b.mono hle2
  replace hc3 := hc3.mono hle2
  clear hst1 hfr1 hk2
  refine hK4 _ _ ?_; clear hK4
  refine cond_any hfr2 rfl rfl (fun hb11 => ?_) (fun hb11 => ?_)
  · try simp only [nq1, nq2, nq3, nq4, nq5, nq6, nq7, nq8, nq9, u8_eq] at hb11
    refine ra0 (tch := []) hst2 hfr2 (.cons rfl (ob_move rfl) <| .cons rfl (ob_fieldAddrO (off := 2) rfl Try.underlying28 rfl rfl Try.sizeOf3 rfl) <| .cons rfl (ob_load1 rfl hc3 Try.isAgg3 rfl) <| .cons rfl (ob_call (φ := MP.ints (withI a t.var)) rfl (.cons rfl <| .cons rfl <| .nil) Try.call42 (fun w m hK => by have hle_ := KC.le hK; have hA := KC.agree hK; have h_a := h_a.mono hle_; exact FnG.mono (withR_c (l := a) (n := t.var) hA h_a (by omega)) fun _ _ _ _ h => h)) <| .consA 15 rfl rfl <| .nil) ?_
    intro a3 w3 m3 hst3 hle3 hk3
    have hfr3 := hk3.fr (T' := [(2, _), (3, _)]) (.old rfl rfl <| .old rfl rfl <| .nil)
    obtain ⟨⟨oW, cW⟩, e5, hW⟩ := hk3.ex 15 rfl
    replace hfr3 := hfr3.cons (hk3.same 1 rfl e5)
    replace hk_t := hk_t.mono hle3
    replace h_b := h_b.mono hle3
    replace hc3 := hc3.mono hle3
    clear hst2 hfr2 hk3
    dsimp only [MP.ints, MP.mem] at hW
    rw [if_pos hb11] at hw
    have hwl := withI_len a t.var
    refine hK3 _ _ ?_; clear hK3
    refine seq_any fun _ hK6 => ?_
    refine seq_any fun _ hK7 => ?_
    refine rp0 hst3 hfr3 (.cons rfl (ob_assign rfl) <| .nil) ?_
    intro a4 w4 m4 hst4 hle4 hk4
    have hfr4 := hk4.fr (T' := [(2, _), (3, _), (1, _), (8, _)]) (.old rfl rfl <| .old rfl rfl <| .old rfl rfl <| .new rfl <| .nil)
    replace hk_t := hk_t.mono hle4
    replace h_b := h_b.mono hle4
    replace hc3 := hc3.mono hle4
    replace hW := hW.mono hle4
    clear hst3 hfr3 hk4
    refine hK7 _ _ ?_; clear hK7
    refine wp_block ?_
    refine loop_any (T := [(3, _)]) (fun (y : Nat × Option Addr × Nat × List Int × Option Addr × Nat × List Int) => ([(1, .slice y.2.1 y.2.2.2.1.length y.2.2.1), (2, .slice y.2.2.2.2.1 y.2.2.2.2.2.2.length y.2.2.2.2.2.1), (8, .int .i64 (y.1 : Int))] : List (Nat × Value))) (fun _ => _) (fun (y : Nat × Option Addr × Nat × List Int × Option Addr × Nat × List Int) m => (fun (y : Nat) (gao : Option Addr) (gap : Nat) (ga : List Int) (gbo : Option Addr) (gbp : Nat) (gb : List Int) => (y ≤ t.args.length) ∧ (Ints m gao ga.length gap ga) ∧ (Ints m gbo gb.length gbp gb) ∧ (walkT t (a, b) = walkTs t.kind t.rv y (t.args.drop y) (ga, gb)) ∧ (ga.length + gb.length + 2 * cntTs (t.args.drop y) + (if y = 0 then 1 else 0) ≤ 1073741824)) y.1 y.2.1 y.2.2.1 y.2.2.2.1 y.2.2.2.2.1 y.2.2.2.2.2.1 y.2.2.2.2.2.2) (fun y => t.args.length - y.1) ((0, oW, cW, (withI a t.var), o_b, c_b, b)) ⟨hst4, MLe.refl _, hfr4.sub (.cons rfl <| .cons rfl <| .cons rfl <| .cons rfl <| .nil), ⟨Nat.zero_le _, hW, h_b, by rw [hw, List.drop_zero], by rw [List.drop_zero, if_pos rfl]; dsimp only; omega⟩⟩ fun y a5 w5 m5 hh5 => ?_
    have hst5 := hh5.st; have hle5 := hh5.le; have hfr5 := hh5.fr; have hrel := hh5.rel; clear hh5
    replace hk_t := hk_t.mono hle5
    replace hc3 := hc3.mono hle5
    clear hst4 hfr4
    obtain ⟨y, gao, gap, ga, gbo, gbp, gb⟩ := y
    dsimp only at hrel hfr5 hst5
    obtain ⟨hyn, hsl_ga, hsl_gb, hwk, hlen⟩ := hrel
    have hlh5 := hle5
    refine seq_any fun _ hK9 => ?_
    refine seq_any fun _ hK10 => ?_
    refine rp0 hst5 hfr5 (.cons rfl (ob_move rfl) <| .cons rfl (ob_fieldAddrO (off := 3) rfl Try.underlying28 rfl rfl Try.sizeOf23 rfl) <| .cons rfl (ob_load1 rfl hc3 Try.isAgg23 rfl) <| .cons rfl (ob_len rfl Try.underlying23) <| .cons rfl (ob_lss rfl rfl) <| .nil) ?_
    intro a6 w6 m6 hst6 hle6 hk6
    have hfr6 := hk6.fr (T' := [(1, _), (2, _), (8, _), (3, _), (20, _)]) (.old rfl rfl <| .old rfl rfl <| .old rfl rfl <| .old rfl rfl <| .new rfl <| .nil)
    replace hk_t := hk_t.mono hle6
    replace hc3 := hc3.mono hle6
    replace hsl_ga := hsl_ga.mono hle6
    replace hsl_gb := hsl_gb.mono hle6
    have hlh6 := hlh5.trans hle6
    clear hst5 hfr5 hk6
    refine hK10 _ _ ?_; clear hK10
    refine cond_any hfr6 rfl rfl (fun hb20 => ?_) (fun hb20 => ?_)
    · try simp only [nq1, nq2, nq3, nq4, nq5, nq6, nq7, nq8, nq9, u8_eq] at hb20
      refine wp_skip ?_
      refine hK9 _ _ ?_; clear hK9
      refine seq_any fun _ hK11 => ?_
      refine wp_block ?_
      refine seq_any fun _ hK12 => ?_
      obtain ⟨p13, vs13, x13, ho13, hd13, hm_x13, ht13, hcv13, hl13, hv13⟩ := hk_t.nth (k := y) (by omega)
      cases ho13
      obtain ⟨o13, c13, oL13, cL13, rfl, hkd13, hs13, hi13, hj13, hr13⟩ := hv13.open_
      have hbg13 := hkd13.big; have hcp13 := hkd13.cap; have hbs13 := hs13.big; have hcs13 := hs13.cap
      have hrw13 : RwR _ ⟨x13.labels, x13.rv⟩ _ := ⟨_, _, rfl, hs13, hr13⟩
      rw [hd13, walkTs_cons] at hwk
      rw [hd13, cntTs] at hlen
      have hrm := walk_room x13 (ga, gb)
      simp only [room] at hrm
      refine ra0 (tch := []) hst6 hfr6 (.cons rfl (ob_fieldAddrO (off := 3) rfl Try.underlying28 rfl rfl Try.sizeOf23 rfl) <| .cons rfl (ob_load1 rfl hc3 Try.isAgg23 rfl) <| .cons rfl (ob_move rfl) <| .cons rfl (ob_indexAddr (k := y) rfl rfl Try.underlying23 Try.sizeOf28 rfl (by omega)) <| .cons rfl (ob_loadS' rfl hcv13 Try.isAgg28 Try.sizeOf28 rfl rfl) <| .cons rfl (ob_move rfl) <| .cons rfl (ob_move rfl) <| .cons rfl (ob_call (φ := MP.two (walkT x13 (ga, gb)).1 (walkT x13 (ga, gb)).2) rfl (.cons rfl <| .cons rfl <| .cons rfl <| .nil) Try.call33 (fun w m hK => by have hle_ := KC.le hK; have hA := KC.agree hK; have hsl_ga := hsl_ga.mono hle_; have hsl_gb := hsl_gb.mono hle_; have hv13 := hv13.mono hle_; exact FnG.mono (ih _ hm_x13 hA hv13 hsl_ga hsl_gb (by omega)) fun _ _ _ _ h => h)) <| .cons rfl (ob_imgV 31 rfl rfl rfl fun y31 => ob_move rfl) <| .cons rfl (ob_imgV 23 rfl rfl rfl fun y23 => ob_extract rfl rfl) <| .cons rfl (ob_imgV 23 rfl rfl rfl fun y23 => ob_extract rfl rfl) <| .consA 32 rfl rfl <| .consA 33 rfl rfl <| .nil) ?_
      intro a7 w7 m7 hst7 hle7 hk7
      have hfr7 := hk7.fr (T' := [(8, _), (3, _)]) (.old rfl rfl <| .old rfl rfl <| .nil)
      obtain ⟨⟨⟨o1, c1⟩, q1⟩, e14, hI1, _⟩ := hk7.ex 32 rfl
      obtain ⟨⟨q2, o2, c2⟩, e15, _, hI2⟩ := hk7.ex 33 rfl
      replace hfr7 := hfr7.cons (hk7.same 1 rfl e14)
      replace hfr7 := hfr7.cons (hk7.same 2 rfl e15)
      replace hc3 := hc3.mono hle7
      have hlh7 := hlh6.trans hle7
      clear hst6 hfr6 hk7
      refine hK12 _ _ ?_; clear hK12
      refine seq_any fun _ hK16 => ?_
      refine rp0 hst7 hfr7 (.cons rfl (ob_move rfl) <| .cons rfl (ob_eql rfl rfl) <| .cons rfl (ob_move rfl) <| .cons rfl (ob_fieldAddrO (off := 0) rfl Try.underlying28 rfl rfl Try.sizeOf3 rfl) <| .cons rfl (ob_load1 rfl hc3 Try.isAgg3 rfl) <| .cons rfl (ob_eql rfl rfl) <| .cons rfl (ob_and rfl rfl rfl) <| .cons rfl (ob_move rfl) <| .cons rfl (ob_fieldAddrO (off := 4) rfl Try.underlying28 rfl rfl Try.sizeOf26 rfl) <| .cons rfl (ob_fieldAddrO (off := 1) rfl Try.underlying26 rfl rfl Try.sizeOf3 rfl) <| .cons rfl (ob_load1 rfl (hc3.drop 4) Try.isAgg3 rfl) <| .cons rfl (ob_gtr rfl rfl) <| .cons rfl (ob_and rfl rfl rfl) <| .nil) ?_
      intro a8 w8 m8 hst8 hle8 hk8
      have hfr8 := hk8.fr (T' := [(8, _), (3, _), (1, _), (2, _), (46, _)]) (.old rfl rfl <| .old rfl rfl <| .old rfl rfl <| .old rfl rfl <| .new rfl <| .nil)
      replace hc3 := hc3.mono hle8
      replace hI1 := hI1.mono hle8
      replace hI2 := hI2.mono hle8
      have hlh8 := hlh7.trans hle8
      clear hst7 hfr7 hk8
      refine hK16 _ _ ?_; clear hK16
      refine cond_any hfr8 rfl rfl (fun hb46 => ?_) (fun hb46 => ?_)
      · try simp only [nq1, nq2, nq3, nq4, nq5, nq6, nq7, nq8, nq9, u8_eq] at hb46
        refine ra0 (tch := []) hst8 hfr8 (.cons rfl (ob_move rfl) <| .cons rfl (ob_fieldAddrO (off := 4) rfl Try.underlying28 rfl rfl Try.sizeOf26 rfl) <| .cons rfl (ob_fieldAddrO (off := 1) rfl Try.underlying26 rfl rfl Try.sizeOf3 rfl) <| .cons rfl (ob_load1 rfl (hc3.drop 4) Try.isAgg3 rfl) <| .cons rfl (ob_call (φ := MP.ints (withI (walkT x13 (ga, gb)).2 t.rv)) rfl (.cons rfl <| .cons rfl <| .nil) Try.call42 (fun w m hK => by have hle_ := KC.le hK; have hA := KC.agree hK; have hI2 := hI2.mono hle_; exact FnG.mono (withR_c (l := (walkT x13 (ga, gb)).2) (n := t.rv) hA hI2 (by omega)) fun _ _ _ _ h => h)) <| .consA 51 rfl rfl <| .nil) ?_
        intro a9 w9 m9 hst9 hle9 hk9
        have hfr9 := hk9.fr (T' := [(8, _), (3, _), (1, _)]) (.old rfl rfl <| .old rfl rfl <| .old rfl rfl <| .nil)
        obtain ⟨⟨o3, c3⟩, e17, hI3⟩ := hk9.ex 51 rfl
        replace hfr9 := hfr9.cons (hk9.same 2 rfl e17)
        replace hI1 := hI1.mono hle9
        have hlh9 := hlh8.trans hle9
        clear hst8 hfr8 hk9
        dsimp only [MP.ints, MP.mem] at hI3
        refine hK11 _ _ ?_; clear hK11
        refine rp0 hst9 hfr9 (.cons rfl (ob_move rfl) <| .cons rfl (ob_add rfl rfl ⟨by omega, by omega⟩) <| .cons rfl (ob_assign rfl) <| .nil) ?_
        intro a10 w10 m10 hst10 hle10 hk10
        have hfr10 := hk10.fr (T' := [(3, _), (1, _), (2, _), (8, _)]) (.old rfl rfl <| .old rfl rfl <| .old rfl rfl <| .new rfl <| .nil)
        replace hI1 := hI1.mono hle10
        replace hI3 := hI3.mono hle10
        have hlh10 := hlh9.trans hle10
        clear hst9 hfr9 hk10
        exact ⟨(y + 1, o1, c1, (walkT x13 (ga, gb)).1, o3, c3, (withI (walkT x13 (ga, gb)).2 t.rv)), m10, by show t.args.length - (y + 1) < t.args.length - y; omega, ⟨hst10, hlh10, hfr10.sub (.cons rfl <| .cons rfl <| .cons rfl <| .cons rfl <| .nil), ⟨by show y + 1 ≤ t.args.length; omega, hI1, hI3, by rw [hwk, if_pos (show y = 0 ∧ t.kind = 5 ∧ 0 < t.rv by omega)], by have h8 := withI_len (walkT x13 (ga, gb)).2 t.rv; rw [if_pos (show y = 0 by omega)] at hlen; rw [if_neg (Nat.succ_ne_zero y)]; show (walkT x13 (ga, gb)).1.length + (withI (walkT x13 (ga, gb)).2 t.rv).length + 2 * cntTs (t.args.drop (y + 1)) + 0 ≤ _; omega⟩⟩⟩
      · try simp only [nq1, nq2, nq3, nq4, nq5, nq6, nq7, nq8, nq9, u8_eq] at hb46
        refine wp_skip ?_
        refine hK11 _ _ ?_; clear hK11
        refine rp0 hst8 hfr8 (.cons rfl (ob_move rfl) <| .cons rfl (ob_add rfl rfl ⟨by omega, by omega⟩) <| .cons rfl (ob_assign rfl) <| .nil) ?_
        intro a9 w9 m9 hst9 hle9 hk9
        have hfr9 := hk9.fr (T' := [(3, _), (1, _), (2, _), (8, _)]) (.old rfl rfl <| .old rfl rfl <| .old rfl rfl <| .new rfl <| .nil)
        replace hI1 := hI1.mono hle9
        replace hI2 := hI2.mono hle9
        have hlh9 := hlh8.trans hle9
        clear hst8 hfr8 hk9
        exact ⟨(y + 1, o1, c1, (walkT x13 (ga, gb)).1, o2, c2, (walkT x13 (ga, gb)).2), m9, by show t.args.length - (y + 1) < t.args.length - y; omega, ⟨hst9, hlh9, hfr9.sub (.cons rfl <| .cons rfl <| .cons rfl <| .cons rfl <| .nil), ⟨by show y + 1 ≤ t.args.length; omega, hI1, hI2, by rw [hwk, if_neg (by omega)], by rw [if_neg (Nat.succ_ne_zero y)]; show (walkT x13 (ga, gb)).1.length + (walkT x13 (ga, gb)).2.length + 2 * cntTs (t.args.drop (y + 1)) + 0 ≤ _; omega⟩⟩⟩
    · try simp only [nq1, nq2, nq3, nq4, nq5, nq6, nq7, nq8, nq9, u8_eq] at hb20
      have hge : y = t.args.length := by omega
      rw [List.drop_of_length_le (by omega), walkTs] at hwk
      refine wp_exit ?_
      refine hK6 _ _ ?_; clear hK6
      refine seq_any fun _ hK18 => ?_
      refine rp0 hst6 hfr6 (.cons rfl (ob_move rfl) <| .cons rfl (ob_move rfl) <| .cons rfl (ob_assign rfl) <| .cons rfl (ob_assign rfl) <| .nil) ?_
      intro a7 w7 m7 hst7 hle7 hk7
      have hfr7 := hk7.fr (T' := [(1, _), (2, _), (8, _), (6, _), (7, _)]) (.old rfl rfl <| .old rfl rfl <| .old rfl rfl <| .new rfl <| .new rfl <| .nil)
      replace hsl_ga := hsl_ga.mono hle7
      replace hsl_gb := hsl_gb.mono hle7
      have hlh7 := hlh6.trans hle7
      clear hst6 hfr6 hk7
      refine hK18 _ _ ?_; clear hK18
      refine wp_ret ?_
      repeat (with_reducible first | refine then_ret ?_ | refine block_ret ?_)
      exact fn_ret hst7 hfr7 rfl (.tmp rfl <| .tmp rfl <| .nil) (⟨((gao, gap), (gbo, gbp)), by rw [hwk]; rfl, by rw [hwk]; exact ⟨hsl_ga, hsl_gb⟩⟩)
  · try simp only [nq1, nq2, nq3, nq4, nq5, nq6, nq7, nq8, nq9, u8_eq] at hb11
    rw [if_neg hb11] at hw
    refine wp_skip ?_
    refine hK3 _ _ ?_; clear hK3
    refine seq_any fun _ hK20 => ?_
    refine seq_any fun _ hK21 => ?_
    refine rp0 hst2 hfr2 (.cons rfl (ob_assign rfl) <| .nil) ?_
    intro a3 w3 m3 hst3 hle3 hk3
    have hfr3 := hk3.fr (T' := [(1, _), (2, _), (3, _), (8, _)]) (.old rfl rfl <| .old rfl rfl <| .old rfl rfl <| .new rfl <| .nil)
    replace hk_t := hk_t.mono hle3
    replace h_a := h_a.mono hle3
    replace h_b := h_b.mono hle3
    replace hc3 := hc3.mono hle3
    clear hst2 hfr2 hk3
    refine hK21 _ _ ?_; clear hK21
    refine wp_block ?_
    refine loop_any (T := [(3, _)]) (fun (y : Nat × Option Addr × Nat × List Int × Option Addr × Nat × List Int) => ([(1, .slice y.2.1 y.2.2.2.1.length y.2.2.1), (2, .slice y.2.2.2.2.1 y.2.2.2.2.2.2.length y.2.2.2.2.2.1), (8, .int .i64 (y.1 : Int))] : List (Nat × Value))) (fun _ => _) (fun (y : Nat × Option Addr × Nat × List Int × Option Addr × Nat × List Int) m => (fun (y : Nat) (gao : Option Addr) (gap : Nat) (ga : List Int) (gbo : Option Addr) (gbp : Nat) (gb : List Int) => (y ≤ t.args.length) ∧ (Ints m gao ga.length gap ga) ∧ (Ints m gbo gb.length gbp gb) ∧ (walkT t (a, b) = walkTs t.kind t.rv y (t.args.drop y) (ga, gb)) ∧ (ga.length + gb.length + 2 * cntTs (t.args.drop y) + (if y = 0 then 1 else 0) ≤ 1073741824)) y.1 y.2.1 y.2.2.1 y.2.2.2.1 y.2.2.2.2.1 y.2.2.2.2.2.1 y.2.2.2.2.2.2) (fun y => t.args.length - y.1) ((0, o_a, c_a, a, o_b, c_b, b)) ⟨hst3, MLe.refl _, hfr3.sub (.cons rfl <| .cons rfl <| .cons rfl <| .cons rfl <| .nil), ⟨Nat.zero_le _, h_a, h_b, by rw [hw, List.drop_zero], by rw [List.drop_zero, if_pos rfl]; dsimp only; omega⟩⟩ fun y a4 w4 m4 hh4 => ?_
    have hst4 := hh4.st; have hle4 := hh4.le; have hfr4 := hh4.fr; have hrel := hh4.rel; clear hh4
    replace hk_t := hk_t.mono hle4
    replace hc3 := hc3.mono hle4
    clear hst3 hfr3
    obtain ⟨y, gao, gap, ga, gbo, gbp, gb⟩ := y
    dsimp only at hrel hfr4 hst4
    obtain ⟨hyn, hsl_ga, hsl_gb, hwk, hlen⟩ := hrel
    have hlh4 := hle4
    refine seq_any fun _ hK23 => ?_
    refine seq_any fun _ hK24 => ?_
    refine rp0 hst4 hfr4 (.cons rfl (ob_move rfl) <| .cons rfl (ob_fieldAddrO (off := 3) rfl Try.underlying28 rfl rfl Try.sizeOf23 rfl) <| .cons rfl (ob_load1 rfl hc3 Try.isAgg23 rfl) <| .cons rfl (ob_len rfl Try.underlying23) <| .cons rfl (ob_lss rfl rfl) <| .nil) ?_
    intro a5 w5 m5 hst5 hle5 hk5
    have hfr5 := hk5.fr (T' := [(1, _), (2, _), (8, _), (3, _), (20, _)]) (.old rfl rfl <| .old rfl rfl <| .old rfl rfl <| .old rfl rfl <| .new rfl <| .nil)
    replace hk_t := hk_t.mono hle5
    replace hc3 := hc3.mono hle5
    replace hsl_ga := hsl_ga.mono hle5
    replace hsl_gb := hsl_gb.mono hle5
    have hlh5 := hlh4.trans hle5
    clear hst4 hfr4 hk5
    refine hK24 _ _ ?_; clear hK24
    refine cond_any hfr5 rfl rfl (fun hb20 => ?_) (fun hb20 => ?_)
    · try simp only [nq1, nq2, nq3, nq4, nq5, nq6, nq7, nq8, nq9, u8_eq] at hb20
      refine wp_skip ?_
      refine hK23 _ _ ?_; clear hK23
      refine seq_any fun _ hK25 => ?_
      refine wp_block ?_
      refine seq_any fun _ hK26 => ?_
      obtain ⟨p27, vs27, x27, ho27, hd27, hm_x27, ht27, hcv27, hl27, hv27⟩ := hk_t.nth (k := y) (by omega)
      cases ho27
      obtain ⟨o27, c27, oL27, cL27, rfl, hkd27, hs27, hi27, hj27, hr27⟩ := hv27.open_
      have hbg27 := hkd27.big; have hcp27 := hkd27.cap; have hbs27 := hs27.big; have hcs27 := hs27.cap
      have hrw27 : RwR _ ⟨x27.labels, x27.rv⟩ _ := ⟨_, _, rfl, hs27, hr27⟩
      rw [hd27, walkTs_cons] at hwk
      rw [hd27, cntTs] at hlen
      have hrm := walk_room x27 (ga, gb)
      simp only [room] at hrm
      refine ra0 (tch := []) hst5 hfr5 (.cons rfl (ob_fieldAddrO (off := 3) rfl Try.underlying28 rfl rfl Try.sizeOf23 rfl) <| .cons rfl (ob_load1 rfl hc3 Try.isAgg23 rfl) <| .cons rfl (ob_move rfl) <| .cons rfl (ob_indexAddr (k := y) rfl rfl Try.underlying23 Try.sizeOf28 rfl (by omega)) <| .cons rfl (ob_loadS' rfl hcv27 Try.isAgg28 Try.sizeOf28 rfl rfl) <| .cons rfl (ob_move rfl) <| .cons rfl (ob_move rfl) <| .cons rfl (ob_call (φ := MP.two (walkT x27 (ga, gb)).1 (walkT x27 (ga, gb)).2) rfl (.cons rfl <| .cons rfl <| .cons rfl <| .nil) Try.call33 (fun w m hK => by have hle_ := KC.le hK; have hA := KC.agree hK; have hsl_ga := hsl_ga.mono hle_; have hsl_gb := hsl_gb.mono hle_; have hv27 := hv27.mono hle_; exact FnG.mono (ih _ hm_x27 hA hv27 hsl_ga hsl_gb (by omega)) fun _ _ _ _ h => h)) <| .cons rfl (ob_imgV 31 rfl rfl rfl fun y31 => ob_move rfl) <| .cons rfl (ob_imgV 23 rfl rfl rfl fun y23 => ob_extract rfl rfl) <| .cons rfl (ob_imgV 23 rfl rfl rfl fun y23 => ob_extract rfl rfl) <| .consA 32 rfl rfl <| .consA 33 rfl rfl <| .nil) ?_
      intro a6 w6 m6 hst6 hle6 hk6
      have hfr6 := hk6.fr (T' := [(8, _), (3, _)]) (.old rfl rfl <| .old rfl rfl <| .nil)
      obtain ⟨⟨⟨o1, c1⟩, q1⟩, e28, hI1, _⟩ := hk6.ex 32 rfl
      obtain ⟨⟨q2, o2, c2⟩, e29, _, hI2⟩ := hk6.ex 33 rfl
      replace hfr6 := hfr6.cons (hk6.same 1 rfl e28)
      replace hfr6 := hfr6.cons (hk6.same 2 rfl e29)
      replace hc3 := hc3.mono hle6
      have hlh6 := hlh5.trans hle6
      clear hst5 hfr5 hk6
      refine hK26 _ _ ?_; clear hK26
      refine seq_any fun _ hK30 => ?_
      refine rp0 hst6 hfr6 (.cons rfl (ob_move rfl) <| .cons rfl (ob_eql rfl rfl) <| .cons rfl (ob_move rfl) <| .cons rfl (ob_fieldAddrO (off := 0) rfl Try.underlying28 rfl rfl Try.sizeOf3 rfl) <| .cons rfl (ob_load1 rfl hc3 Try.isAgg3 rfl) <| .cons rfl (ob_eql rfl rfl) <| .cons rfl (ob_and rfl rfl rfl) <| .cons rfl (ob_move rfl) <| .cons rfl (ob_fieldAddrO (off := 4) rfl Try.underlying28 rfl rfl Try.sizeOf26 rfl) <| .cons rfl (ob_fieldAddrO (off := 1) rfl Try.underlying26 rfl rfl Try.sizeOf3 rfl) <| .cons rfl (ob_load1 rfl (hc3.drop 4) Try.isAgg3 rfl) <| .cons rfl (ob_gtr rfl rfl) <| .cons rfl (ob_and rfl rfl rfl) <| .nil) ?_
      intro a7 w7 m7 hst7 hle7 hk7
      have hfr7 := hk7.fr (T' := [(8, _), (3, _), (1, _), (2, _), (46, _)]) (.old rfl rfl <| .old rfl rfl <| .old rfl rfl <| .old rfl rfl <| .new rfl <| .nil)
      replace hc3 := hc3.mono hle7
      replace hI1 := hI1.mono hle7
      replace hI2 := hI2.mono hle7
      have hlh7 := hlh6.trans hle7
      clear hst6 hfr6 hk7
      refine hK30 _ _ ?_; clear hK30
      refine cond_any hfr7 rfl rfl (fun hb46 => ?_) (fun hb46 => ?_)
      · try simp only [nq1, nq2, nq3, nq4, nq5, nq6, nq7, nq8, nq9, u8_eq] at hb46
        refine ra0 (tch := []) hst7 hfr7 (.cons rfl (ob_move rfl) <| .cons rfl (ob_fieldAddrO (off := 4) rfl Try.underlying28 rfl rfl Try.sizeOf26 rfl) <| .cons rfl (ob_fieldAddrO (off := 1) rfl Try.underlying26 rfl rfl Try.sizeOf3 rfl) <| .cons rfl (ob_load1 rfl (hc3.drop 4) Try.isAgg3 rfl) <| .cons rfl (ob_call (φ := MP.ints (withI (walkT x27 (ga, gb)).2 t.rv)) rfl (.cons rfl <| .cons rfl <| .nil) Try.call42 (fun w m hK => by have hle_ := KC.le hK; have hA := KC.agree hK; have hI2 := hI2.mono hle_; exact FnG.mono (withR_c (l := (walkT x27 (ga, gb)).2) (n := t.rv) hA hI2 (by omega)) fun _ _ _ _ h => h)) <| .consA 51 rfl rfl <| .nil) ?_
        intro a8 w8 m8 hst8 hle8 hk8
        have hfr8 := hk8.fr (T' := [(8, _), (3, _), (1, _)]) (.old rfl rfl <| .old rfl rfl <| .old rfl rfl <| .nil)
        obtain ⟨⟨o3, c3⟩, e31, hI3⟩ := hk8.ex 51 rfl
        replace hfr8 := hfr8.cons (hk8.same 2 rfl e31)
        replace hI1 := hI1.mono hle8
        have hlh8 := hlh7.trans hle8
        clear hst7 hfr7 hk8
        dsimp only [MP.ints, MP.mem] at hI3
        refine hK25 _ _ ?_; clear hK25
        refine rp0 hst8 hfr8 (.cons rfl (ob_move rfl) <| .cons rfl (ob_add rfl rfl ⟨by omega, by omega⟩) <| .cons rfl (ob_assign rfl) <| .nil) ?_
        intro a9 w9 m9 hst9 hle9 hk9
        have hfr9 := hk9.fr (T' := [(3, _), (1, _), (2, _), (8, _)]) (.old rfl rfl <| .old rfl rfl <| .old rfl rfl <| .new rfl <| .nil)
        replace hI1 := hI1.mono hle9
        replace hI3 := hI3.mono hle9
        have hlh9 := hlh8.trans hle9
        clear hst8 hfr8 hk9
        exact ⟨(y + 1, o1, c1, (walkT x27 (ga, gb)).1, o3, c3, (withI (walkT x27 (ga, gb)).2 t.rv)), m9, by show t.args.length - (y + 1) < t.args.length - y; omega, ⟨hst9, hlh9, hfr9.sub (.cons rfl <| .cons rfl <| .cons rfl <| .cons rfl <| .nil), ⟨by show y + 1 ≤ t.args.length; omega, hI1, hI3, by rw [hwk, if_pos (show y = 0 ∧ t.kind = 5 ∧ 0 < t.rv by omega)], by have h8 := withI_len (walkT x27 (ga, gb)).2 t.rv; rw [if_pos (show y = 0 by omega)] at hlen; rw [if_neg (Nat.succ_ne_zero y)]; show (walkT x27 (ga, gb)).1.length + (withI (walkT x27 (ga, gb)).2 t.rv).length + 2 * cntTs (t.args.drop (y + 1)) + 0 ≤ _; omega⟩⟩⟩
      · try simp only [nq1, nq2, nq3, nq4, nq5, nq6, nq7, nq8, nq9, u8_eq] at hb46
        refine wp_skip ?_
        refine hK25 _ _ ?_; clear hK25
        refine rp0 hst7 hfr7 (.cons rfl (ob_move rfl) <| .cons rfl (ob_add rfl rfl ⟨by omega, by omega⟩) <| .cons rfl (ob_assign rfl) <| .nil) ?_
        intro a8 w8 m8 hst8 hle8 hk8
        have hfr8 := hk8.fr (T' := [(3, _), (1, _), (2, _), (8, _)]) (.old rfl rfl <| .old rfl rfl <| .old rfl rfl <| .new rfl <| .nil)
        replace hI1 := hI1.mono hle8
        replace hI2 := hI2.mono hle8
        have hlh8 := hlh7.trans hle8
        clear hst7 hfr7 hk8
        exact ⟨(y + 1, o1, c1, (walkT x27 (ga, gb)).1, o2, c2, (walkT x27 (ga, gb)).2), m8, by show t.args.length - (y + 1) < t.args.length - y; omega, ⟨hst8, hlh8, hfr8.sub (.cons rfl <| .cons rfl <| .cons rfl <| .cons rfl <| .nil), ⟨by show y + 1 ≤ t.args.length; omega, hI1, hI2, by rw [hwk, if_neg (by omega)], by rw [if_neg (Nat.succ_ne_zero y)]; show (walkT x27 (ga, gb)).1.length + (walkT x27 (ga, gb)).2.length + 2 * cntTs (t.args.drop (y + 1)) + 0 ≤ _; omega⟩⟩⟩
    · try simp only [nq1, nq2, nq3, nq4, nq5, nq6, nq7, nq8, nq9, u8_eq] at hb20
      have hge : y = t.args.length := by omega
      rw [List.drop_of_length_le (by omega), walkTs] at hwk
      refine wp_exit ?_
      refine hK20 _ _ ?_; clear hK20
      refine seq_any fun _ hK32 => ?_
      refine rp0 hst5 hfr5 (.cons rfl (ob_move rfl) <| .cons rfl (ob_move rfl) <| .cons rfl (ob_assign rfl) <| .cons rfl (ob_assign rfl) <| .nil) ?_
      intro a6 w6 m6 hst6 hle6 hk6
      have hfr6 := hk6.fr (T' := [(1, _), (2, _), (8, _), (6, _), (7, _)]) (.old rfl rfl <| .old rfl rfl <| .old rfl rfl <| .new rfl <| .new rfl <| .nil)
      replace hsl_ga := hsl_ga.mono hle6
      replace hsl_gb := hsl_gb.mono hle6
      have hlh6 := hlh5.trans hle6
      clear hst5 hfr5 hk6
      refine hK32 _ _ ?_; clear hK32
      refine wp_ret ?_
      repeat (with_reducible first | refine then_ret ?_ | refine block_ret ?_)
      exact fn_ret hst6 hfr6 rfl (.tmp rfl <| .tmp rfl <| .nil) (⟨((gao, gap), (gbo, gbp)), by rw [hwk]; rfl, by rw [hwk]; exact ⟨hsl_ga, hsl_gb⟩⟩)
theorem varsR_c (t : Ty) : varsR_G t := Ty.rec_ (p := varsR_G) (fun t ih => varsR_s ih) t

set_option maxHeartbeats 400000 in
theorem vars0R_c {w : World} {m : Mem} {t : Ty} {vs_t : List Value} (hA : Agree w m) (h_t : TyR m t vs_t) (hbig : 2 * cntT t ≤ 1073741824) : FnV Try.prog 17 #[.agg vs_t.toArray] w m (fun _ m v => (MP.two (walkT t ([], [])).1 (walkT t ([], [])).2).p m v) := by
  obtain ⟨o_t, c_t, oL_t, cL_t, rfl, hk_t, hs_t, hi_t, hj_t, hr_t⟩ := h_t.open_
  have hbg_t := hk_t.big; have hcp_t := hk_t.cap; have hbs_t := hs_t.big; have hcs_t := hs_t.cap
  have hrw_t : RwR _ ⟨t.labels, t.rv⟩ _ := ⟨_, _, rfl, hs_t, hr_t⟩
  refine fn_enter (vs := [_]) Try.func17 rfl rfl rfl fun a0 hfr0 => ?_
  have hst0 := st_enter hA (loc_nil [] _ w m)
  have hM : MLe m m := MLe.refl m
  refine seq_any fun _ hK1 => ?_
  refine rp0 hst0 hfr0 (.cons rfl (ob_box rfl rfl) <| .cons rfl (ob_assign rfl) <| .cons rfl (ob_assign rfl) <| .nil) ?_
  intro a1 w1 m1 hst1 hle1 hk1
  have hfr1 := hk1.fr (T' := []) (.nil)
  obtain ⟨g2, e2, hc1⟩ := hk1.ex 1 rfl
  replace hfr1 := hfr1.cons e2
  replace h_t := h_t.mono hle1
  clear hst0 hfr0 hk1
  refine hK1 _ _ ?_; clear hK1
  refine seq_any fun _ hK3 => ?_
  refine ra0 (tch := []) hst1 hfr1 (.cons rfl (ob_loadS' rfl hc1 Try.isAgg28 Try.sizeOf28 rfl rfl) <| .cons rfl (ob_call (φ := MP.two (walkT t ([], [])).1 (walkT t ([], [])).2) rfl (.cons rfl <| .cons rfl <| .cons rfl <| .nil) Try.call33 (fun w m hK => by have hle_ := KC.le hK; have hA := KC.agree hK; have h_t := h_t.mono hle_; exact FnG.mono (varsR_c t (a := []) (b := []) hA h_t Sl.empty Sl.empty (by simpa using hbig)) fun _ _ _ _ h => h)) <| .cons rfl (ob_imgV 5 rfl rfl rfl fun y5 => ob_extract rfl rfl) <| .cons rfl (ob_imgV 5 rfl rfl rfl fun y5 => ob_extract rfl rfl) <| .consA 6 rfl rfl <| .consA 7 rfl rfl <| .nil) ?_
  intro a2 w2 m2 hst2 hle2 hk2
  have hfr2 := hk2.fr (T' := []) (.nil)
  obtain ⟨⟨⟨o1, c1⟩, q1⟩, e4, hI1, _⟩ := hk2.ex 6 rfl
  obtain ⟨⟨q2, o2, c2⟩, e5, _, hI2⟩ := hk2.ex 7 rfl
  replace hfr2 := hfr2.cons (hk2.same 2 rfl e4)
  replace hfr2 := hfr2.cons (hk2.same 3 rfl e5)
  clear hst1 hfr1 hk2
  refine hK3 _ _ ?_; clear hK3
  refine wp_ret ?_
  repeat (with_reducible first | refine then_ret ?_ | refine block_ret ?_)
  exact fn_ret hst2 hfr2 rfl (.tmp rfl <| .tmp rfl <| .nil) (⟨((o1, c1), (o2, c2)), rfl, hI1, hI2⟩)

/-- How many nodes a type has, as an int counts them. -/
def cntW (t : Ty) : Int := IntKind.i64.wrap (cntT t : Int)
theorem wrap_wrap (x : Int) : IntKind.i64.wrap (IntKind.i64.wrap x) = IntKind.i64.wrap x := by simp only [IntKind.wrap_i64]; omega
theorem wrap_step {a : Int} {x : Ty} {k : Nat} {r : Int} (h : IntKind.i64.wrap (a + ((cntT x + k : Nat) : Int)) = r) : IntKind.i64.wrap (IntKind.i64.wrap (a + cntW x) + (k : Int)) = r := by
  rw [← h]; unfold cntW; simp only [IntKind.wrap_i64]; omega
abbrev count_G (t : Ty) : Prop := ∀ {w : World} {m : Mem} {vs_t : List Value} (hA : Agree w m) (h_t : TyR m t vs_t), FnV Try.prog 8 #[.agg vs_t.toArray] w m (fun _ _ v => v = .int .i64 (cntW t))
set_option maxHeartbeats 400000 in
theorem count_s {t : Ty} (ih : ∀ u ∈ t.args, count_G u) {w : World} {m : Mem} {vs_t : List Value} (hA : Agree w m) (h_t : TyR m t vs_t) : FnV Try.prog 8 #[.agg vs_t.toArray] w m (fun _ _ v => v = .int .i64 (cntW t)) := by
  obtain ⟨o_t, c_t, oL_t, cL_t, rfl, hk_t, hs_t, hi_t, hj_t, hr_t⟩ := h_t.open_
  have hbg_t := hk_t.big; have hcp_t := hk_t.cap; have hbs_t := hs_t.big; have hcs_t := hs_t.cap
  have hrw_t : RwR _ ⟨t.labels, t.rv⟩ _ := ⟨_, _, rfl, hs_t, hr_t⟩
  refine fn_enter (vs := [_]) Try.func8 rfl rfl rfl fun a0 hfr0 => ?_
  have hst0 := st_enter hA (loc_nil [] _ w m)
  have hM : MLe m m := MLe.refl m
  have hce := cntT_eq t
  have hbk := fun u (hu : u ∈ t.args) => cntTs_mem hu
  refine seq_any fun _ hK1 => ?_
  refine rp0 hst0 hfr0 (.cons rfl (ob_box rfl rfl) <| .cons rfl (ob_assign rfl) <| .nil) ?_
  intro a1 w1 m1 hst1 hle1 hk1
  have hfr1 := hk1.fr (T' := []) (.nil)
  obtain ⟨g2, e2, hc1⟩ := hk1.ex 1 rfl
  replace hfr1 := hfr1.cons e2
  replace h_t := h_t.mono hle1
  replace hk_t := hk_t.mono hle1
  replace hs_t := hs_t.mono hle1
  replace hrw_t := hrw_t.mono hle1
  clear hst0 hfr0 hk1
  refine hK1 _ _ ?_; clear hK1
  refine seq_any fun _ hK3 => ?_
  refine rp0 hst1 hfr1 (.cons rfl (ob_assign rfl) <| .nil) ?_
  intro a2 w2 m2 hst2 hle2 hk2
  have hfr2 := hk2.fr (T' := [(1, _), (3, _)]) (.old rfl rfl <| .new rfl <| .nil)
  replace h_t := h_t.mono hle2
  replace hk_t := hk_t.mono hle2
  replace hs_t := hs_t.mono hle2
  replace hrw_t := hrw_t.mono hle2
  replace hc1 := hc1.mono hle2
  clear hst1 hfr1 hk2
  refine hK3 _ _ ?_; clear hK3
  refine seq_any fun _ hK4 => ?_
  refine seq_any fun _ hK5 => ?_
  refine rp0 hst2 hfr2 (.cons rfl (ob_assign rfl) <| .nil) ?_
  intro a3 w3 m3 hst3 hle3 hk3
  have hfr3 := hk3.fr (T' := [(1, _), (3, _), (4, _)]) (.old rfl rfl <| .old rfl rfl <| .new rfl <| .nil)
  replace h_t := h_t.mono hle3
  replace hk_t := hk_t.mono hle3
  replace hs_t := hs_t.mono hle3
  replace hrw_t := hrw_t.mono hle3
  replace hc1 := hc1.mono hle3
  clear hst2 hfr2 hk3
  refine hK5 _ _ ?_; clear hK5
  refine wp_block ?_
  refine loop_any (T := [(1, _)]) (fun (y : Nat × Int) => ([(3, .int .i64 y.2), (4, .int .i64 (y.1 : Int))] : List (Nat × Value))) (fun _ => _) (fun (y : Nat × Int) m => (fun (y : Nat) (a : Int) => (y ≤ t.args.length) ∧ (IntKind.i64.wrap (a + (cntTs (t.args.drop y) : Int)) = cntW t) ∧ (IntKind.i64.wrap a = a)) y.1 y.2) (fun y => t.args.length - y.1) ((0, 1)) ⟨hst3, MLe.refl _, hfr3.sub (.cons rfl <| .cons rfl <| .cons rfl <| .nil), ⟨Nat.zero_le _, by rw [List.drop_zero]; unfold cntW; congr 1; omega, by decide⟩⟩ fun y a4 w4 m4 hh4 => ?_
  have hst4 := hh4.st; have hle4 := hh4.le; have hfr4 := hh4.fr; have hrel := hh4.rel; clear hh4
  replace h_t := h_t.mono hle4
  replace hk_t := hk_t.mono hle4
  replace hs_t := hs_t.mono hle4
  replace hrw_t := hrw_t.mono hle4
  replace hc1 := hc1.mono hle4
  clear hst3 hfr3
  obtain ⟨y, a⟩ := y
  dsimp only at hrel hfr4 hst4
  obtain ⟨hyn, ha, ha0⟩ := hrel
  have hlh4 := hle4
  refine seq_any fun _ hK7 => ?_
  refine seq_any fun _ hK8 => ?_
  refine rp0 hst4 hfr4 (.cons rfl (ob_move rfl) <| .cons rfl (ob_fieldAddrO (off := 3) rfl Try.underlying28 rfl rfl Try.sizeOf23 rfl) <| .cons rfl (ob_load1 rfl hc1 Try.isAgg23 rfl) <| .cons rfl (ob_len rfl Try.underlying23) <| .cons rfl (ob_lss rfl rfl) <| .nil) ?_
  intro a5 w5 m5 hst5 hle5 hk5
  have hfr5 := hk5.fr (T' := [(3, _), (4, _), (1, _), (9, _)]) (.old rfl rfl <| .old rfl rfl <| .old rfl rfl <| .new rfl <| .nil)
  replace h_t := h_t.mono hle5
  replace hk_t := hk_t.mono hle5
  replace hs_t := hs_t.mono hle5
  replace hrw_t := hrw_t.mono hle5
  replace hc1 := hc1.mono hle5
  have hlh5 := hlh4.trans hle5
  clear hst4 hfr4 hk5
  refine hK8 _ _ ?_; clear hK8
  refine cond_any hfr5 rfl rfl (fun hb9 => ?_) (fun hb9 => ?_)
  · try simp only [nq1, nq2, nq3, nq4, nq5, nq6, nq7, nq8, nq9, u8_eq] at hb9
    refine wp_skip ?_
    refine hK7 _ _ ?_; clear hK7
    refine seq_any fun _ hK9 => ?_
    refine wp_block ?_
    obtain ⟨p10, vs10, x10, ho10, hd10, hm_x10, ht10, hcv10, hl10, hv10⟩ := hk_t.nth (k := y) (by omega)
    cases ho10
    obtain ⟨o10, c10, oL10, cL10, rfl, hkd10, hs10, hi10, hj10, hr10⟩ := hv10.open_
    have hbg10 := hkd10.big; have hcp10 := hkd10.cap; have hbs10 := hs10.big; have hcs10 := hs10.cap
    have hrw10 : RwR _ ⟨x10.labels, x10.rv⟩ _ := ⟨_, _, rfl, hs10, hr10⟩
    have hbx10 := hbk _ hm_x10
    refine rp0 hst5 hfr5 (.cons rfl (ob_move rfl) <| .cons rfl (ob_fieldAddrO (off := 3) rfl Try.underlying28 rfl rfl Try.sizeOf23 rfl) <| .cons rfl (ob_load1 rfl hc1 Try.isAgg23 rfl) <| .cons rfl (ob_move rfl) <| .cons rfl (ob_indexAddr (k := y) rfl rfl Try.underlying23 Try.sizeOf28 rfl (by omega)) <| .cons rfl (ob_loadS' rfl hcv10 Try.isAgg28 Try.sizeOf28 rfl rfl) <| .cons rfl (ob_callE rfl (.cons rfl <| .nil) Try.call8 (fun w m hK => by have hle_ := KC.le hK; have hA := KC.agree hK; have h_t := h_t.mono hle_; have hk_t := hk_t.mono hle_; have hs_t := hs_t.mono hle_; have hrw_t := hrw_t.mono hle_; have hc1 := hc1.mono hle_; have hcv10 := hcv10.mono hle_; have hv10 := hv10.mono hle_; have hkd10 := hkd10.mono hle_; have hs10 := hs10.mono hle_; have hrw10 := hrw10.mono hle_; exact ih _ (by assumption) hA (by assumption) )) <| .cons rfl (ob_addW rfl rfl) <| .cons rfl (ob_assign rfl) <| .nil) ?_
    intro a6 w6 m6 hst6 hle6 hk6
    have hfr6 := hk6.fr (T' := [(4, _), (1, _), (3, _)]) (.old rfl rfl <| .old rfl rfl <| .new rfl <| .nil)
    have hlh6 := hlh5.trans hle6
    clear hst5 hfr5 hk6
    refine hK9 _ _ ?_; clear hK9
    refine rp0 hst6 hfr6 (.cons rfl (ob_move rfl) <| .cons rfl (ob_add rfl rfl ⟨by omega, by omega⟩) <| .cons rfl (ob_assign rfl) <| .nil) ?_
    intro a7 w7 m7 hst7 hle7 hk7
    have hfr7 := hk7.fr (T' := [(1, _), (3, _), (4, _)]) (.old rfl rfl <| .old rfl rfl <| .new rfl <| .nil)
    have hlh7 := hlh6.trans hle7
    clear hst6 hfr6 hk7
    exact ⟨(y + 1, (IntKind.i64.wrap (a + cntW x10))), m7, by show t.args.length - (y + 1) < t.args.length - y; omega, ⟨hst7, hlh7, hfr7.sub (.cons rfl <| .cons rfl <| .cons rfl <| .nil), ⟨by show y + 1 ≤ t.args.length; omega, by rw [hd10, cntTs] at ha; exact wrap_step ha, wrap_wrap _⟩⟩⟩
  · try simp only [nq1, nq2, nq3, nq4, nq5, nq6, nq7, nq8, nq9, u8_eq] at hb9
    have hge : y = t.args.length := by omega
    rw [List.drop_of_length_le (by omega), cntTs, Int.natCast_zero, Int.add_zero, ha0] at ha
    refine wp_exit ?_
    refine hK4 _ _ ?_; clear hK4
    refine seq_any fun _ hK11 => ?_
    refine rp0 hst5 hfr5 (.cons rfl (ob_move rfl) <| .cons rfl (ob_assign rfl) <| .nil) ?_
    intro a6 w6 m6 hst6 hle6 hk6
    have hfr6 := hk6.fr (T' := [(3, _), (4, _), (2, _)]) (.old rfl rfl <| .old rfl rfl <| .new rfl <| .nil)
    have hlh6 := hlh5.trans hle6
    clear hst5 hfr5 hk6
    refine hK11 _ _ ?_; clear hK11
    refine wp_ret ?_
    repeat (with_reducible first | refine then_ret ?_ | refine block_ret ?_)
    exact fn_ret hst6 hfr6 rfl (.tmp rfl <| .nil) (by refine congrArg (Value.int _) ?_; exact ha)
theorem count_c (t : Ty) : count_G t := Ty.rec_ (p := count_G) (fun t ih => count_s ih) t

end Go.Proofs.Ytfphefkfbhjfdaa
