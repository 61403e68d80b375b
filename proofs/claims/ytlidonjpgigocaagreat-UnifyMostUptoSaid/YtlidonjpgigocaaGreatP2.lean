/-
  'brocadelaw07': what the laws say, in plain words. Conditions: those of each theorem.
-/
import Derived.Test.YtlidonjpgigocaaGreatP1
namespace Go.Proofs.YtlidonjpgigocaaGreat
set_option linter.all false
set_option maxRecDepth 4000
open Go.RowKit
theorem allV_all {P Q : Int → Prop} {t : Ty} (h : AllV P Q t) : (∀ v ∈ (walkT t ([], [])).1, P v) ∧ ∀ v ∈ (walkT t ([], [])).2, Q v := walk_allV t h _ ⟨fun _ hx => (by cases hx), fun _ hx => (by cases hx)⟩
theorem apply_free {s : Sub} {t : Ty} (hr : rightT t = true) (h : AllV (fun v => alook v s.ts = none) (fun v => alook v s.rs = none) t) : applyT s t = t := apply_closed s t hr (allV_all h).1 (allV_all h).2
theorem AllV.and {P Q P' Q' : Int → Prop} (t : Ty) : AllV P Q t → AllV P' Q' t → AllV (fun v => P v ∧ P' v) (fun v => Q v ∧ Q' v) t := by
  induction t using Ty.rec_ with
  | h t ih =>
    intro h k
    obtain ⟨h1, h2, h3⟩ := h.here; obtain ⟨k1, k2, k3⟩ := k.here
    exact .mk (fun e => ⟨h1 e, k1 e⟩) (fun e f => ⟨h2 e f, k2 e f⟩) fun u hu => ih u hu (h3 u hu) (k3 u hu)
theorem apply_args {s : Sub} {t : Ty} (h7 : ¬ t.kind = 7) : (applyT s t).kind = t.kind ∧ (applyT s t).name = t.name ∧ (applyT s t).var = t.var ∧ (applyT s t).args = applyTs s t.args ∧ (t.kind = 5 → (applyT s t).labels = (applyR s ⟨t.labels, t.rv⟩).labels ∧ (applyT s t).rv = (applyR s ⟨t.labels, t.rv⟩).var) ∧ (t.kind ≠ 5 → (applyT s t).labels = t.labels ∧ (applyT s t).rv = t.rv) := by
  rw [applyT_not h7]
  refine ⟨rfl, rfl, rfl, rfl, fun h5 => ?_, fun h5 => ?_⟩
  · exact ⟨if_pos h5, if_pos h5⟩
  · exact ⟨if_neg h5, if_neg h5⟩
theorem applyTs_map (s : Sub) : ∀ l : List Ty, applyTs s l = l.map (applyT s)
  | [] => rfl
  | t :: l => by rw [applyTs, List.map_cons, applyTs_map s l]
/-- Where a type's variables are when something is put in their stead. -/
theorem allV_apply {s : Sub} {P Q P' Q' : Int → Prop} (h1 : ∀ v, P v → alook v s.ts = none → P' v) (h2 : ∀ v x, P v → alook v s.ts = some x → AllV P' Q' x) (h3 : ∀ v, Q v → alook v s.rs = none → Q' v) (h4 : ∀ v r, Q v → alook v s.rs = some r → 0 < r.var → Q' r.var) (t : Ty) :
    rightT t = true → AllV P Q t → AllV P' Q' (applyT s t) := by
  induction t using Ty.rec_ with
  | h t ih =>
    intro hr h
    obtain ⟨a1, a2, a3⟩ := h.here
    by_cases h7 : t.kind = 7
    · rw [applyT_var h7]
      cases hl : alook t.var s.ts with
      | none =>
        rw [right_var hr h7]
        exact .mk (fun _ => h1 _ (a1 h7) hl) (fun e => absurd (show (7 : Int) = 5 from e) (by decide)) fun u hu => (by cases hu)
      | some x => exact h2 _ _ (a1 h7) hl
    · obtain ⟨e1, e2, e3, e4, e5, e6⟩ := apply_args (s := s) h7
      refine .mk (fun e => absurd (e1 ▸ e) h7) (fun e e0 => ?_) fun u hu => ?_
      · rw [e1] at e
        rw [(e5 e).2] at e0 ⊢
        rw [applyR_eq] at e0 ⊢
        dsimp only at e0 ⊢
        by_cases hz : t.rv = 0
        · rw [hz, Rv_zero] at e0; exact absurd e0 (by simp)
        · have hp : 0 < t.rv := by have := (rowOk_sort (right_fun_row hr e).1).2; omega
          cases hl : alook t.rv s.rs with
          | none => rw [Rv_none hl]; exact h3 _ (a2 e hp) hl
          | some r => rw [Rv_some hl hz] at e0 ⊢; exact h4 _ _ (a2 e hp) hl e0
      · rw [e4, applyTs_map] at hu
        obtain ⟨x, hx, rfl⟩ := List.mem_map.1 hu
        exact ih x hx (right_arg hr hx) (a3 x hx)
theorem filter_le {α : Type} {p q : α → Bool} : ∀ {l : List α}, (∀ v ∈ l, q v = true → p v = true) → (l.filter q).length ≤ (l.filter p).length
  | [], _ => Nat.le_refl _
  | a :: l, h => by
    have ih := filter_le (l := l) fun v hv => h v (.tail _ hv)
    have h0 := h a (.head _)
    simp only [List.filter_cons]
    by_cases hq : q a = true
    · rw [if_pos hq, if_pos (h0 hq)]; simpa using ih
    · rw [if_neg hq]; split
      · simp only [List.length_cons]; omega
      · exact ih
theorem filter_lt {α : Type} {p q : α → Bool} {u : α} : ∀ {l : List α}, (∀ v ∈ l, q v = true → p v = true) → u ∈ l → p u = true → q u = false → (l.filter q).length + 1 ≤ (l.filter p).length
  | [], _, hu, _, _ => by cases hu
  | a :: l, h, hu, h1, h2 => by
    simp only [List.filter_cons]
    rcases List.mem_cons.1 hu with rfl | hu
    · rw [if_neg (by simp [h2]), if_pos h1]; simp only [List.length_cons]; have := filter_le (l := l) fun v hv => h v (.tail _ hv); omega
    · have ih := filter_lt (l := l) (fun v hv => h v (.tail _ hv)) hu h1 h2
      have h0 := h a (.head _)
      by_cases hq : q a = true
      · rw [if_pos hq, if_pos (h0 hq)]; simp only [List.length_cons]; omega
      · rw [if_neg hq]; split
        · simp only [List.length_cons]; omega
        · exact ih
theorem filter_lt2 {α : Type} {p q : α → Bool} {u v : α} (huv : u ≠ v) {l : List α} (h : ∀ x ∈ l, q x = true → p x = true) (hu : u ∈ l) (hv : v ∈ l) (pu : p u = true) (pv : p v = true) (qu : q u = false) (qv : q v = false) : (l.filter q).length + 2 ≤ (l.filter p).length := by
  induction l with
  | nil => cases hu
  | cons a l ih =>
    have hl : ∀ x ∈ l, q x = true → p x = true := fun x hx => h x (.tail _ hx)
    have h0 := h a (.head _)
    simp only [List.filter_cons]
    rcases List.mem_cons.1 hu with rfl | hu9
    · have hv' : v ∈ l := by rcases List.mem_cons.1 hv with e | h; exact absurd e.symm huv; exact h
      rw [if_neg (by simp [qu]), if_pos pu]; simp only [List.length_cons]; have := filter_lt hl hv' pv qv; omega
    · rcases List.mem_cons.1 hv with rfl | hv9
      · rw [if_neg (by simp [qv]), if_pos pv]; simp only [List.length_cons]; have := filter_lt hl hu9 pu qu; omega
      · have ih := ih hl hu9 hv9
        by_cases hq : q a = true
        · rw [if_pos hq, if_pos (h0 hq)]; simp only [List.length_cons]; omega
        · rw [if_neg hq]; split
          · simp only [List.length_cons]; omega
          · exact ih
/-- What stands of a state of unify: tv, rv are the variables that there are, w is how wide things are. -/
structure UInv (tv rv : List Int) (w : Nat) (U : USt) : Prop where
  ap : Apart U.s
  tk : ∀ n x, alook n U.s.ts = some x → n ∈ tv ∧ rightT x = true ∧ largeT x = false ∧ wdT x ≤ w ∧ AllV (fun v => v ∈ tv ∧ alook v U.s.ts = none) (fun v => v ∈ rv ∧ alook v U.s.rs = none) x
  rk : ∀ n r, alook n U.s.rs = some r → n ∈ rv ∧ rowOk r.labels r.var = true ∧ r.labels.length ≤ w ∧ (0 < r.var → r.var ∈ rv ∧ alook r.var U.s.rs = none)
  tp : ∀ n ∈ tv, 1 ≤ n ∧ n ≤ 1000000
  rp : ∀ n ∈ rv, 1 ≤ n ∧ n < U.nx
  w2 : 2 ≤ w
theorem UInv.ok {tv rv : List Int} {w : Nat} {U : USt} (h : UInv tv rv w U) : SubOk U.s := ⟨fun n t e => ⟨(h.tp n (h.tk n t e).1).1, (h.tk n t e).2.1⟩, fun n r e => ⟨(h.rp n (h.rk n r e).1).1, (h.rk n r e).2.1⟩⟩
theorem applyR_nil {s : Sub} {n : Int} {r : Rw} (h : alook n s.rs = some r) (h0 : n ≠ 0) (hr : rowOk r.labels r.var = true) : applyR s ⟨[], n⟩ = r := by
  rw [applyR_eq, Rv_some h h0]; simp only [List.nil_append, (rowOk_sort hr).1]
theorem UInv.self {tv rv : List Int} {w : Nat} {U : USt} (h : UInv tv rv w U) : Abs U.s U.s := by
  refine ⟨fun n x e => ?_, fun n r e h0 => ?_⟩
  · obtain ⟨_, hr, _, _, ha⟩ := h.tk n x e
    rw [apply_free hr (ha.mono (fun _ q => q.2) (fun _ q => q.2)), applyT_var (t := varT n) rfl, show (varT n).var = n from rfl, e]; rfl
  · obtain ⟨_, hr, _, hv⟩ := h.rk n r e
    rw [applyR_nil e h0 hr, applyR_out, (rowOk_sort hr).1]
    by_cases hz : r.var = 0
    · exact .inr hz
    · left; rw [(hv (by have := (rowOk_sort hr).2; omega)).2]; rfl
theorem right_and {s : Sub} (h : SubOk s) {t : Ty} (ht : rightT t = true) : rightT (applyT s t) = true := right_apply (fun n x e => (h.ts n x e).2) (fun n x e => (h.rs n x e).2) t ht
/-- How many variables are left. -/
def tlive (tv : List Int) (U : USt) : Nat := (tv.filter fun v => (alook v U.s.ts).isNone).length
def rlive (rv : List Int) (U : USt) : Nat := (rv.filter fun v => (alook v U.s.rs).isNone).length
/-- In scope. -/
abbrev Sc (tv rv : List Int) (t : Ty) : Prop := AllV (· ∈ tv) (· ∈ rv) t
theorem UInv.sc {tv rv : List Int} {w : Nat} {U : USt} (h : UInv tv rv w U) {t : Ty} (hr : rightT t = true) (ht : Sc tv rv t) : AllV (fun v => v ∈ tv ∧ alook v U.s.ts = none) (fun v => v ∈ rv ∧ alook v U.s.rs = none) (applyT U.s t) :=
  allV_apply (fun v a b => ⟨a, b⟩) (fun v x _ e => (h.tk v x e).2.2.2.2) (fun v a b => ⟨a, b⟩) (fun v r _ e p => (h.rk v r e).2.2.2 p) t hr ht
/-- A step that may be taken: new things are said of variables that are left. -/
structure StepOk (tv rv : List Int) (w : Nat) (U : USt) (one : Sub) : Prop where
  ap : Apart one
  tk : ∀ n x, alook n one.ts = some x → n ∈ tv ∧ alook n U.s.ts = none ∧ rightT x = true ∧ largeT x = false ∧ wdT x ≤ w ∧ AllV (fun v => v ∈ tv ∧ alook v U.s.ts = none ∧ alook v one.ts = none) (fun v => v ∈ rv ∧ alook v U.s.rs = none ∧ alook v one.rs = none) x
  rk : ∀ n r, alook n one.rs = some r → n ∈ rv ∧ alook n U.s.rs = none ∧ rowOk r.labels r.var = true ∧ r.labels.length ≤ w ∧ (0 < r.var → r.var ∈ rv ∧ alook r.var U.s.rs = none ∧ alook r.var one.rs = none)
theorem over_none {α : Type} {f : α → α} {l b o : List (Int × α)} (h : Over f l b o) {v : Int} : alook v o = none ↔ alook v l = none ∧ alook v b = none := by
  rw [h v]
  cases alook v l with
  | none => simp
  | some x => simp
theorem over_some {α : Type} {f : α → α} {l b o : List (Int × α)} (h : Over f l b o) {v : Int} {x : α} (e : alook v o = some x) : (∃ y, alook v l = some y ∧ x = f y) ∨ (alook v l = none ∧ alook v b = some x) := by
  rw [h v] at e
  cases hl : alook v l with
  | none => rw [hl] at e; exact .inr ⟨rfl, by simpa using e⟩
  | some y => rw [hl] at e; exact .inl ⟨y, rfl, by simpa using e.symm⟩
theorem UInv.step {tv rv : List Int} {w w' : Nat} {U : USt} {one : Sub} {V : USt} (h : UInv tv rv w U) (hs : StepOk tv rv w U one) (hV : ThenS U.s one V.s) (hap : Apart V.s) (hw : w ≤ w') (hnx : U.nx ≤ V.nx)
    (hl : ∀ n x, alook n U.s.ts = some x → largeT (applyT one x) = false) (hwt : ∀ n x, alook n U.s.ts = some x → wdT (applyT one x) ≤ w') (hwr : ∀ n r, alook n U.s.rs = some r → (applyR one r).labels.length ≤ w') : UInv tv rv w' V := by
  have hok : SubOk one := ⟨fun n t e => ⟨(h.tp n (hs.tk n t e).1).1, (hs.tk n t e).2.2.1⟩, fun n r e => ⟨(h.rp n (hs.rk n r e).1).1, (hs.rk n r e).2.2.1⟩⟩
  refine ⟨hap, fun n x e => ?_, fun n r e => ?_, h.tp, fun n hn => ⟨(h.rp n hn).1, by have := (h.rp n hn).2; omega⟩, Nat.le_trans h.w2 hw⟩
  · rcases over_some hV.1 e with ⟨y, hy, rfl⟩ | ⟨h0, hy⟩
    · obtain ⟨a1, a2, a3, a4, a5⟩ := h.tk n y hy
      refine ⟨a1, right_and hok a2, hl n y hy, hwt n y hy, ?_⟩
      refine allV_apply (fun v a b => ⟨a.1, (over_none hV.1).2 ⟨a.2, b⟩⟩) (fun v x _ e => ?_) (fun v a b => ⟨a.1, (over_none hV.2).2 ⟨a.2, b⟩⟩) (fun v r _ e p => ?_) y a2 a5
      · exact (hs.tk v x e).2.2.2.2.2.mono (fun v q => ⟨q.1, (over_none hV.1).2 q.2⟩) (fun v q => ⟨q.1, (over_none hV.2).2 q.2⟩)
      · have q := (hs.rk v r e).2.2.2.2 p
        exact ⟨q.1, (over_none hV.2).2 q.2⟩
    · obtain ⟨a1, a2, a3, a4, a5, a6⟩ := hs.tk n x hy
      exact ⟨a1, a3, a4, Nat.le_trans a5 hw, a6.mono (fun v q => ⟨q.1, (over_none hV.1).2 q.2⟩) (fun v q => ⟨q.1, (over_none hV.2).2 q.2⟩)⟩
  · rcases over_some hV.2 e with ⟨y, hy, rfl⟩ | ⟨h0, hy⟩
    · obtain ⟨a1, a2, a3, a4⟩ := h.rk n y hy
      refine ⟨a1, applyR_ok a2 (fun n x e => (hok.rs n x e).2), hwr n y hy, fun hp => ?_⟩
      rw [applyR_eq] at hp ⊢
      dsimp only at hp ⊢
      by_cases hz : y.var = 0
      · rw [hz, Rv_zero] at hp; exact absurd hp (by simp)
      · have hp' : 0 < y.var := by have := (rowOk_sort a2).2; omega
        cases hl : alook y.var one.rs with
        | none => rw [Rv_none hl]; exact ⟨(a4 hp').1, (over_none hV.2).2 ⟨(a4 hp').2, hl⟩⟩
        | some r =>
          rw [Rv_some hl hz] at hp ⊢
          have q := (hs.rk _ r hl).2.2.2.2 hp
          exact ⟨q.1, (over_none hV.2).2 q.2⟩
    · obtain ⟨a1, a2, a3, a4, a5⟩ := hs.rk n r hy
      exact ⟨a1, a3, Nat.le_trans a4 hw, fun p => ⟨(a5 p).1, (over_none hV.2).2 (a5 p).2⟩⟩
/-- What is behind a call of a state in which something stood. -/
structure UP (tv rv : List Int) (w : Nat) (U : USt) (rv' : List Int) (w' : Nat) (V : USt) : Prop where
  inv : UInv tv rv' w' V
  sub : ∀ v ∈ rv, v ∈ rv'
  ab : Abs V.s U.s
  wl : w ≤ w'
  bud : w' * 2 ^ rlive rv' V ≤ w * 2 ^ rlive rv U
  tl : tlive tv V ≤ tlive tv U
  cn : tlive tv V < tlive tv U ∨ ∀ t, cntT (applyT V.s t) = cntT (applyT U.s t)
  wd : ∀ t, rightT t = true → wdT (applyT U.s t) ≤ w → wdT (applyT V.s t) ≤ w'
  nx : U.nx ≤ V.nx ∧ V.nx + rlive rv' V ≤ U.nx + rlive rv U
theorem UP.refl {tv rv : List Int} {w : Nat} {U : USt} (h : UInv tv rv w U) : UP tv rv w U rv w U := ⟨h, fun _ h => h, h.self, Nat.le_refl _, Nat.le_refl _, Nat.le_refl _, .inr fun _ => rfl, fun _ _ h => h, ⟨Int.le_refl _, Int.le_refl _⟩⟩
theorem UP.trans {tv rv rv1 rv2 : List Int} {w w1 w2 : Nat} {U V W : USt} (hU : UInv tv rv w U) (h : UP tv rv w U rv1 w1 V) (k : UP tv rv1 w1 V rv2 w2 W) : UP tv rv w U rv2 w2 W :=
  ⟨k.inv, fun v hv => k.sub v (h.sub v hv), k.ab.trans h.ab hU.ok, Nat.le_trans h.wl k.wl, Nat.le_trans k.bud h.bud, Nat.le_trans k.tl h.tl, by
    rcases h.cn with h1 | h1
    · exact .inl (Nat.lt_of_le_of_lt k.tl h1)
    · rcases k.cn with k1 | k1
      · exact .inl (Nat.lt_of_lt_of_le k1 h.tl)
      · exact .inr fun t => (k1 t).trans (h1 t), fun t hr ht => k.wd t hr (h.wd t hr ht), ⟨Int.le_trans h.nx.1 k.nx.1, Int.le_trans k.nx.2 h.nx.2⟩⟩

end Go.Proofs.YtlidonjpgigocaaGreat
