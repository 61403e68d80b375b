/-
  Texts that the law rests on: P1, P2, P3, P4, P5, P6. Conditions: those of each theorem.
-/
import Derived.Test.YtlidonjpgigocaaGreatSqD
namespace Go.Proofs.YtlidonjpgigocaaGreat
set_option linter.all false
set_option maxRecDepth 4000
open Go.RowKit
theorem zDu : ∀ (k l : List Int) (x : Int), x ∈ l ∨ x ∈ k → x ∈ k.foldl ZC l
 | [], l, x, h => by simpa using h
 | y :: k, l, x, h => by
  rw [List.foldl_cons]
  refine zDu k _ x ?_
  have hw : y ∈ ZC l y ∧ ∀ z ∈ l, z ∈ ZC l y := by
   by_cases hy : y ∈ l
   ·rw [zCp hy]; exact ⟨hy, fun _ h => h⟩
   ·rw [zCu hy]; exact ⟨by simp, fun z hz => List.mem_append_left _ hz⟩
  rcases h with h | h
  ·exact .inl (hw.2 x h)
  ·rcases List.mem_cons.1 h with rfl | h
   ·exact .inl hw.1
   ·exact .inr h
theorem zEU (s l : List Int) (x : Int) : (ZC l x).foldl ZC s = ZC (l.foldl ZC s) x := by
 by_cases h : x ∈ l
 ·rw [zCp h, zCp (zDu l s x (.inr h))]
 ·rw [zCu h, List.foldl_append]; rfl
theorem zEK (s : List Int) : ∀ (k l : List Int), (k.foldl ZC l).foldl ZC s = k.foldl ZC (l.foldl ZC s)
 | [], _ => rfl
 | y :: k, l => by rw [List.foldl_cons, zEK s k, zEU]; rfl
def zCl (s r : List Int × List Int) : List Int × List Int := (r.1.foldl ZC s.1, r.2.foldl ZC s.2)
theorem zDg (s r q : List Int × List Int) : zCl s (zCl r q) = zCl (zCl s r) q := by
 unfold zCl; rw [zEK, zEK]
theorem walk_comb (t : Ty) : ∀ s, zi t s = zCl s (zi t ([], [])) := by
 induction t using Ty.rec_ with
 | h t ih =>
  have key : ∀ (l : List Ty), (∀ u ∈ l, u ∈ t.args) → ∀ (i : Nat) s, Zo t.kind t.rv i l s = zCl s (Zo t.kind t.rv i l ([], [])) := by
   intro l
   induction l with
   | nil => intro _ i s; rw [Zo, Zo]; rfl
   | cons x l ihl =>
    intro hl i s
    rw [Zq, Zq, ihl (fun u hu => hl u (.tail _ hu)), ihl (fun u hu => hl u (.tail _ hu)) (i + 1) (if i = 0 ∧ t.kind = 5 ∧ 0 < t.rv then _ else _), zDg]
    congr 1
    rw [ih x (hl x (.head _)) s]
    split
    ·unfold zCl; rw [zEU]
    ·rfl
  intro s
  rw [zBM, zBM t ([], []), key t.args (fun u hu => hu) 0 (if t.kind = 7 then (ZC s.1 t.var, s.2) else s), key t.args (fun u hu => hu) 0 (if t.kind = 7 then _ else _), zDg]
  congr 1
  split
  ·unfold zCl; rfl
  ·rfl
theorem zBY {s r : List Int × List Int} {x : Int} : (x ∈ s.1 ∨ x ∈ r.1 → x ∈ (zCl s r).1) ∧ (x ∈ s.2 ∨ x ∈ r.2 → x ∈ (zCl s r).2) := ⟨zDu _ _ _, zDu _ _ _⟩
theorem zBb (k rv : Int) : ∀ (i : Nat) (l : List Ty) s, Zo k rv i l s = zCl s (Zo k rv i l ([], []))
 | _, [], s => by rw [Zo, Zo]; rfl
 | i, x :: l, s => by
  rw [Zq, Zq, zBb k rv (i + 1) l, zBb k rv (i + 1) l (if i = 0 ∧ k = 5 ∧ 0 < rv then _ else _), zDg]
  congr 1
  rw [walk_comb x s]
  split
  ·unfold zCl; rw [zEU]
  ·rfl
theorem zGA (k rv : Int) : ∀ (i : Nat) (l : List Ty) (u : Ty), u ∈ l → ∀ x, (x ∈ (zi u ([], [])).1 → x ∈ (Zo k rv i l ([], [])).1) ∧ (x ∈ (zi u ([], [])).2 → x ∈ (Zo k rv i l ([], [])).2)
 | i, t :: l, u, hu, x => by
  rw [Zq, zBb]
  rcases List.mem_cons.1 hu with rfl | hu
  ·constructor
   ·intro h; refine zBY.1 (.inl ?_); split
    ·exact h
    ·exact h
   ·intro h; refine zBY.2 (.inl ?_); split
    ·dsimp only; unfold ZC; split
     ·exact h
     ·exact List.mem_append_left _ h
    ·exact h
  ·have := zGA k rv (i + 1) l u hu x
   exact ⟨fun h => zBY.1 (.inr (this.1 h)), fun h => zBY.2 (.inr (this.2 h))⟩
theorem zEm {t u : Ty} (hu : u ∈ t.args) (x : Int) : (x ∈ (zi u ([], [])).1 → x ∈ (zi t ([], [])).1) ∧ (x ∈ (zi u ([], [])).2 → x ∈ (zi t ([], [])).2) := by
 rw [zBM t, zBb]
 have := zGA t.kind t.rv 0 t.args u hu x
 exact ⟨fun h => zBY.1 (.inr (this.1 h)), fun h => zBY.2 (.inr (this.2 h))⟩
theorem walk_var {t : Ty} (h : t.kind = 7) : t.var ∈ (zi t ([], [])).1 := by
 rw [zBM t, zBb, if_pos h]
 refine zBY.1 (.inl ?_)
 show t.var ∈ ZC [] t.var
 unfold ZC; simp
theorem walk_row {t : Ty} (h : t.kind = 5) (h0 : 0 < t.rv) (ha : t.args ≠ []) : t.rv ∈ (zi t ([], [])).2 := by
 rw [zBM t, if_neg (by omega)]
 cases hl : t.args with
 | nil => exact absurd hl ha
 | cons x l =>
  rw [Zq, if_pos ⟨rfl, h, h0⟩, zBb]
  refine zBY.2 (.inl ?_)
  dsimp only; unfold ZC; split
  ·rename_i hc; simpa using hc
  ·simp
theorem zBK {t : Ty} (h : zz t = true) (h5 : t.kind = 5) : ZW t.labels t.rv = true ∧ t.args ≠ [] := by
 rw [zAN, hdT5 h5] at h
 simp only [Bool.and_eq_true, decide_eq_true_eq] at h
 exact ⟨h.1.1.1.2, fun e => by rw [e] at h; simp at h⟩
theorem Zw {t u : Ty} (h : zz t = true) (hu : u ∈ t.args) : zz u = true := by
 rw [zAN, Bool.and_eq_true] at h
 have key : ∀ l : List Ty, zAS l = true → ∀ u ∈ l, zz u = true := by
  intro l
  induction l with
  | nil => intro _ u hu; cases hu
  | cons x l ih =>
   intro hl u hu
   rw [zAS, Bool.and_eq_true] at hl
   rcases List.mem_cons.1 hu with rfl | hu
   ·exact hl.1
   ·exact ih hl.2 u hu
 exact key _ h.2 u hu
theorem zEv (s : Sub) (t : Ty) : zz t = true → (∀ v ∈ (zi t ([], [])).1, zP v s.ts = none) → (∀ v ∈ (zi t ([], [])).2, zP v s.rs = none) → zM s t = t := by
 induction t using Ty.rec_ with
 | h t ih =>
  intro hr h1 h2
  by_cases h7 : t.kind = 7
  ·rw [ZP h7, h1 _ (walk_var h7)]; rfl
  ·rw [Zb h7]
   have hk : zo s t.args = t.args := by
    have key : ∀ l : List Ty, (∀ u ∈ l, u ∈ t.args) → zo s l = l := by
     intro l
     induction l with
     | nil => intro _; rfl
     | cons x l ihl =>
      intro hl
      have hx := hl x (.head _)
      rw [zo, ih x hx (Zw hr hx) (fun v hv => h1 v ((zEm hx v).1 hv)) (fun v hv => h2 v ((zEm hx v).2 hv)), ihl fun u hu => hl u (.tail _ hu)]
    exact key _ fun u hu => hu
   rw [hk]
   by_cases h5 : t.kind = 5
   ·obtain ⟨hro, hne⟩ := zBK hr h5
    obtain ⟨hs, h0⟩ := ZU hro
    have e : zQ s ⟨t.labels, t.rv⟩ = ⟨t.labels, t.rv⟩ := by
     rw [Z3]
     ·dsimp only; rw [hs]
     ·by_cases hz : t.rv = 0
      ·exact .inr hz
      ·left; dsimp only; rw [h2 _ (walk_row h5 (by omega) hne)]; rfl
    rw [if_pos h5, if_pos h5, e]; exact (Ty.eta t).symm
   ·rw [if_neg h5, if_neg h5]; exact (Ty.eta t).symm
inductive AllV (P Q : Int → Prop) : Ty → Prop where
 | mk {t : Ty} (h1 : t.kind = 7 → P t.var) (h2 : t.kind = 5 → 0 < t.rv → Q t.rv) (h3 : ∀ u ∈ t.args, AllV P Q u) : AllV P Q t
theorem AllV.here {P Q : Int → Prop} {t : Ty} (h : AllV P Q t) : (t.kind = 7 → P t.var) ∧ (t.kind = 5 → 0 < t.rv → Q t.rv) ∧ ∀ u ∈ t.args, AllV P Q u := by cases h with | mk h1 h2 h3 => exact ⟨h1, h2, h3⟩
theorem AllV.mono {P Q P' Q' : Int → Prop} (hp : ∀ x, P x → P' x) (hq : ∀ x, Q x → Q' x) (t : Ty) : AllV P Q t → AllV P' Q' t := by
 induction t using Ty.rec_ with
 | h t ih =>
  intro h
  obtain ⟨h1, h2, h3⟩ := h.here
  exact .mk (fun e => hp _ (h1 e)) (fun e f => hq _ (h2 e f)) fun u hu => ih u hu (h3 u hu)
theorem withI_all {P : Int → Prop} {l : List Int} {n : Int} (h : ∀ x ∈ l, P x) (hn : P n) : ∀ x ∈ ZC l n, P x := fun x hx => by
 unfold ZC at hx; split at hx
 ·exact h x hx
 ·rcases List.mem_append.1 hx with hx | hx
  ·exact h x hx
  ·rw [List.mem_singleton] at hx; subst hx; exact hn
theorem walk_allV {P Q : Int → Prop} (t : Ty) : AllV P Q t → ∀ s : List Int × List Int, (∀ x ∈ s.1, P x) ∧ (∀ x ∈ s.2, Q x) → (∀ x ∈ (zi t s).1, P x) ∧ (∀ x ∈ (zi t s).2, Q x) := by
 induction t using Ty.rec_ with
 | h t ih =>
  intro h s hs
  obtain ⟨h1, h2, h3⟩ := h.here
  have key : ∀ (l : List Ty), (∀ u ∈ l, u ∈ t.args) → ∀ (i : Nat) (s : List Int × List Int), (∀ x ∈ s.1, P x) ∧ (∀ x ∈ s.2, Q x) → (∀ x ∈ (Zo t.kind t.rv i l s).1, P x) ∧ (∀ x ∈ (Zo t.kind t.rv i l s).2, Q x) := by
   intro l
   induction l with
   | nil => intro _ i s hs; rw [Zo]; exact hs
   | cons x l ihl =>
    intro hl i s hs
    rw [Zq]
    have hx := ih x (hl x (.head _)) (h3 x (hl x (.head _))) s hs
    refine ihl (fun u hu => hl u (.tail _ hu)) (i + 1) _ ?_
    split
    ·rename_i hc; exact ⟨hx.1, withI_all hx.2 (h2 hc.2.1 hc.2.2)⟩
    ·exact hx
  rw [zBM]
  refine key t.args (fun u hu => hu) 0 _ ?_
  split
  ·rename_i h7; exact ⟨withI_all hs.1 (h1 h7), hs.2⟩
  ·exact hs
theorem zFM (t : Ty) : zz t = true → AllV (· ∈ (Z1 t).1) (· ∈ (Z1 t).2) t := by
 induction t using Ty.rec_ with
 | h t ih =>
  intro hr
  refine .mk (fun h => walk_var h) (fun h h0 => walk_row h h0 (zBK hr h).2) fun u hu => ?_
  exact (ih u hu (Zw hr hu)).mono (fun x hx => (zEm hu x).1 hx) (fun x hx => (zEm hu x).2 hx)
theorem zGd {ls : List Str} (h : ([] : Str) ∉ ls) (rv : Int) (h0 : 0 ≤ rv) : ZW (ZT ls) rv = true := by
 unfold ZW
 rw [zBi, decide_eq_true h0]
 simpa [sortS_mem] using h
theorem zDl {ls : List Str} {rv : Int} (h : ZW ls rv = true) : ([] : Str) ∉ ls := by
 unfold ZW at h
 simp only [Bool.and_eq_true, Bool.not_eq_true'] at h
 intro hm; rw [List.contains_iff_mem.2 hm] at h; exact absurd h.2 (by simp)
theorem zCQ {s : Sub} {r : Rw} (h : ZW r.labels r.var = true) (hs : ∀ n x, zP n s.rs = some x → ZW x.labels x.var = true) : ZW (zQ s r).labels (zQ s r).var = true := by
 have h0 := (ZU h).2
 unfold zQ
 cases hq : zP r.var s.rs with
 | none => exact zGd (zDl h) _ h0
 | some x =>
  have hx := hs _ _ hq
  dsimp only; split
  ·exact zGd (zDl h) _ h0
  ·refine zGd (fun hm => ?_) _ (ZU hx).2
   rcases List.mem_append.1 hm with hm | hm
   ·exact zDl h hm
   ·exact zDl hx hm
theorem right_apply {s : Sub} (hT : ∀ n x, zP n s.ts = some x → zz x = true) (hR : ∀ n x, zP n s.rs = some x → ZW x.labels x.var = true) (t : Ty) : zz t = true → zz (zM s t) = true := by
 induction t using Ty.rec_ with
 | h t ih =>
  intro hr
  by_cases h7 : t.kind = 7
  ·rw [ZP h7]
   cases hq : zP t.var s.ts with
   | none => exact hr
   | some x => exact hT _ _ hq
  ·have hk : ∀ l : List Ty, (∀ u ∈ l, u ∈ t.args) → zAS (zo s l) = true := by
    intro l
    induction l with
    | nil => intro _; rfl
    | cons x l ihl =>
     intro hl
     rw [zo, zAS, ih x (hl x (.head _)) (Zw hr (hl x (.head _))), ihl fun u hu => hl u (.tail _ hu)]; rfl
   have hk := hk t.args fun u hu => hu
   have hh := hr
   rw [zAN, Bool.and_eq_true] at hh
   rw [zAN, Zb h7, Bool.and_eq_true]
   refine ⟨?_, hk⟩
   by_cases h5 : t.kind = 5
   ·have hro := (zBK hr h5).1
    have h1 := hh.1
    rw [hdT5 h5] at h1
    rw [hdT5 (by exact h5)]
    simp only [Bool.and_eq_true, decide_eq_true_eq] at h1 ⊢
    refine ⟨⟨⟨?_, ?_⟩, h1.1.2⟩, h1.2⟩
    ·show ((zo s t.args).length : Int) = 2; rw [zBZ]; exact h1.1.1.1
    ·show ZW (if t.kind = 5 then _ else _) (if t.kind = 5 then _ else _) = true
     rw [if_pos h5, if_pos h5]; exact zCQ hro hR
   ·have : hdT ⟨t.kind, t.name, t.var, zo s t.args, if t.kind = 5 then (zQ s ⟨t.labels, t.rv⟩).labels else t.labels, if t.kind = 5 then (zQ s ⟨t.labels, t.rv⟩).var else t.rv⟩ = hdT t := by
     rw [if_neg h5, if_neg h5]
     unfold hdT zCm
     simp only [Ty.kind, Ty.name, Ty.var, Ty.args, Ty.labels, Ty.rv, zBZ]
     rfl
    rw [this]; exact hh.1
theorem sort_app {a b c : List Str} (h : a.Perm b) : ZT (a ++ c) = ZT (b ++ c) := zBv (h.append_right c)
theorem zCr (a : List Str) : ZT (ZT a) = ZT a := zBv (Zm a)
theorem zFP {a b c : List Str} (h : b.Perm c) : ZT (a ++ b) = ZT (a ++ c) := zBv (h.append_left a)
theorem applyR_cat (b : Sub) (l : List Str) (x : Rw) : (⟨ZT (l ++ (zQ b x).labels), (zQ b x).var⟩ : Rw) = zQ b ⟨ZT (l ++ x.labels), x.var⟩ := by
 unfold zQ
 cases h : zP x.var b.rs with
 | none => dsimp only; rw [zCr, zFP (Zm _)]
 | some z =>
  dsimp only
  split
  ·dsimp only; rw [zCr, zFP (Zm _)]
  ·dsimp only; rw [zFP (Zm _), ← List.append_assoc, sort_app (Zm _)]
theorem zAy {a b o : Sub} (h : ThenS a b o) (r : Rw) : zQ o r = zQ b (zQ a r) := by
 have hk := h.2 r.var
 cases ha : zP r.var a.rs with
 | none =>
  rw [ha] at hk; simp at hk
  have e : zQ a r = ⟨ZT r.labels, r.var⟩ := by unfold zQ; rw [ha]
  rw [e]; unfold zQ; dsimp only; rw [hk]
  cases zP r.var b.rs with
  | none => dsimp only; rw [zCr]
  | some x =>
   dsimp only; split
   ·rw [zCr]
   ·rw [sort_app (Zm _)]
 | some x =>
  rw [ha] at hk; simp at hk
  by_cases h0 : r.var = 0
  ·rw [Z3 (.inr h0), Z3 (s := a) (.inr h0), Z3 (s := b) (r := ⟨ZT r.labels, r.var⟩) (.inr h0)]; dsimp only; rw [zCr]
  ·have e1 : zQ o r = ⟨ZT (r.labels ++ (zQ b x).labels), (zQ b x).var⟩ := by unfold zQ; rw [hk]; dsimp only; rw [if_neg h0]; rfl
   have e2 : zQ a r = ⟨ZT (r.labels ++ x.labels), x.var⟩ := by unfold zQ; rw [ha]; dsimp only; rw [if_neg h0]
   rw [e1, e2, applyR_cat]
theorem zBx {a b o : Sub} (h : ThenS a b o) (t : Ty) : zM o t = zM b (zM a t) := by
 induction t using Ty.rec_ with
 | h t ih =>
  by_cases h7 : t.kind = 7
  ·rw [ZP h7, ZP (s := a) h7, h.1 t.var]
   cases ha : zP t.var a.ts with
   | none => simp only [Option.map_none, Option.none_or, Option.getD_none]; rw [ZP h7]
   | some x => rfl
  ·have key : ∀ l : List Ty, (∀ u ∈ l, u ∈ t.args) → zo o l = zo b (zo a l) := by
    intro l
    induction l with
    | nil => intro _; rfl
    | cons x l ihl => intro hl; rw [zo, zo, zo, ih x (hl x (.head _)), ihl fun u hu => hl u (.tail _ hu)]
   have hr := zAy h ⟨t.labels, t.rv⟩
   have hk := key t.args fun u hu => hu
   rw [Zb h7, Zb (s := a) h7, Zb (s := b) (t := ⟨t.kind, t.name, t.var, _, _, _⟩) h7]
   show (⟨t.kind, t.name, t.var, zo o t.args, if t.kind = 5 then (zQ o ⟨t.labels, t.rv⟩).labels else t.labels, if t.kind = 5 then (zQ o ⟨t.labels, t.rv⟩).var else t.rv⟩ : Ty) = ⟨t.kind, t.name, t.var, zo b (zo a t.args), if t.kind = 5 then (zQ b ⟨if t.kind = 5 then (zQ a ⟨t.labels, t.rv⟩).labels else t.labels, if t.kind = 5 then (zQ a ⟨t.labels, t.rv⟩).var else t.rv⟩).labels else (if t.kind = 5 then (zQ a ⟨t.labels, t.rv⟩).labels else t.labels), if t.kind = 5 then (zQ b ⟨if t.kind = 5 then (zQ a ⟨t.labels, t.rv⟩).labels else t.labels, if t.kind = 5 then (zQ a ⟨t.labels, t.rv⟩).var else t.rv⟩).var else (if t.kind = 5 then (zQ a ⟨t.labels, t.rv⟩).var else t.rv)⟩
   rw [hk]
   by_cases h5 : t.kind = 5
   ·simp only [if_pos h5]; rw [hr]
   ·simp only [if_neg h5]
-- labels as they are counted
theorem zBU (x : Str) : ∀ a l : List Str, (ZR a l).count x = a.count x - l.count x
 | [], l => by simp [ZR]
 | s :: a, l => by
  by_cases h : s ∈ l
  ·rw [zEg h, zBU x a, List.count_erase, List.count_cons]
   by_cases e : s = x
   ·subst e
    have : 0 < l.count s := List.count_pos_iff.2 h
    simp; omega
   ·simp [e]
  ·rw [zDz h, List.count_cons, List.count_cons, zBU x a]
   by_cases e : s = x
   ·subst e
    have : l.count s = 0 := List.count_eq_zero.2 h
    simp; omega
   ·simp [e]
theorem sort_iff {l k : List Str} : ZT l = ZT k ↔ ∀ x, l.count x = k.count x := by
 rw [← List.perm_iff_count]
 exact ⟨fun h => (Zm l).symm.trans (h ▸ Zm k), zBv⟩
theorem zGh (l : List Str) (x : Str) : (ZT l).count x = l.count x := (Zm l).count_eq x
def Rv (s : Sub) (v : Int) : Rw := if v = 0 then ⟨[], 0⟩ else (zP v s.rs).getD ⟨[], v⟩
theorem zAd (s : Sub) (r : Rw) : zQ s r = ⟨ZT (r.labels ++ (Rv s r.var).labels), (Rv s r.var).var⟩ := by
 unfold zQ Rv
 cases h : zP r.var s.rs with
 | none => by_cases h0 : r.var = 0 <;> simp [h0]
 | some x => by_cases h0 : r.var = 0 <;> simp [h0]
theorem zAo {s t : Sub} {a b : Rw} : zQ s a = zQ t b ↔ (∀ x, a.labels.count x + (Rv s a.var).labels.count x = b.labels.count x + (Rv t b.var).labels.count x) ∧ (Rv s a.var).var = (Rv t b.var).var := by
 rw [zAd, zAd, Rw.mk.injEq, sort_iff]
 simp only [List.count_append]
theorem zDs (s : Sub) : Rv s 0 = ⟨[], 0⟩ := by unfold Rv; rw [if_pos rfl]
theorem zEi {s : Sub} {v : Int} (h : zP v s.rs = none) : Rv s v = ⟨[], v⟩ := by
 unfold Rv; split
 ·rename_i h0; rw [h0]
 ·rw [h]; rfl
theorem zDD {s : Sub} {v : Int} {r : Rw} (h : zP v s.rs = some r) (h0 : v ≠ 0) : Rv s v = r := by unfold Rv; rw [if_neg h0, h]; rfl
structure Abs (t a : Sub) : Prop where
 ts : ∀ n x, zP n a.ts = some x → zM t x = zM t (Zn n)
 rs : ∀ n r, zP n a.rs = some r → n ≠ 0 → zQ t r = zQ t ⟨[], n⟩
theorem zAm {t : Ty} (h : zz t = true) (h7 : t.kind = 7) : t = Zn t.var := by
 rw [zAN, hdT7 h7] at h
 simp only [Bool.and_eq_true, decide_eq_true_eq, zCm] at h
 obtain ⟨⟨⟨⟨h1, h2, h3⟩, h4⟩, _⟩, _⟩ := h
 obtain ⟨k, nm, v, ks, ls, rv⟩ := t
 simp only [Ty.kind, Ty.name, Ty.var, Ty.args, Ty.labels, Ty.rv] at *
 have e1 : ks = [] := List.eq_nil_of_length_eq_zero (by omega)
 have e2 : ls = [] := List.eq_nil_of_length_eq_zero (by omega)
 subst e1; subst e2; subst h7; subst h3; subst h4; rfl
theorem zBh {t a : Sub} (h : Abs t a) (r : Rw) : zQ t (zQ a r) = zQ t r := by
 rw [zAd a r, zAo]
 simp only [zGh, List.count_append]
 by_cases h0 : r.var = 0
 ·rw [h0, zDs]; simp
 ·cases hl : zP r.var a.rs with
  | none => rw [zEi hl]; simp
  | some x =>
   rw [zDD hl h0]
   obtain ⟨h1, h2⟩ := zAo.1 (h.rs _ _ hl h0)
   refine ⟨fun y => ?_, h2⟩
   have := h1 y
   simp only [List.count_nil, Nat.zero_add] at this
   omega
theorem Z4 {t a : Sub} (h : Abs t a) (x : Ty) : zz x = true → zM t (zM a x) = zM t x := by
 induction x using Ty.rec_ with
 | h x ih =>
  intro hr
  by_cases h7 : x.kind = 7
  ·rw [ZP (s := a) h7]
   cases hl : zP x.var a.ts with
   | none => rfl
   | some y =>
    show zM t y = _
    rw [h.ts _ _ hl]; rw [← zAm hr h7]
  ·have key : ∀ l : List Ty, (∀ u ∈ l, u ∈ x.args) → zo t (zo a l) = zo t l := by
    intro l
    induction l with
    | nil => intro _; rfl
    | cons u l ihl =>
     intro hl
     rw [zo, zo, zo, ih u (hl u (.head _)) (Zw hr (hl u (.head _))), ihl fun v hv => hl v (.tail _ hv)]
   rw [Zb (s := a) h7, Zb (s := t) (t := ⟨x.kind, x.name, x.var, _, _, _⟩) h7, Zb (s := t) (t := x) h7]
   have hk := key x.args fun u hu => hu
   have hw := zBh h ⟨x.labels, x.rv⟩
   show (⟨x.kind, x.name, x.var, zo t (zo a x.args), if x.kind = 5 then (zQ t ⟨if x.kind = 5 then (zQ a ⟨x.labels, x.rv⟩).labels else x.labels, if x.kind = 5 then (zQ a ⟨x.labels, x.rv⟩).var else x.rv⟩).labels else (if x.kind = 5 then (zQ a ⟨x.labels, x.rv⟩).labels else x.labels), if x.kind = 5 then (zQ t ⟨if x.kind = 5 then (zQ a ⟨x.labels, x.rv⟩).labels else x.labels, if x.kind = 5 then (zQ a ⟨x.labels, x.rv⟩).var else x.rv⟩).var else (if x.kind = 5 then (zQ a ⟨x.labels, x.rv⟩).var else x.rv)⟩ : Ty) = _
   rw [hk]
   by_cases h5 : x.kind = 5
   ·simp only [if_pos h5]; rw [show (⟨(zQ a ⟨x.labels, x.rv⟩).labels, (zQ a ⟨x.labels, x.rv⟩).var⟩ : Rw) = zQ a ⟨x.labels, x.rv⟩ from rfl, hw]
   ·simp only [if_neg h5]
theorem zGV {m : Int} (h : 1 ≤ m) : zz (Zn m) = true := by rw [zAN, hdT7 rfl, show (Zn m).var = m from rfl, decide_eq_true h]; rfl
structure zBL (s : Sub) : Prop where
 ts : ∀ n t, zP n s.ts = some t → 1 ≤ n ∧ zz t = true
 rs : ∀ n r, zP n s.rs = some r → 1 ≤ n ∧ ZW r.labels r.var = true
theorem Abs.trans {t b a : Sub} (h : Abs t b) (k : Abs b a) (ha : zBL a) : Abs t a := ⟨fun n x e => by
  have h1 := ha.ts _ _ e
  rw [← Z4 h x h1.2, k.ts _ _ e, Z4 h _ (zGV h1.1)], fun n r e h0 => by
  rw [← zBh h r, k.rs _ _ e h0, zBh h]⟩
theorem abs_then {u one v : Sub} (h : ThenS u one v) (hu : Abs u u) : Abs v u := ⟨fun n x e => by
  rw [zBx h, zBx h, hu.ts _ _ e], fun n r e h0 => by rw [zAy h, zAy h, hu.rs _ _ e h0]⟩
end Go.Proofs.YtlidonjpgigocaaGreat
namespace Go.Proofs.YtlidonjpgigocaaGreat
set_option linter.all false
set_option maxRecDepth 4000
open Go.RowKit
theorem zDb {P Q : Int → Prop} {t : Ty} (h : AllV P Q t) : (∀ v ∈ (zi t ([], [])).1, P v) ∧ ∀ v ∈ (zi t ([], [])).2, Q v := walk_allV t h _ ⟨fun _ hx => (by cases hx), fun _ hx => (by cases hx)⟩
theorem Zv {s : Sub} {t : Ty} (hr : zz t = true) (h : AllV (fun v => zP v s.ts = none) (fun v => zP v s.rs = none) t) : zM s t = t := zEv s t hr (zDb h).1 (zDb h).2
theorem AllV.and {P Q P' Q' : Int → Prop} (t : Ty) : AllV P Q t → AllV P' Q' t → AllV (fun v => P v ∧ P' v) (fun v => Q v ∧ Q' v) t := by
 induction t using Ty.rec_ with
 | h t ih =>
  intro h k
  obtain ⟨h1, h2, h3⟩ := h.here; obtain ⟨k1, k2, k3⟩ := k.here
  exact .mk (fun e => ⟨h1 e, k1 e⟩) (fun e f => ⟨h2 e f, k2 e f⟩) fun u hu => ih u hu (h3 u hu) (k3 u hu)
theorem zAi {s : Sub} {t : Ty} (h7 : ¬ t.kind = 7) : (zM s t).kind = t.kind ∧ (zM s t).name = t.name ∧ (zM s t).var = t.var ∧ (zM s t).args = zo s t.args ∧ (t.kind = 5 → (zM s t).labels = (zQ s ⟨t.labels, t.rv⟩).labels ∧ (zM s t).rv = (zQ s ⟨t.labels, t.rv⟩).var) ∧ (t.kind ≠ 5 → (zM s t).labels = t.labels ∧ (zM s t).rv = t.rv) := by
 rw [Zb h7]
 refine ⟨rfl, rfl, rfl, rfl, fun h5 => ?_, fun h5 => ?_⟩
 ·exact ⟨if_pos h5, if_pos h5⟩
 ·exact ⟨if_neg h5, if_neg h5⟩
theorem zCh (s : Sub) : ∀ l : List Ty, zo s l = l.map (zM s)
 | [] => rfl
 | t :: l => by rw [zo, List.map_cons, zCh s l]
theorem zGP {s : Sub} {P Q P' Q' : Int → Prop} (h1 : ∀ v, P v → zP v s.ts = none → P' v) (h2 : ∀ v x, P v → zP v s.ts = some x → AllV P' Q' x) (h3 : ∀ v, Q v → zP v s.rs = none → Q' v) (h4 : ∀ v r, Q v → zP v s.rs = some r → 0 < r.var → Q' r.var) (t : Ty) :
  zz t = true → AllV P Q t → AllV P' Q' (zM s t) := by
 induction t using Ty.rec_ with
 | h t ih =>
  intro hr h
  obtain ⟨a1, a2, a3⟩ := h.here
  by_cases h7 : t.kind = 7
  ·rw [ZP h7]
   cases hl : zP t.var s.ts with
   | none =>
    rw [zAm hr h7]
    exact .mk (fun _ => h1 _ (a1 h7) hl) (fun e => absurd (show (7 : Int) = 5 from e) (by decide)) fun u hu => (by cases hu)
   | some x => exact h2 _ _ (a1 h7) hl
  ·obtain ⟨e1, e2, e3, e4, e5, e6⟩ := zAi (s := s) h7
   refine .mk (fun e => absurd (e1 ▸ e) h7) (fun e e0 => ?_) fun u hu => ?_
   ·rw [e1] at e
    rw [(e5 e).2] at e0 ⊢
    rw [zAd] at e0 ⊢
    dsimp only at e0 ⊢
    by_cases hz : t.rv = 0
    ·rw [hz, zDs] at e0; exact absurd e0 (by simp)
    ·have hp : 0 < t.rv := by have := (ZU (zBK hr e).1).2; omega
     cases hl : zP t.rv s.rs with
     | none => rw [zEi hl]; exact h3 _ (a2 e hp) hl
     | some r => rw [zDD hl hz] at e0 ⊢; exact h4 _ _ (a2 e hp) hl e0
   ·rw [e4, zCh] at hu
    obtain ⟨x, hx, rfl⟩ := List.mem_map.1 hu
    exact ih x hx (Zw hr hx) (a3 x hx)
theorem zFB {α : Type} {p q : α → Bool} : ∀ {l : List α}, (∀ v ∈ l, q v = true → p v = true) → (l.filter q).length ≤ (l.filter p).length
 | [], _ => Nat.le_refl _
 | a :: l, h => by
  have ih := zFB (l := l) fun v hv => h v (.tail _ hv)
  have h0 := h a (.head _)
  simp only [List.filter_cons]
  by_cases hq : q a = true
  ·rw [if_pos hq, if_pos (h0 hq)]; simpa using ih
  ·rw [if_neg hq]; split
   ·simp only [List.length_cons]; omega
   ·exact ih
theorem zCw {α : Type} {p q : α → Bool} {u : α} : ∀ {l : List α}, (∀ v ∈ l, q v = true → p v = true) → u ∈ l → p u = true → q u = false → (l.filter q).length + 1 ≤ (l.filter p).length
 | [], _, hu, _, _ => by cases hu
 | a :: l, h, hu, h1, h2 => by
  simp only [List.filter_cons]
  rcases List.mem_cons.1 hu with rfl | hu
  ·rw [if_neg (by simp [h2]), if_pos h1]; simp only [List.length_cons]; have := zFB (l := l) fun v hv => h v (.tail _ hv); omega
  ·have ih := zCw (l := l) (fun v hv => h v (.tail _ hv)) hu h1 h2
   have h0 := h a (.head _)
   by_cases hq : q a = true
   ·rw [if_pos hq, if_pos (h0 hq)]; simp only [List.length_cons]; omega
   ·rw [if_neg hq]; split
    ·simp only [List.length_cons]; omega
    ·exact ih
theorem filter_lt2 {α : Type} {p q : α → Bool} {u v : α} (huv : u ≠ v) {l : List α} (h : ∀ x ∈ l, q x = true → p x = true) (hu : u ∈ l) (hv : v ∈ l) (pu : p u = true) (pv : p v = true) (qu : q u = false) (qv : q v = false) : (l.filter q).length + 2 ≤ (l.filter p).length := by
 induction l with
 | nil => cases hu
 | cons a l ih =>
  have hl : ∀ x ∈ l, q x = true → p x = true := fun x hx => h x (.tail _ hx)
  have h0 := h a (.head _)
  simp only [List.filter_cons]
  rcases List.mem_cons.1 hu with rfl | hu9
  ·have hv' : v ∈ l := by rcases List.mem_cons.1 hv with e | h; exact absurd e.symm huv; exact h
   rw [if_neg (by simp [qu]), if_pos pu]; simp only [List.length_cons]; have := zCw hl hv' pv qv; omega
  ·rcases List.mem_cons.1 hv with rfl | hv9
   ·rw [if_neg (by simp [qv]), if_pos pv]; simp only [List.length_cons]; have := zCw hl hu9 pu qu; omega
   ·have ih := ih hl hu9 hv9
    by_cases hq : q a = true
    ·rw [if_pos hq, if_pos (h0 hq)]; simp only [List.length_cons]; omega
    ·rw [if_neg hq]; split
     ·simp only [List.length_cons]; omega
     ·exact ih
structure UInv (tv rv : List Int) (w : Nat) (U : USt) : Prop where
 ap : zAZ U.s
 tk : ∀ n x, zP n U.s.ts = some x → n ∈ tv ∧ zz x = true ∧ zBI x = false ∧ wdT x ≤ w ∧ AllV (fun v => v ∈ tv ∧ zP v U.s.ts = none) (fun v => v ∈ rv ∧ zP v U.s.rs = none) x
 rk : ∀ n r, zP n U.s.rs = some r → n ∈ rv ∧ ZW r.labels r.var = true ∧ r.labels.length ≤ w ∧ (0 < r.var → r.var ∈ rv ∧ zP r.var U.s.rs = none)
 tp : ∀ n ∈ tv, 1 ≤ n ∧ n ≤ 1000000
 rp : ∀ n ∈ rv, 1 ≤ n ∧ n < U.nx
 w2 : 2 ≤ w
theorem UInv.ok {tv rv : List Int} {w : Nat} {U : USt} (h : UInv tv rv w U) : zBL U.s := ⟨fun n t e => ⟨(h.tp n (h.tk n t e).1).1, (h.tk n t e).2.1⟩, fun n r e => ⟨(h.rp n (h.rk n r e).1).1, (h.rk n r e).2.1⟩⟩
theorem applyR_nil {s : Sub} {n : Int} {r : Rw} (h : zP n s.rs = some r) (h0 : n ≠ 0) (hr : ZW r.labels r.var = true) : zQ s ⟨[], n⟩ = r := by
 rw [zAd, zDD h h0]; simp only [List.nil_append, (ZU hr).1]
theorem UInv.self {tv rv : List Int} {w : Nat} {U : USt} (h : UInv tv rv w U) : Abs U.s U.s := by
 refine ⟨fun n x e => ?_, fun n r e h0 => ?_⟩
 ·obtain ⟨_, hr, _, _, ha⟩ := h.tk n x e
  rw [Zv hr (ha.mono (fun _ q => q.2) (fun _ q => q.2)), ZP (t := Zn n) rfl, show (Zn n).var = n from rfl, e]; rfl
 ·obtain ⟨_, hr, _, hv⟩ := h.rk n r e
  rw [applyR_nil e h0 hr, Z3, (ZU hr).1]
  by_cases hz : r.var = 0
  ·exact .inr hz
  ·left; rw [(hv (by have := (ZU hr).2; omega)).2]; rfl
theorem zAL {s : Sub} (h : zBL s) {t : Ty} (ht : zz t = true) : zz (zM s t) = true := right_apply (fun n x e => (h.ts n x e).2) (fun n x e => (h.rs n x e).2) t ht
def zEn (tv : List Int) (U : USt) : Nat := (tv.filter fun v => (zP v U.s.ts).isNone).length
def zAA (rv : List Int) (U : USt) : Nat := (rv.filter fun v => (zP v U.s.rs).isNone).length
abbrev Sc (tv rv : List Int) (t : Ty) : Prop := AllV (· ∈ tv) (· ∈ rv) t
theorem UInv.sc {tv rv : List Int} {w : Nat} {U : USt} (h : UInv tv rv w U) {t : Ty} (hr : zz t = true) (ht : Sc tv rv t) : AllV (fun v => v ∈ tv ∧ zP v U.s.ts = none) (fun v => v ∈ rv ∧ zP v U.s.rs = none) (zM U.s t) :=
 zGP (fun v a b => ⟨a, b⟩) (fun v x _ e => (h.tk v x e).2.2.2.2) (fun v a b => ⟨a, b⟩) (fun v r _ e p => (h.rk v r e).2.2.2 p) t hr ht
structure zGv (tv rv : List Int) (w : Nat) (U : USt) (one : Sub) : Prop where
 ap : zAZ one
 tk : ∀ n x, zP n one.ts = some x → n ∈ tv ∧ zP n U.s.ts = none ∧ zz x = true ∧ zBI x = false ∧ wdT x ≤ w ∧ AllV (fun v => v ∈ tv ∧ zP v U.s.ts = none ∧ zP v one.ts = none) (fun v => v ∈ rv ∧ zP v U.s.rs = none ∧ zP v one.rs = none) x
 rk : ∀ n r, zP n one.rs = some r → n ∈ rv ∧ zP n U.s.rs = none ∧ ZW r.labels r.var = true ∧ r.labels.length ≤ w ∧ (0 < r.var → r.var ∈ rv ∧ zP r.var U.s.rs = none ∧ zP r.var one.rs = none)
theorem Zh {α : Type} {f : α → α} {l b o : List (Int × α)} (h : Over f l b o) {v : Int} : zP v o = none ↔ zP v l = none ∧ zP v b = none := by
 rw [h v]
 cases zP v l with
 | none => simp
 | some x => simp
theorem zCP {α : Type} {f : α → α} {l b o : List (Int × α)} (h : Over f l b o) {v : Int} {x : α} (e : zP v o = some x) : (∃ y, zP v l = some y ∧ x = f y) ∨ (zP v l = none ∧ zP v b = some x) := by
 rw [h v] at e
 cases hl : zP v l with
 | none => rw [hl] at e; exact .inr ⟨rfl, by simpa using e⟩
 | some y => rw [hl] at e; exact .inl ⟨y, rfl, by simpa using e.symm⟩
theorem UInv.step {tv rv : List Int} {w w' : Nat} {U : USt} {one : Sub} {V : USt} (h : UInv tv rv w U) (hs : zGv tv rv w U one) (hV : ThenS U.s one V.s) (hap : zAZ V.s) (hw : w ≤ w') (hnx : U.nx ≤ V.nx)
  (hl : ∀ n x, zP n U.s.ts = some x → zBI (zM one x) = false) (hwt : ∀ n x, zP n U.s.ts = some x → wdT (zM one x) ≤ w') (hwr : ∀ n r, zP n U.s.rs = some r → (zQ one r).labels.length ≤ w') : UInv tv rv w' V := by
 have hok : zBL one := ⟨fun n t e => ⟨(h.tp n (hs.tk n t e).1).1, (hs.tk n t e).2.2.1⟩, fun n r e => ⟨(h.rp n (hs.rk n r e).1).1, (hs.rk n r e).2.2.1⟩⟩
 refine ⟨hap, fun n x e => ?_, fun n r e => ?_, h.tp, fun n hn => ⟨(h.rp n hn).1, by have := (h.rp n hn).2; omega⟩, Nat.le_trans h.w2 hw⟩
 ·rcases zCP hV.1 e with ⟨y, hy, rfl⟩ | ⟨h0, hy⟩
  ·obtain ⟨a1, a2, a3, a4, a5⟩ := h.tk n y hy
   refine ⟨a1, zAL hok a2, hl n y hy, hwt n y hy, ?_⟩
   refine zGP (fun v a b => ⟨a.1, (Zh hV.1).2 ⟨a.2, b⟩⟩) (fun v x _ e => ?_) (fun v a b => ⟨a.1, (Zh hV.2).2 ⟨a.2, b⟩⟩) (fun v r _ e p => ?_) y a2 a5
   ·exact (hs.tk v x e).2.2.2.2.2.mono (fun v q => ⟨q.1, (Zh hV.1).2 q.2⟩) (fun v q => ⟨q.1, (Zh hV.2).2 q.2⟩)
   ·have q := (hs.rk v r e).2.2.2.2 p
    exact ⟨q.1, (Zh hV.2).2 q.2⟩
  ·obtain ⟨a1, a2, a3, a4, a5, a6⟩ := hs.tk n x hy
   exact ⟨a1, a3, a4, Nat.le_trans a5 hw, a6.mono (fun v q => ⟨q.1, (Zh hV.1).2 q.2⟩) (fun v q => ⟨q.1, (Zh hV.2).2 q.2⟩)⟩
 ·rcases zCP hV.2 e with ⟨y, hy, rfl⟩ | ⟨h0, hy⟩
  ·obtain ⟨a1, a2, a3, a4⟩ := h.rk n y hy
   refine ⟨a1, zCQ a2 (fun n x e => (hok.rs n x e).2), hwr n y hy, fun hp => ?_⟩
   rw [zAd] at hp ⊢
   dsimp only at hp ⊢
   by_cases hz : y.var = 0
   ·rw [hz, zDs] at hp; exact absurd hp (by simp)
   ·have hp' : 0 < y.var := by have := (ZU a2).2; omega
    cases hl : zP y.var one.rs with
    | none => rw [zEi hl]; exact ⟨(a4 hp').1, (Zh hV.2).2 ⟨(a4 hp').2, hl⟩⟩
    | some r =>
     rw [zDD hl hz] at hp ⊢
     have q := (hs.rk _ r hl).2.2.2.2 hp
     exact ⟨q.1, (Zh hV.2).2 q.2⟩
  ·obtain ⟨a1, a2, a3, a4, a5⟩ := hs.rk n r hy
   exact ⟨a1, a3, Nat.le_trans a4 hw, fun p => ⟨(a5 p).1, (Zh hV.2).2 (a5 p).2⟩⟩
structure UP (tv rv : List Int) (w : Nat) (U : USt) (rv' : List Int) (w' : Nat) (V : USt) : Prop where
 inv : UInv tv rv' w' V
 sub : ∀ v ∈ rv, v ∈ rv'
 ab : Abs V.s U.s
 wl : w ≤ w'
 bud : w' * 2 ^ zAA rv' V ≤ w * 2 ^ zAA rv U
 tl : zEn tv V ≤ zEn tv U
 cn : zEn tv V < zEn tv U ∨ ∀ t, ZH (zM V.s t) = ZH (zM U.s t)
 wd : ∀ t, zz t = true → wdT (zM U.s t) ≤ w → wdT (zM V.s t) ≤ w'
 nx : U.nx ≤ V.nx ∧ V.nx + zAA rv' V ≤ U.nx + zAA rv U
theorem UP.refl {tv rv : List Int} {w : Nat} {U : USt} (h : UInv tv rv w U) : UP tv rv w U rv w U := ⟨h, fun _ h => h, h.self, Nat.le_refl _, Nat.le_refl _, Nat.le_refl _, .inr fun _ => rfl, fun _ _ h => h, ⟨Int.le_refl _, Int.le_refl _⟩⟩
theorem UP.trans {tv rv rv1 rv2 : List Int} {w w1 w2 : Nat} {U V W : USt} (hU : UInv tv rv w U) (h : UP tv rv w U rv1 w1 V) (k : UP tv rv1 w1 V rv2 w2 W) : UP tv rv w U rv2 w2 W :=
 ⟨k.inv, fun v hv => k.sub v (h.sub v hv), k.ab.trans h.ab hU.ok, Nat.le_trans h.wl k.wl, Nat.le_trans k.bud h.bud, Nat.le_trans k.tl h.tl, by
  rcases h.cn with h1 | h1
  ·exact .inl (Nat.lt_of_le_of_lt k.tl h1)
  ·rcases k.cn with k1 | k1
   ·exact .inl (Nat.lt_of_lt_of_le k1 h.tl)
   ·exact .inr fun t => (k1 t).trans (h1 t), fun t hr ht => k.wd t hr (h.wd t hr ht), ⟨Int.le_trans h.nx.1 k.nx.1, Int.le_trans k.nx.2 h.nx.2⟩⟩
end Go.Proofs.YtlidonjpgigocaaGreat
namespace Go.Proofs.YtlidonjpgigocaaGreat
set_option linter.all false
set_option maxRecDepth 4000
open Go.RowKit
theorem wd_oneT {one : Sub} {B : Nat} (hr : one.rs = []) (hB : ∀ n x, zP n one.ts = some x → wdT x ≤ B) (t : Ty) : wdT t ≤ B → wdT (zM one t) ≤ B := by
 induction t using Ty.rec_ with
 | h t ih =>
  intro ht
  by_cases h7 : t.kind = 7
  ·rw [ZP h7]
   cases hl : zP t.var one.ts with
   | none => exact ht
   | some x => exact hB _ _ hl
  ·obtain ⟨e1, e2, e3, e4, e5, e6⟩ := zAi (s := one) h7
   have hw := zAt t
   have hn : ∀ r : Rw, (zQ one r).labels.length = r.labels.length := fun r => by rw [Z3 (.inl (by rw [hr]; rfl))]; exact zCN _
   have hl : (zM one t).labels.length = t.labels.length := by
    by_cases h5 : t.kind = 5
    ·rw [(e5 h5).1, hn]
    ·rw [(e6 h5).1]
   have key : ∀ l : List Ty, (∀ u ∈ l, u ∈ t.args) → zCG (zo one l) ≤ B := by
    intro l
    induction l with
    | nil => intro _; simp [zo, zCG]
    | cons x l ihl =>
     intro hl
     have h1 := ih x (hl x (.head _)) (Nat.le_trans (zAT (hl x (.head _))) ht)
     have h2 := ihl fun u hu => hl u (.tail _ hu)
     rw [zo]; simp only [zCG]; omega
   have hk := key t.args fun u hu => hu
   rw [zAt (zM one t), hl, e4, zBZ]; omega
theorem cnt_rows {one : Sub} (ht : one.ts = []) (t : Ty) : ZH (zM one t) = ZH t := by
 induction t using Ty.rec_ with
 | h t ih =>
  by_cases h7 : t.kind = 7
  ·rw [ZP h7, ht]; rfl
  ·obtain ⟨e1, e2, e3, e4, e5, e6⟩ := zAi (s := one) h7
   have key : ∀ l : List Ty, (∀ u ∈ l, u ∈ t.args) → ZS (zo one l) = ZS l := by
    intro l
    induction l with
    | nil => intro _; rfl
    | cons x l ihl =>
     intro hl
     rw [zo]; simp only [ZS]; rw [ih x (hl x (.head _)), ihl fun u hu => hl u (.tail _ hu)]
   rw [Zy, Zy t, e4, key t.args fun u hu => hu]
theorem rlive_eq {rv : List Int} {U V : USt} (h : ∀ v ∈ rv, zP v V.s.rs = none ↔ zP v U.s.rs = none) : zAA rv V = zAA rv U := by
 unfold zAA
 congr 1
 apply List.filter_congr
 intro v hv
 rw [Bool.eq_iff_iff, Option.isNone_iff_eq_none, Option.isNone_iff_eq_none]; exact h v hv
theorem zBm (n k : Int) (t : Ty) : zP k (zAg n t).ts = if k = n then some t else none := by simp [zAg, zP]
theorem zBD (n k : Int) (r : Rw) : zP k (zAe n r).rs = if k = n then some r else none := by simp [zAe, zP]
theorem zFN (n : Int) (t : Ty) : zAZ (zAg n t) := ⟨by simp [zAg], by simp [zAg]⟩
theorem zAk (n : Int) (r : Rw) : zAZ (zAe n r) := ⟨by simp [zAe], by simp [zAe]⟩
theorem is_post {tv rv : List Int} {w : Nat} {U V : USt} {n : Int} {t : Ty} (h : UInv tv rv w U) (hn : n ∈ tv) (hu : zP n U.s.ts = none) (hr : zz t = true)
  (hs : AllV (fun v => v ∈ tv ∧ zP v U.s.ts = none) (fun v => v ∈ rv ∧ zP v U.s.rs = none) t) (hw : wdT t ≤ w) (he : isU n t U = (0, V)) : UP tv rv w U rv w V ∧ zM V.s t = t ∧ zM V.s (Zn n) = t := by
 unfold isU at he
 split at he
 ·cases he
 ·rename_i hno
  split at he
  ·cases he
  ·rename_i hbig
   simp only [Prod.mk.injEq, true_and] at he
   subst he
   have hb : zBI t = false ∧ ∀ p ∈ U.s.ts, zEB n t p.2 = false := by
    rw [Bool.not_eq_true, Bool.or_eq_false_iff] at hbig
    refine ⟨hbig.1, fun p hp => ?_⟩
    have := List.any_eq_false.1 hbig.2 p hp
    simpa using this
   have hV := Zl (b := zAg n t) h.ap
   have hne : AllV (fun v => v ≠ n) (fun _ => True) t := AllV.mono (P := (· ∈ (Z1 t).1)) (Q := (· ∈ (Z1 t).2)) (fun v hv => fun (e : v = n) => hno (by rw [← e]; exact hv)) (fun _ _ => trivial) t (zFM t hr)
   have hst : zGv tv rv w U (zAg n t) := by
    refine ⟨zFN n t, fun k x e => ?_, fun k r e => (by cases e)⟩
    rw [zBm] at e
    split at e
    ·rename_i hk; injection e with e; subst e; subst hk
     refine ⟨hn, hu, hr, hb.1, hw, (hs.and _ hne).mono (fun v q => ⟨q.1.1, q.1.2, ?_⟩) (fun v q => ⟨q.1.1, q.1.2, rfl⟩)⟩
     rw [zBm, if_neg q.2]
    ·cases e
   have hB : ∀ k x, zP k (zAg n t).ts = some x → wdT x ≤ w := fun k x e => (hst.tk k x e).2.2.2.2.1
   have hI : UInv tv rv w ⟨zAx U.s (zAg n t), U.nx⟩ := h.step hst hV (zAQ (zFN n t)) (Nat.le_refl _) (Int.le_refl _) (fun k x e => by
     have := hb.2 _ (zBr e)
     unfold zEB at this
     rw [Bool.or_eq_false_iff] at this; exact this.2) (fun k x e => wd_oneT rfl hB x (h.tk k x e).2.2.2.1) (fun k r e => by
     rw [Z3 (.inl rfl)]; show (ZT r.labels).length ≤ w; rw [zCN]; exact (h.rk k r e).2.2.1)
   have hVt : ∀ x, zM (zAx U.s (zAg n t)) x = zM (zAg n t) (zM U.s x) := fun x => zBx hV x
   have hrl : zAA rv ⟨zAx U.s (zAg n t), U.nx⟩ = zAA rv U := rlive_eq fun v _ => by
    rw [Zh hV.2]; exact ⟨fun q => q.1, fun q => ⟨q, rfl⟩⟩
   have htl : zEn tv ⟨zAx U.s (zAg n t), U.nx⟩ + 1 ≤ zEn tv U := by
    refine zCw (u := n) (fun v _ hv => ?_) hn (by rw [hu]; rfl) ?_
    ·rw [Option.isNone_iff_eq_none] at hv ⊢; exact ((Zh hV.1).1 hv).1
    ·cases hq : zP n (zAx U.s (zAg n t)).ts with
     | none => have := ((Zh hV.1).1 hq).2; rw [zBm, if_pos rfl] at this; cases this
     | some x => rfl
   have hUt : zM U.s t = t := Zv hr (hs.mono (fun _ q => q.2) (fun _ q => q.2))
   refine ⟨⟨hI, fun _ q => q, abs_then hV h.self, Nat.le_refl _, by rw [hrl]; exact Nat.le_refl _, by omega, .inl (by omega), fun x hx hwx => by rw [hVt]; exact wd_oneT rfl hB _ hwx, ⟨Int.le_refl _, by rw [hrl]; exact Int.le_refl _⟩⟩, ?_, ?_⟩
   ·rw [hVt, hUt]
    exact Zv hr (hne.mono (fun v q => by rw [zBm, if_neg q]) (fun _ _ => rfl))
   ·rw [hVt, ZP (s := U.s) (t := Zn n) rfl, show (Zn n).var = n from rfl, hu]
    show zM (zAg n t) (Zn n) = t
    rw [ZP rfl, zBm]; simp [Zn, Ty.var]
theorem is_err {n : Int} {t : Ty} {U : USt} {e : Int} {V : USt} (h : isU n t U = (e, V)) (h0 : e ≠ 0) : V = U ∧ (e = 5 ∨ e = 6) := by
 unfold isU at h
 split at h
 ·injection h with h1 h2; exact ⟨h2.symm, .inl h1.symm⟩
 ·split at h
  ·injection h with h1 h2; exact ⟨h2.symm, .inr h1.symm⟩
  ·injection h with h1 h2; exact absurd h1.symm h0
-- rows
theorem zBB : ∀ a l : List Str, (ZR a l).Sublist a
 | [], _ => List.Sublist.slnil
 | x :: a, l => by
  rw [ZR]; split
  ·exact (zBB a _).cons x
  ·exact (zBB a _).cons_cons x
theorem zAb {l k : List Str} {v n : Int} (h : ZW l v = true) (hs : k.Sublist l) (hn : 0 ≤ n) : ZW k n = true := by
 have h1 := zDl h
 unfold ZW at h ⊢
 simp only [Bool.and_eq_true, decide_eq_true_eq] at h ⊢
 refine ⟨⟨hn, (zBQ _).2 (((zBQ _).1 h.1.2).sublist hs)⟩, ?_⟩
 simp only [Bool.not_eq_true', List.contains_eq_mem, decide_eq_false_iff_not]
 exact fun hm => h1 (hs.subset hm)
theorem then_assoc {u o1 v1 o2 v t : Sub} (h1 : ThenS u o1 v1) (h2 : ThenS v1 o2 v) (h3 : ThenS o1 o2 t) : ThenS u t v := by
 have e1 : zM t = zM o2 ∘ zM o1 := funext fun x => zBx h3 x
 have e2 : zQ t = zQ o2 ∘ zQ o1 := funext fun x => zAy h3 x
 refine ⟨fun k => ?_, fun k => ?_⟩
 ·rw [h2.1 k, h1.1 k, h3.1 k, e1]
  cases zP k u.ts <;> simp
 ·rw [h2.2 k, h1.2 k, h3.2 k, e2]
  cases zP k u.rs <;> simp
theorem rows_step {tv rv : List Int} {w : Nat} {U : USt} {two : Sub} {V : USt} (h : UInv tv rv w U) (hts : two.ts = []) (hs : zGv tv rv w U two) (hV : ThenS U.s two V.s) (hap : zAZ V.s) (hnx : U.nx ≤ V.nx)
  (hbud : zAA rv V + 1 ≤ zAA rv U) (hn2 : V.nx + zAA rv V ≤ U.nx + zAA rv U) : UP tv rv w U rv (w + w) V := by
 have hsw : SubW w two := ⟨fun n t e => (by rw [hts] at e; cases e), fun n r e => (hs.rk n r e).2.2.2.1⟩
 have hI : UInv tv rv (w + w) V := h.step hs hV hap (by omega) hnx (fun k x e => by
   have := (h.tk k x e).2.2.1
   have hc := cnt_rows hts x
   have hd : zBj (zM two x) = zBj x := by
    clear e this hc
    induction x using Ty.rec_ with
    | h t ih =>
     by_cases h7 : t.kind = 7
     ·rw [ZP h7, hts]; rfl
     ·obtain ⟨_, _, _, e4, _⟩ := zAi (s := two) h7
      have key : ∀ l : List Ty, (∀ u ∈ l, u ∈ t.args) → zBk (zo two l) = zBk l := by
       intro l
       induction l with
       | nil => intro _; rfl
       | cons x l ihl => intro hl; rw [zo]; simp only [zBk]; rw [ih x (hl x (.head _)), ihl fun u hu => hl u (.tail _ hu)]
      rw [zDn, zDn t, e4, key t.args fun u hu => hu]
   unfold zBI at this ⊢; rw [hc, hd]; exact this) (fun k x e => Nat.le_trans (zBa hsw x) (by have := (h.tk k x e).2.2.2.1; omega)) (fun k r e => Nat.le_trans (zAr hsw r) (by have := (h.rk k r e).2.2.1; omega))
 have hVt : ∀ x, zM V.s x = zM two (zM U.s x) := fun x => zBx hV x
 refine ⟨hI, fun _ q => q, abs_then hV h.self, by omega, ?_, ?_, .inr fun t => by rw [hVt, cnt_rows hts], fun t _ ht => by rw [hVt]; exact Nat.le_trans (zBa hsw _) (by omega), ⟨hnx, hn2⟩⟩
 ·have : (w + w) * 2 ^ zAA rv V = w * 2 ^ (zAA rv V + 1) := by rw [Nat.pow_succ, ← Nat.two_mul, Nat.mul_comm 2 w, Nat.mul_assoc, Nat.mul_comm 2]
  rw [this]
  exact Nat.mul_le_mul_left _ (Nat.pow_le_pow_right (by omega) hbud)
 ·refine zFB fun v _ hv => ?_
  rw [Option.isNone_iff_eq_none] at hv ⊢; exact ((Zh hV.1).1 hv).1
theorem zEr {tv rv : List Int} {w : Nat} {U : USt} {n : Int} {r : Rw} (h : UInv tv rv w U) (hn : n ∈ rv) (hu : zP n U.s.rs = none) (hr : ZW r.labels r.var = true) (hl : r.labels.length ≤ w) (hv : 0 < r.var → r.var ∈ rv ∧ zP r.var U.s.rs = none ∧ r.var ≠ n) :
  UP tv rv w U rv (w + w) ⟨Z8 n r.labels r.var U.s, U.nx⟩ ∧ ∀ x, zQ (Z8 n r.labels r.var U.s) x = zQ (zAe n r) (zQ U.s x) := by
 have hV : ThenS U.s (zAe n r) (Z8 n r.labels r.var U.s) := Zl h.ap
 have hst : zGv tv rv w U (zAe n r) := by
  refine ⟨zAk n r, fun k x e => (by cases e), fun k x e => ?_⟩
  rw [zBD] at e
  split at e
  ·rename_i hk; injection e with e; subst e; subst hk
   exact ⟨hn, hu, hr, hl, fun p => ⟨(hv p).1, (hv p).2.1, by rw [zBD, if_neg (hv p).2.2]⟩⟩
  ·cases e
 have hb : zAA rv ⟨Z8 n r.labels r.var U.s, U.nx⟩ + 1 ≤ zAA rv U := by
  refine zCw (u := n) (fun v _ hv => ?_) hn (by rw [hu]; rfl) ?_
  ·rw [Option.isNone_iff_eq_none] at hv ⊢; exact ((Zh hV.2).1 hv).1
  ·cases hq : zP n (Z8 n r.labels r.var U.s).rs with
   | none => have := ((Zh hV.2).1 hq).2; rw [zBD, if_pos rfl] at this; cases this
   | some x => rfl
 exact ⟨rows_step h rfl hst hV (zAQ (zAk n r)) (Int.le_refl _) hb (by show U.nx + _ ≤ U.nx + _; omega), fun x => zAy hV x⟩
theorem UInv.fresh {tv rv : List Int} {w : Nat} {U : USt} (h : UInv tv rv w U) (h0 : 0 < U.nx) : UInv tv (U.nx :: rv) w ⟨U.s, U.nx + 1⟩ :=
 ⟨h.ap, fun n x e => by
  obtain ⟨a, b, c, d, q⟩ := h.tk n x e
  exact ⟨a, b, c, d, q.mono (fun _ z => z) (fun _ z => ⟨.tail _ z.1, z.2⟩)⟩, fun n r e => by
  obtain ⟨a, b, c, d⟩ := h.rk n r e
  exact ⟨.tail _ a, b, c, fun p => ⟨.tail _ (d p).1, (d p).2⟩⟩, h.tp, fun n hn => by
  rcases List.mem_cons.1 hn with rfl | hn
  ·exact ⟨by omega, by show U.nx < U.nx + 1; omega⟩
  ·have := h.rp n hn; exact ⟨this.1, by show n < U.nx + 1; omega⟩, h.w2⟩
theorem UInv.new {tv rv : List Int} {w : Nat} {U : USt} (h : UInv tv rv w U) : zP U.nx U.s.rs = none ∧ ¬ U.nx ∈ rv := by
 refine ⟨?_, fun hm => by have := h.rp _ hm; omega⟩
 cases e : zP U.nx U.s.rs with
 | none => rfl
 | some r => have := h.rp _ (h.rk _ _ e).1; omega
theorem row_step2 {tv rv : List Int} {w : Nat} {U : USt} {u v : Int} {q p : List Str} (h : UInv tv rv w U) (h0 : 0 < U.nx) (huv : u ≠ v) (hu : u ∈ rv ∧ zP u U.s.rs = none) (hv : v ∈ rv ∧ zP v U.s.rs = none) (hq : ZW q U.nx = true) (hp : ZW p U.nx = true) (lq : q.length ≤ w) (lp : p.length ≤ w) :
  UP tv rv w U (U.nx :: rv) (w + w) ⟨Z8 v p U.nx (Z8 u q U.nx U.s), U.nx + 1⟩ ∧ (∀ x, zQ (Z8 v p U.nx (Z8 u q U.nx U.s)) x = zQ (zAe v ⟨p, U.nx⟩) (zQ (zAe u ⟨q, U.nx⟩) (zQ U.s x))) := by
 have hn := h.new
 have hun : u ≠ U.nx := fun e => hn.2 (e ▸ hu.1)
 have hvn : v ≠ U.nx := fun e => hn.2 (e ▸ hv.1)
 have h1 : ThenS U.s (zAe u ⟨q, U.nx⟩) (Z8 u q U.nx U.s) := Zl h.ap
 have ap1 : zAZ (Z8 u q U.nx U.s) := zAQ (zAk _ _)
 have h2 : ThenS (Z8 u q U.nx U.s) (zAe v ⟨p, U.nx⟩) (Z8 v p U.nx (Z8 u q U.nx U.s)) := Zl ap1
 have h3 : ThenS (zAe u ⟨q, U.nx⟩) (zAe v ⟨p, U.nx⟩) (zAx (zAe u ⟨q, U.nx⟩) (zAe v ⟨p, U.nx⟩)) := Zl (zAk _ _)
 obtain ⟨two, htwo⟩ : ∃ t, t = zAx (zAe u ⟨q, U.nx⟩) (zAe v ⟨p, U.nx⟩) := ⟨_, rfl⟩
 rw [← htwo] at h3
 have hts : two.ts = [] := by rw [htwo]; rfl
 have hV := then_assoc h1 h2 h3
 have lk : ∀ k, zP k two.rs = if k = u then some ⟨q, U.nx⟩ else if k = v then some ⟨p, U.nx⟩ else none := fun k => by
  rw [h3.2 k, zBD, zBD]
  split
  ·show some (zQ (zAe v ⟨p, U.nx⟩) ⟨q, U.nx⟩) = _
   rw [Z3 (.inl (by rw [zBD, if_neg (Ne.symm hvn)]; rfl)), (ZU hq).1]
  ·rfl
 have lkn : zP U.nx two.rs = none := by rw [lk, if_neg (Ne.symm hun), if_neg (Ne.symm hvn)]
 have hst : zGv tv (U.nx :: rv) w ⟨U.s, U.nx + 1⟩ two := by
  refine ⟨by rw [htwo]; exact zAQ (zAk _ _), fun k x e => by rw [hts] at e; (cases e), fun k r e => ?_⟩
  rw [lk] at e
  split at e
  ·rename_i hk; injection e with e; subst e; subst hk
   exact ⟨.tail _ hu.1, hu.2, hq, lq, fun _ => ⟨.head _, hn.1, lkn⟩⟩
  ·split at e
   ·rename_i hk; injection e with e; subst e; subst hk
    exact ⟨.tail _ hv.1, hv.2, hp, lp, fun _ => ⟨.head _, hn.1, lkn⟩⟩
   ·cases e
 have f1 : zAA rv ⟨Z8 v p U.nx (Z8 u q U.nx U.s), U.nx + 1⟩ + 2 ≤ zAA rv U := by
  refine filter_lt2 huv (fun x _ hx => ?_) hu.1 hv.1 (by rw [hu.2]; rfl) (by rw [hv.2]; rfl) ?_ ?_
  ·rw [Option.isNone_iff_eq_none] at hx ⊢; exact ((Zh hV.2).1 hx).1
  ·cases hq : zP u (Z8 v p U.nx (Z8 u q U.nx U.s)).rs with
   | none => have := ((Zh hV.2).1 hq).2; rw [lk, if_pos rfl] at this; cases this
   | some x => rfl
  ·cases hq : zP v (Z8 v p U.nx (Z8 u q U.nx U.s)).rs with
   | none => have := ((Zh hV.2).1 hq).2; rw [lk, if_neg (Ne.symm huv), if_pos rfl] at this; cases this
   | some x => rfl
 have hnV : zP U.nx (Z8 v p U.nx (Z8 u q U.nx U.s)).rs = none := (Zh hV.2).2 ⟨hn.1, lkn⟩
 have f2 : zAA (U.nx :: rv) ⟨Z8 v p U.nx (Z8 u q U.nx U.s), U.nx + 1⟩ = zAA rv ⟨Z8 v p U.nx (Z8 u q U.nx U.s), U.nx + 1⟩ + 1 := by
  unfold zAA; rw [List.filter_cons, if_pos (by rw [hnV]; rfl)]; rfl
 have f3 : zAA (U.nx :: rv) ⟨U.s, U.nx + 1⟩ = zAA rv U + 1 := by
  unfold zAA; rw [List.filter_cons, if_pos (by show (zP U.nx U.s.rs).isNone = true; rw [hn.1]; rfl)]; rfl
 have hP := rows_step (h.fresh h0) hts hst hV (zAQ (zAk _ _)) (Int.le_refl _) (V := ⟨Z8 v p U.nx (Z8 u q U.nx U.s), U.nx + 1⟩) (by rw [f2, f3]; omega) (by rw [f2, f3]; show U.nx + 1 + _ ≤ U.nx + 1 + _; omega)
 refine ⟨⟨hP.inv, fun x hx => .tail _ hx, hP.ab, hP.wl, ?_, hP.tl, hP.cn, hP.wd, ⟨by show U.nx ≤ U.nx + 1; omega, by rw [f2]; show U.nx + 1 + _ ≤ U.nx + _; omega⟩⟩, fun x => by rw [zAy hV, zAy h3]⟩
 have e : (w + w) * 2 ^ zAA (U.nx :: rv) ⟨Z8 v p U.nx (Z8 u q U.nx U.s), U.nx + 1⟩ = w * 2 ^ (zAA (U.nx :: rv) ⟨Z8 v p U.nx (Z8 u q U.nx U.s), U.nx + 1⟩ + 1) := by rw [Nat.pow_succ, ← Nat.two_mul, Nat.mul_comm 2 w, Nat.mul_assoc, Nat.mul_comm 2]
 rw [e]
 exact Nat.mul_le_mul_left _ (Nat.pow_le_pow_right (by omega) (by omega))
end Go.Proofs.YtlidonjpgigocaaGreat
namespace Go.Proofs.YtlidonjpgigocaaGreat
set_option linter.all false
set_option maxRecDepth 4000
open Go.RowKit
theorem zBN (n v : Int) (r : Rw) (hn : n ≠ 0) : Rv (zAe n r) v = if v = n then r else ⟨[], v⟩ := by
 unfold Rv
 by_cases h0 : v = 0
 ·rw [if_pos h0, if_neg (fun (e : v = n) => hn (by rw [← e]; exact h0)), h0]
 ·rw [if_neg h0, zBD]; split <;> rfl
theorem rowOk_eq {a b : Rw} (ha : ZW a.labels a.var = true) (hb : ZW b.labels b.var = true) (hc : ∀ x, a.labels.count x = b.labels.count x) (hv : a.var = b.var) : a = b := by
 have h1 := sort_iff.2 hc
 rw [(ZU ha).1, (ZU hb).1] at h1
 obtain ⟨l, v⟩ := a; obtain ⟨k, u⟩ := b
 simp only at h1 hv; rw [h1, hv]
theorem rowsV_post {tv rv : List Int} {w : Nat} {U V : USt} {A B : Rw} {e : Int} (h : UInv tv rv w U) (h0 : 0 < U.nx) (hA : ZW A.labels A.var = true) (hB : ZW B.labels B.var = true) (vA : 0 < A.var → A.var ∈ rv ∧ zP A.var U.s.rs = none) (vB : 0 < B.var → B.var ∈ rv ∧ zP B.var U.s.rs = none)
  (lA : A.labels.length ≤ w) (lB : B.labels.length ≤ w) (cA : zQ U.s A = A) (cB : zQ U.s B = B) (he : zCi A B (ZR A.labels B.labels) (ZR B.labels A.labels) U = (e, V)) :
  (e = 5 ∧ V = U) ∨ (e = 0 ∧ ∃ rv' w', UP tv rv w U rv' w' V ∧ zQ V.s A = zQ V.s B) := by
 have pA := (ZU hA).2; have pB := (ZU hB).2
 have hp := fun x => zBU x A.labels B.labels
 have hq := fun x => zBU x B.labels A.labels
 have sp := zBB A.labels B.labels
 have sq := zBB B.labels A.labels
 have lp := zAz A.labels B.labels
 have lq := zAz B.labels A.labels
 generalize ZR A.labels B.labels = p at *
 generalize ZR B.labels A.labels = q at *
 unfold zCi at he
 split at he
 ·rename_i hpq
  obtain ⟨rfl, rfl⟩ := hpq
  simp only [List.count_nil] at hp hq
  split at he
  ·rename_i huv
   injection he with e1 e2; subst e1; subst e2
   refine .inr ⟨rfl, rv, w, UP.refl h, ?_⟩
   rw [rowOk_eq hA hB (fun x => by have := hp x; have := hq x; omega) huv]
  ·rename_i huv
   split at he
   ·rename_i hu
    injection he with e1 e2; subst e1; subst e2
    have hv := vB (by omega)
    obtain ⟨hP, hR⟩ := zEr (r := ⟨[], 0⟩) h hv.1 hv.2 rfl (Nat.zero_le _) (fun p => absurd p (by simp))
    refine .inr ⟨rfl, rv, w + w, hP, ?_⟩
    rw [hR, hR, cA, cB, zAo, zBN _ _ _ (by omega), zBN _ _ _ (by omega), if_neg huv, if_pos rfl]
    exact ⟨fun x => by have := hp x; have := hq x; simp; omega, hu⟩
   ·rename_i hu
    injection he with e1 e2; subst e1; subst e2
    have hv := vA (by omega)
    obtain ⟨hP, hR⟩ := zEr (r := ⟨[], B.var⟩) h hv.1 hv.2 (by unfold ZW; simp [pB, ZF]) (Nat.zero_le _) (fun p => ⟨(vB p).1, (vB p).2, Ne.symm huv⟩)
    refine .inr ⟨rfl, rv, w + w, hP, ?_⟩
    rw [hR, hR, cA, cB, zAo, zBN _ _ _ hu, zBN _ _ _ hu, if_pos rfl, if_neg (Ne.symm huv)]
    exact ⟨fun x => by have := hp x; have := hq x; omega, rfl⟩
 ·rename_i hpq
  split at he
  ·injection he with e1 e2; exact .inl ⟨e1.symm, e2.symm⟩
  ·rename_i hno
   have hno1 : p ≠ [] → B.var ≠ 0 := fun a b => hno (.inl ⟨a, b⟩)
   have hno2 : q ≠ [] → A.var ≠ 0 := fun a b => hno (.inr (.inl ⟨a, b⟩))
   have huv : A.var ≠ B.var := fun a => hno (.inr (.inr a))
   split at he
   ·rename_i hq0
    have hp0 : p ≠ [] := fun a => hpq ⟨a, hq0⟩
    subst hq0
    simp only [List.count_nil] at hq
    injection he with e1 e2; subst e1; subst e2
    have hv := vB (by have := hno1 hp0; omega)
    obtain ⟨hP, hR⟩ := zEr (r := ⟨p, A.var⟩) h hv.1 hv.2 (zAb hA sp pA) (by show p.length ≤ w; omega) (fun p => ⟨(vA p).1, (vA p).2, huv⟩)
    refine .inr ⟨rfl, rv, w + w, hP, ?_⟩
    rw [hR, hR, cA, cB, zAo, zBN _ _ _ (hno1 hp0), zBN _ _ _ (hno1 hp0), if_neg huv, if_pos rfl]
    exact ⟨fun x => by have := hp x; have := hq x; simp only [List.count_nil]; omega, rfl⟩
   ·rename_i hq0
    split at he
    ·rename_i hp0
     subst hp0
     simp only [List.count_nil] at hp
     injection he with e1 e2; subst e1; subst e2
     have hv := vA (by have := hno2 hq0; omega)
     obtain ⟨hP, hR⟩ := zEr (r := ⟨q, B.var⟩) h hv.1 hv.2 (zAb hB sq pB) (by show q.length ≤ w; omega) (fun p => ⟨(vB p).1, (vB p).2, Ne.symm huv⟩)
     refine .inr ⟨rfl, rv, w + w, hP, ?_⟩
     rw [hR, hR, cA, cB, zAo, zBN _ _ _ (hno2 hq0), zBN _ _ _ (hno2 hq0), if_pos rfl, if_neg (Ne.symm huv)]
     exact ⟨fun x => by have := hp x; have := hq x; simp only [List.count_nil]; omega, rfl⟩
    ·rename_i hp0
     injection he with e1 e2; subst e1; subst e2
     have hv := vB (by have := hno1 hp0; omega)
     have hu := vA (by have := hno2 hq0; omega)
     obtain ⟨hP, hR⟩ := row_step2 (q := q) (p := p) h h0 huv hu hv (zAb hB sq (by omega)) (zAb hA sp (by omega)) (by omega) (by omega)
     have hn := h.new
     have hun : A.var ≠ U.nx := fun e => hn.2 (e ▸ hu.1)
     have hvn : B.var ≠ U.nx := fun e => hn.2 (e ▸ hv.1)
     have ha1 : zQ (zAe A.var ⟨q, U.nx⟩) A = ⟨ZT (A.labels ++ q), U.nx⟩ := by rw [zAd, zBN _ _ _ (hno2 hq0), if_pos rfl]
     have hb1 : zQ (zAe A.var ⟨q, U.nx⟩) B = ⟨ZT B.labels, B.var⟩ := by rw [zAd, zBN _ _ _ (hno2 hq0), if_neg (Ne.symm huv), List.append_nil]
     refine .inr ⟨rfl, _, w + w, hP, ?_⟩
     rw [hR, hR, cA, cB, ha1, hb1, zAo, zBN _ _ _ (hno1 hp0), zBN _ _ _ (hno1 hp0), if_neg (Ne.symm hvn), if_pos rfl]
     refine ⟨fun x => ?_, rfl⟩
     have := hp x; have := hq x
     simp only [zGh, List.count_append, List.count_nil]; omega
theorem UInv.row {tv rv : List Int} {w : Nat} {U : USt} (h : UInv tv rv w U) {a : Rw} (ha : ZW a.labels a.var = true) (va : 0 < a.var → a.var ∈ rv) :
  ZW (zQ U.s a).labels (zQ U.s a).var = true ∧ (0 < (zQ U.s a).var → (zQ U.s a).var ∈ rv ∧ zP (zQ U.s a).var U.s.rs = none) ∧ zQ U.s (zQ U.s a) = zQ U.s a := by
 refine ⟨zCQ ha (fun n x e => (h.ok.rs n x e).2), ?_, zBh h.self a⟩
 rw [zAd]
 dsimp only
 by_cases hz : a.var = 0
 ·rw [hz, zDs]; intro p; exact absurd p (by simp)
 ·have hp : 0 < a.var := by have := (ZU ha).2; omega
  cases hl : zP a.var U.s.rs with
  | none => rw [zEi hl]; exact fun _ => ⟨va hp, hl⟩
  | some r => rw [zDD hl hz]; exact (h.rk _ _ hl).2.2.2
theorem zFR {tv rv : List Int} {w : Nat} {U V : USt} {a b : Rw} {e : Int} (h : UInv tv rv w U) (h0 : 0 < U.nx) (ha : ZW a.labels a.var = true) (hb : ZW b.labels b.var = true) (va : 0 < a.var → a.var ∈ rv) (vb : 0 < b.var → b.var ∈ rv) (la : (zQ U.s a).labels.length ≤ w) (lb : (zQ U.s b).labels.length ≤ w)
  (he : zAc a b U = (e, V)) : (e = 5 ∧ V = U) ∨ (e = 0 ∧ ∃ rv' w', UP tv rv w U rv' w' V ∧ zQ V.s a = zQ V.s b) := by
 obtain ⟨a1, a2, a3⟩ := h.row ha va
 obtain ⟨b1, b2, b3⟩ := h.row hb vb
 rcases rowsV_post h h0 a1 b1 a2 b2 la lb a3 b3 he with q | ⟨q, rv', w', hP, hE⟩
 ·exact .inl q
 ·refine .inr ⟨q, rv', w', hP, ?_⟩
  rw [← zBh hP.ab a, ← zBh hP.ab b, hE]
theorem zAM {t : Ty} (h : zz t = true) (h6 : t.kind = 6) : ∃ x, t = ⟨6, [], 0, [x], [], 0⟩ ∧ zz x = true := by
 have h' := h
 rw [zAN, hdT6 h6] at h
 simp only [Bool.and_eq_true, decide_eq_true_eq, zCm] at h
 obtain ⟨⟨⟨⟨h1, h2, h3⟩, h4⟩, h5⟩, _⟩ := h
 obtain ⟨k, nm, v, ks, ls, rv⟩ := t
 simp only [Ty.kind, Ty.name, Ty.var, Ty.args, Ty.labels, Ty.rv] at *
 have e2 : ls = [] := List.eq_nil_of_length_eq_zero (by omega)
 subst e2; subst h3; subst h4; subst h5; subst h6
 match ks, h1 with
 | [x], _ => exact ⟨x, rfl, Zw h' (.head _)⟩
theorem zAK {t : Ty} (h : zz t = true) (h5 : t.kind = 5) : ∃ x y ls rv, t = ⟨5, [], 0, [x, y], ls, rv⟩ ∧ zz x = true ∧ zz y = true ∧ ZW ls rv = true := by
 have h' := h
 rw [zAN, hdT5 h5] at h
 simp only [Bool.and_eq_true, decide_eq_true_eq] at h
 obtain ⟨⟨⟨⟨h1, h2⟩, h3⟩, h4⟩, _⟩ := h
 obtain ⟨k, nm, v, ks, ls, rv⟩ := t
 simp only [Ty.kind, Ty.name, Ty.var, Ty.args, Ty.labels, Ty.rv] at *
 subst h3; subst h4; subst h5
 match ks, h1 with
 | [x, y], _ => exact ⟨x, y, ls, rv, rfl, Zw h' (.head _), Zw h' (.tail _ (.head _)), h2⟩
theorem zBo (s : Sub) (x y : Ty) (ls : List Str) (rv : Int) : zM s ⟨5, [], 0, [x, y], ls, rv⟩ = ⟨5, [], 0, [zM s x, zM s y], (zQ s ⟨ls, rv⟩).labels, (zQ s ⟨ls, rv⟩).var⟩ := by
 rw [zM]; simp [zo]
theorem zDr (s : Sub) (x : Ty) : zM s ⟨6, [], 0, [x], [], 0⟩ = ⟨6, [], 0, [zM s x], [], 0⟩ := by
 rw [zM]; simp [zo]
theorem zEV : ∀ (k : Nat) (a b : Ty) (U : USt) (R : Int × USt), ZX k a b U = some R → ∀ (tv rv : List Int) (w : Nat), UInv tv rv w U → 0 < U.nx → zz a = true → zz b = true → Sc tv rv a → Sc tv rv b → wdT (zM U.s a) ≤ w → wdT (zM U.s b) ≤ w →
  ∃ rv' w', UP tv rv w U rv' w' R.2 ∧ (R.1 = 0 ∨ R.1 = 5 ∨ R.1 = 6) ∧ (R.1 = 0 → zM R.2.s a = zM R.2.s b) := by
 intro k
 induction k with
 | zero => intro a b U R hR; rw [ZX] at hR; cases hR
 | succ k ih =>
  intro a b U R hR tv rv w hI h0 ra rb sa sb wa wb
  obtain ⟨_, hB⟩ := zCO hR
  have da := hI.sc ra sa; have db := hI.sc rb sb
  have pra := zAL hI.ok ra; have prb := zAL hI.ok rb
  have ea := Z4 hI.self a ra; have eb := Z4 hI.self b rb
  have fa : ∀ {V : USt}, Abs V.s U.s → zM V.s (zM U.s a) = zM V.s a := fun h => Z4 h a ra
  have fb : ∀ {V : USt}, Abs V.s U.s → zM V.s (zM U.s b) = zM V.s b := fun h => Z4 h b rb
  generalize zM U.s a = pa at *
  generalize zM U.s b = pb at *
  -- it is enough to look at what is made of both
  suffices hs : ∃ rv' w', UP tv rv w U rv' w' R.2 ∧ (R.1 = 0 ∨ R.1 = 5 ∨ R.1 = 6) ∧ (R.1 = 0 → zM R.2.s pa = zM R.2.s pb) by
   obtain ⟨rv', w', h1, h2, h3⟩ := hs
   exact ⟨rv', w', h1, h2, fun h => by rw [← fa h1.ab, ← fb h1.ab]; exact h3 h⟩
  unfold Zp at hB
  split at hB
  ·rename_i heq
   injection hB with hB; subst hB
   exact ⟨rv, w, UP.refl hI, .inl rfl, fun _ => by rw [heq]⟩
  ·split at hB
   ·rename_i h7
    injection hB with hB
    have hv := zAm pra h7
    have h1 := da.here.1 h7
    cases hc : isU pa.var pb U with
    | mk e V =>
    rw [hc] at hB; subst hB
    by_cases he : e = 0
    ·subst he
     obtain ⟨hP, e1, e2⟩ := is_post hI h1.1 h1.2 prb db wb hc
     exact ⟨rv, w, hP, .inl rfl, fun _ => by rw [e1, hv]; exact e2⟩
    ·obtain ⟨rfl, h2⟩ := is_err hc he
     exact ⟨rv, w, UP.refl hI, .inr h2, fun h => absurd h he⟩
   ·split at hB
    ·rename_i h7
     injection hB with hB
     have hv := zAm prb h7
     have h1 := db.here.1 h7
     cases hc : isU pb.var pa U with
     | mk e V =>
     rw [hc] at hB; subst hB
     by_cases he : e = 0
     ·subst he
      obtain ⟨hP, e1, e2⟩ := is_post hI h1.1 h1.2 pra da wa hc
      exact ⟨rv, w, hP, .inl rfl, fun _ => by rw [e1, hv]; exact e2.symm⟩
     ·obtain ⟨rfl, h2⟩ := is_err hc he
      exact ⟨rv, w, UP.refl hI, .inr h2, fun h => absurd h he⟩
    ·split at hB
     ·injection hB with hB; subst hB
      exact ⟨rv, w, UP.refl hI, .inr (.inl rfl), fun h => absurd h (by simp)⟩
     ·rename_i hkk
      have hk : pa.kind = pb.kind := Decidable.byContradiction fun h => hkk (.inl h)
      split at hB
      ·rename_i h6
       obtain ⟨x, rfl, rx⟩ := zAM pra h6.1
       obtain ⟨y, rfl, ry⟩ := zAM prb (hk ▸ h6.1)
       have dx := da.here.2.2 x (.head _); have dy := db.here.2.2 y (.head _)
       have ux : zM U.s x = x := Zv rx (dx.mono (fun _ q => q.2) (fun _ q => q.2))
       have uy : zM U.s y = y := Zv ry (dy.mono (fun _ q => q.2) (fun _ q => q.2))
       obtain ⟨rv', w', hP, h2, h3⟩ := ih x y U R hB tv rv w hI h0 rx ry (dx.mono (fun _ q => q.1) (fun _ q => q.1)) (dy.mono (fun _ q => q.1) (fun _ q => q.1))
        (by rw [ux]; exact Nat.le_trans (zAT (t := ⟨6, [], 0, [x], [], 0⟩) (.head _)) wa) (by rw [uy]; exact Nat.le_trans (zAT (t := ⟨6, [], 0, [y], [], 0⟩) (.head _)) wb)
       exact ⟨rv', w', hP, h2, fun h => by rw [zDr, zDr, h3 h]⟩
      ·split at hB
       ·rename_i h5
        obtain ⟨x1, y1, l1, r1, rfl, rx1, ry1, ro1⟩ := zAK pra h5.1
        obtain ⟨x2, y2, l2, r2, rfl, rx2, ry2, ro2⟩ := zAK prb (hk ▸ h5.1)
        have dx1 := da.here.2.2 x1 (.head _); have dx2 := db.here.2.2 x2 (.head _)
        have dy1 := da.here.2.2 y1 (.tail _ (.head _)); have dy2 := db.here.2.2 y2 (.tail _ (.head _))
        have dr1 := da.here.2.1 rfl; have dr2 := db.here.2.1 rfl
        have fr : ∀ {z : Ty}, zz z = true → AllV (fun v => v ∈ tv ∧ zP v U.s.ts = none) (fun v => v ∈ rv ∧ zP v U.s.rs = none) z → zM U.s z = z := fun h k => Zv h (k.mono (fun _ q => q.2) (fun _ q => q.2))
        have sc : ∀ {z : Ty} {rv' : List Int}, (∀ v ∈ rv, v ∈ rv') → AllV (fun v => v ∈ tv ∧ zP v U.s.ts = none) (fun v => v ∈ rv ∧ zP v U.s.rs = none) z → Sc tv rv' z := fun h k => k.mono (fun _ q => q.1) (fun _ q => h _ q.1)
        have w1 : ∀ {z : Ty}, z ∈ [x1, y1] → wdT z ≤ w := fun h => Nat.le_trans (zAT (t := ⟨5, [], 0, [x1, y1], l1, r1⟩) h) wa
        have w2 : ∀ {z : Ty}, z ∈ [x2, y2] → wdT z ≤ w := fun h => Nat.le_trans (zAT (t := ⟨5, [], 0, [x2, y2], l2, r2⟩) h) wb
        obtain ⟨R1, e1, e2⟩ := Z5 hB
        change ZX k x1 x2 U = some R1 at e1
        obtain ⟨rv1, z1, hP1, c1, g1⟩ := ih x1 x2 U R1 e1 tv rv w hI h0 rx1 rx2 (sc (fun _ q => q) dx1) (sc (fun _ q => q) dx2) (by rw [fr rx1 dx1]; exact w1 (.head _)) (by rw [fr rx2 dx2]; exact w2 (.head _))
        by_cases hn1 : R1.1 ≠ 0
        ·rw [if_pos hn1] at e2; injection e2 with e2; subst e2
         exact ⟨rv1, z1, hP1, c1, fun h => absurd h hn1⟩
        ·rw [if_neg hn1] at e2
         have g1 := g1 (Decidable.byContradiction hn1)
         obtain ⟨R2, e3, e4⟩ := Z5 e2
         obtain ⟨_, e3⟩ := zDd e3
         change zAc ⟨l1, r1⟩ ⟨l2, r2⟩ R1.2 = R2 at e3
         have wp1 := hP1.wd _ pra (by rw [ea]; exact wa)
         have wp2 := hP1.wd _ prb (by rw [eb]; exact wb)
         rw [zBo, zAt] at wp1 wp2
         simp only [Ty.labels] at wp1 wp2
         obtain ⟨f2, V2⟩ := R2
         rcases zFR hP1.inv (by have := hP1.nx.1; omega) ro1 ro2 (fun p => hP1.sub _ (dr1 p).1) (fun p => hP1.sub _ (dr2 p).1) (by omega) (by omega) e3 with ⟨q1, q2⟩ | ⟨q1, rv2, z2, hP2, g2⟩
         ·dsimp only at e4 
          rw [if_pos (by rw [q1]; decide)] at e4; injection e4 with e4; subst e4; subst q2
          exact ⟨rv1, z1, hP1, .inr (.inl q1), fun h => absurd (q1.symm.trans h) (by decide)⟩
         ·dsimp only at e4
          rw [if_neg (by rw [q1]; decide)] at e4
          have hP12 := hP1.trans hI hP2
          obtain ⟨R3, e5, e6⟩ := Z5 e4
          change ZX k y1 y2 V2 = some R3 at e5
          obtain ⟨rv3, z3, hP3, c3, g3⟩ := ih y1 y2 V2 R3 e5 tv rv2 z2 hP12.inv (by have := hP12.nx.1; omega) ry1 ry2 (sc hP12.sub dy1) (sc hP12.sub dy2) (hP12.wd _ ry1 (by rw [fr ry1 dy1]; exact w1 (.tail _ (.head _)))) (hP12.wd _ ry2 (by rw [fr ry2 dy2]; exact w2 (.tail _ (.head _))))
          have hP := hP12.trans hI hP3
          have hR3 : R = R3 := by
           by_cases hn3 : R3.1 ≠ 0
           ·rw [if_pos hn3] at e6; injection e6 with e6; exact e6.symm
           ·rw [if_neg hn3, zCK] at e6; injection e6 with e6; rw [← e6, ← Decidable.byContradiction hn3]
          rw [hR3]
          refine ⟨rv3, z3, hP, c3, fun h => ?_⟩
          have ok1 := hP1.inv.ok
          have hab1 : Abs R3.2.s R1.2.s := hP3.ab.trans hP2.ab ok1
          rw [zBo, zBo, g3 h, ← Z4 hab1 x1 rx1, g1, Z4 hab1 x2 rx2, ← zBh hP3.ab ⟨l1, r1⟩, g2, zBh hP3.ab ⟨l2, r2⟩]
       ·injection hB with hB; subst hB
        exact ⟨rv, w, UP.refl hI, .inr (.inl rfl), fun h => absurd h (by simp)⟩
end Go.Proofs.YtlidonjpgigocaaGreat
namespace Go.Proofs.YtlidonjpgigocaaGreat
set_option linter.all false
set_option maxRecDepth 4000
open Go.RowKit
theorem runU_mono {f g h f' h' : USt → Option (Int × USt)} (hf : ∀ U R, f U = some R → f' U = some R) (hh : ∀ U R, h U = some R → h' U = some R) {U : USt} {R : Int × USt} (e : zCK [f, g, h] U = some R) : zCK [f', g, h'] U = some R := by
 obtain ⟨r1, a1, b1⟩ := Z5 e
 rw [zCK, hf _ _ a1]; dsimp only
 split at b1
 ·rw [if_pos (by assumption)]; exact b1
 ·rw [if_neg (by assumption)]
  obtain ⟨r2, a2, b2⟩ := Z5 b1
  rw [zCK, a2]; dsimp only
  split at b2
  ·rw [if_pos (by assumption)]; exact b2
  ·rw [if_neg (by assumption)]
   obtain ⟨r3, a3, b3⟩ := Z5 b2
   rw [zCK, hh _ _ a3]; exact b3
theorem typesB_mono {r r' : Ty → Ty → USt → Option (Int × USt)} (h : ∀ a b U R, r a b U = some R → r' a b U = some R) {a b : Ty} {U : USt} {R : Int × USt} (e : Zp r a b U = some R) : Zp r' a b U = some R := by
 unfold Zp at e ⊢
 by_cases c1 : a = b
 ·rw [if_pos c1] at e ⊢; exact e
 ·rw [if_neg c1] at e ⊢
  by_cases c2 : a.kind = 7
  ·rw [if_pos c2] at e ⊢; exact e
  ·rw [if_neg c2] at e ⊢
   by_cases c3 : b.kind = 7
   ·rw [if_pos c3] at e ⊢; exact e
   ·rw [if_neg c3] at e ⊢
    by_cases c4 : a.kind ≠ b.kind ∨ a.args.length ≠ b.args.length
    ·rw [if_pos c4] at e ⊢; exact e
    ·rw [if_neg c4] at e ⊢
     by_cases c5 : a.kind = 6 ∧ a.args.length = 1
     ·rw [if_pos c5] at e ⊢; exact h _ _ _ _ e
     ·rw [if_neg c5] at e ⊢
      by_cases c6 : a.kind = 5 ∧ a.args.length = 2
      ·rw [if_pos c6] at e ⊢; exact runU_mono (fun U R q => h _ _ _ _ q) (fun U R q => h _ _ _ _ q) e
      ·rw [if_neg c6] at e ⊢; exact e
theorem zFc : ∀ (k : Nat) (a b : Ty) (U : USt) (R : Int × USt), ZX k a b U = some R → ZX (k + 1) a b U = some R
 | 0, a, b, U, R, h => by rw [ZX] at h; cases h
 | k + 1, a, b, U, R, h => by
  obtain ⟨h1, h2⟩ := zCO h
  rw [ZX, if_pos h1]
  exact typesB_mono (zFc k) h2
theorem typesU_le {k j : Nat} (h : k ≤ j) {a b : Ty} {U : USt} {R : Int × USt} (e : ZX k a b U = some R) : ZX j a b U = some R := by
 induction h with
 | refl => exact e
 | step _ ih => exact zFc _ _ _ _ _ ih
theorem zDj : ∀ (N : Nat) (l : List Int), l.Nodup → (∀ x ∈ l, 1 ≤ x ∧ x ≤ (N : Int)) → l.length ≤ N
 | 0, l, _, h => by
  cases l with
  | nil => exact Nat.le_refl _
  | cons x l => have := h x (.head _); omega
 | N + 1, l, hn, h => by
  have h1 := zDj N (l.erase ((N + 1 : Nat) : Int)) (hn.erase _) (fun x hx => by
   have h2 := h x (List.mem_of_mem_erase hx)
   have h3 : x ≠ ((N + 1 : Nat) : Int) := fun e => by subst e; exact (List.Nodup.not_mem_erase hn) hx
   omega)
  have h2 := List.length_erase (a := ((N + 1 : Nat) : Int)) (l := l)
  split at h2 <;> omega
theorem UInv.okS {tv rv : List Int} {w : Nat} {U : USt} (h : UInv tv rv w U) (hw : w ≤ 50000000) (h0 : 0 < U.nx) (hn : U.nx ≤ 1000000) : OkS U := by
 have hk : ∀ p ∈ U.s.ts, zP p.1 U.s.ts = some p.2 := fun p hp => Z7 h.ap.1 hp
 have hr : ∀ p ∈ U.s.rs, zP p.1 U.s.rs = some p.2 := fun p hp => Z7 h.ap.2 hp
 refine ⟨fun p hp => ?_, fun p hp => ?_, ⟨?_, ?_⟩, ⟨by omega, by omega⟩⟩
 ·obtain ⟨a, _, c, d, _⟩ := h.tk _ _ (hk p hp)
  have := h.tp _ a
  unfold zBI at c
  rw [Bool.or_eq_false_iff] at c
  have c1 := c.1
  simp only [decide_eq_false_iff_not] at c1
  exact ⟨by omega, by omega, by unfold Zg; omega⟩
 ·obtain ⟨a, _, c, _⟩ := h.rk _ _ (hr p hp)
  have := h.rp _ a
  exact ⟨by omega, by unfold Zg; omega⟩
 ·rw [← List.length_map (f := Prod.fst)]
  refine zDj _ _ h.ap.1 fun x hx => ?_
  obtain ⟨p, hp, rfl⟩ := List.mem_map.1 hx
  exact h.tp _ (h.tk _ _ (hk p hp)).1
 ·rw [← List.length_map (f := Prod.fst)]
  refine zDj _ _ h.ap.2 fun x hx => ?_
  obtain ⟨p, hp, rfl⟩ := List.mem_map.1 hx
  have := h.rp _ (h.rk _ _ (hr p hp)).1
  exact ⟨this.1, by omega⟩
def CB (tv : List Int) (U : USt) (a : Ty) : Prop := ∀ rv' w' V, UInv tv rv' w' V → Abs V.s U.s → ZH (zM V.s a) ≤ 100000000
theorem CB.arg {tv rv : List Int} {w : Nat} {U V : USt} {a x : Ty} (h : CB tv U a) (hU : UInv tv rv w U) (hab : Abs V.s U.s) (ra : zz a = true) (h7 : ¬ (zM U.s a).kind = 7) (hx : x ∈ (zM U.s a).args) : CB tv V x := fun rv' w' W hW hWV => by
 have hWU := hWV.trans hab hU.ok
 have h1 := h rv' w' W hW hWU
 rw [← Z4 hWU a ra, Zy, (zAi (s := W.s) h7).2.2.2.1, zCh] at h1
 have h2 := zBX (List.mem_map.2 ⟨x, hx, rfl⟩ : zM W.s x ∈ (zM U.s a).args.map (zM W.s))
 omega
theorem zDA {r : Ty → Ty → USt → Option (Int × USt)} {x1 y1 x2 y2 : Ty} {l1 l2 : List Str} {r1 r2 : Int} {U : USt} (hne : ¬ (⟨5, [], 0, [x1, y1], l1, r1⟩ : Ty) = ⟨5, [], 0, [x2, y2], l2, r2⟩) :
  Zp r ⟨5, [], 0, [x1, y1], l1, r1⟩ ⟨5, [], 0, [x2, y2], l2, r2⟩ U = zCK [r x1 x2, zFn ⟨l1, r1⟩ ⟨l2, r2⟩, r y1 y2] U := by
 unfold Zp
 rw [if_neg hne, if_neg (by simp [Ty.kind]), if_neg (by simp [Ty.kind]), if_neg (by simp [Ty.kind, Ty.args]), if_neg (by simp [Ty.kind]), if_pos (by simp [Ty.kind, Ty.args])]
 rfl
theorem typesB_ref {r : Ty → Ty → USt → Option (Int × USt)} {x y : Ty} {U : USt} (hne : ¬ (⟨6, [], 0, [x], [], 0⟩ : Ty) = ⟨6, [], 0, [y], [], 0⟩) : Zp r ⟨6, [], 0, [x], [], 0⟩ ⟨6, [], 0, [y], [], 0⟩ U = r x y U := by
 unfold Zp
 rw [if_neg hne, if_neg (by simp [Ty.kind]), if_neg (by simp [Ty.kind]), if_neg (by simp [Ty.kind, Ty.args]), if_pos (by simp [Ty.kind, Ty.args])]
 rfl
theorem zGr {f : USt → Option (Int × USt)} {l : List (USt → Option (Int × USt))} {U : USt} {r : Int × USt} (h : f U = some r) (h0 : r.1 ≠ 0) : zCK (f :: l) U = some r := by rw [zCK, h]; dsimp only; rw [if_pos h0]
theorem zFK {f : USt → Option (Int × USt)} {l : List (USt → Option (Int × USt))} {U : USt} {r : Int × USt} (h : f U = some r) (h0 : r.1 = 0) : zCK (f :: l) U = zCK l r.2 := by rw [zCK, h]; dsimp only; rw [if_neg (by omega)]
theorem le_pow {w n : Nat} : w ≤ w * 2 ^ n := Nat.le_mul_of_pos_right _ (Nat.pow_pos (by omega))
theorem types_ex (tv : List Int) : ∀ (m n : Nat) (a b : Ty) (U : USt) (rv : List Int) (w : Nat), UInv tv rv w U → 0 < U.nx → zz a = true → zz b = true → Sc tv rv a → Sc tv rv b → wdT (zM U.s a) ≤ w → wdT (zM U.s b) ≤ w →
  w * 2 ^ zAA rv U ≤ 50000000 → U.nx + zAA rv U ≤ 1000000 → wdT a ≤ 50000000 → wdT b ≤ 50000000 → CB tv U a → CB tv U b → zEn tv U = m → ZH (zM U.s a) = n → ∃ k R, ZX k a b U = some R := by
 intro m
 induction m using Nat.strongRecOn with
 | _ m ihm =>
 intro n
 induction n using Nat.strongRecOn with
 | _ n ihn =>
 intro a b U rv w hI h0 ra rb sa sb wa wb hbud hnx ba bb ca cb hm hn
 have hw5 : w ≤ 50000000 := Nat.le_trans le_pow hbud
 have hok : OkS U ∧ OkT U a ∧ OkT U b := ⟨hI.okS hw5 h0 (by omega), ⟨ba, ca _ _ _ hI hI.self⟩, ⟨bb, cb _ _ _ hI hI.self⟩⟩
 have da := hI.sc ra sa; have db := hI.sc rb sb
 have pra := zAL hI.ok ra; have prb := zAL hI.ok rb
 have ea := Z4 hI.self a ra; have eb := Z4 hI.self b rb
 have argA : ∀ {V : USt} {x : Ty}, Abs V.s U.s → ¬ (zM U.s a).kind = 7 → x ∈ (zM U.s a).args → CB tv V x := fun h1 h2 h3 => ca.arg hI h1 ra h2 h3
 have argB : ∀ {V : USt} {x : Ty}, Abs V.s U.s → ¬ (zM U.s b).kind = 7 → x ∈ (zM U.s b).args → CB tv V x := fun h1 h2 h3 => cb.arg hI h1 rb h2 h3
 suffices hs : ∃ k R, Zp (ZX k) (zM U.s a) (zM U.s b) U = some R by
  obtain ⟨k, R, h⟩ := hs
  exact ⟨k + 1, R, by rw [ZX, if_pos hok]; exact h⟩
 clear hok
 generalize zM U.s a = pa at *
 generalize zM U.s b = pb at *
 by_cases c1 : pa = pb
 ·exact ⟨0, _, by unfold Zp; rw [if_pos c1]⟩
 by_cases c2 : pa.kind = 7
 ·exact ⟨0, _, by unfold Zp; rw [if_neg c1, if_pos c2]⟩
 by_cases c3 : pb.kind = 7
 ·exact ⟨0, _, by unfold Zp; rw [if_neg c1, if_neg c2, if_pos c3]⟩
 by_cases c4 : pa.kind ≠ pb.kind ∨ pa.args.length ≠ pb.args.length
 ·exact ⟨0, _, by unfold Zp; rw [if_neg c1, if_neg c2, if_neg c3, if_pos c4]⟩
 have hk : pa.kind = pb.kind := Decidable.byContradiction fun h => c4 (.inl h)
 by_cases c5 : pa.kind = 6 ∧ pa.args.length = 1
 ·obtain ⟨x, rfl, rx⟩ := zAM pra c5.1
  obtain ⟨y, rfl, ry⟩ := zAM prb (hk ▸ c5.1)
  have dx := da.here.2.2 x (.head _); have dy := db.here.2.2 y (.head _)
  have ux : zM U.s x = x := Zv rx (dx.mono (fun _ q => q.2) (fun _ q => q.2))
  have uy : zM U.s y = y := Zv ry (dy.mono (fun _ q => q.2) (fun _ q => q.2))
  have wx : wdT x ≤ w := Nat.le_trans (zAT (t := ⟨6, [], 0, [x], [], 0⟩) (.head _)) wa
  have wy : wdT y ≤ w := Nat.le_trans (zAT (t := ⟨6, [], 0, [y], [], 0⟩) (.head _)) wb
  have hc := Zy (⟨6, [], 0, [x], [], 0⟩ : Ty)
  simp only [Ty.args, ZS] at hc
  obtain ⟨k, R, h⟩ := ihn (ZH (zM U.s x)) (by rw [ux]; omega) x y U rv w hI h0 rx ry (dx.mono (fun _ q => q.1) (fun _ q => q.1)) (dy.mono (fun _ q => q.1) (fun _ q => q.1)) (by rw [ux]; exact wx) (by rw [uy]; exact wy) hbud hnx (by omega) (by omega)
   (argA hI.self c2 (.head _)) (argB hI.self c3 (.head _)) hm rfl
  exact ⟨k, R, by rw [typesB_ref c1]; exact h⟩
 by_cases c6 : pa.kind = 5 ∧ pa.args.length = 2
 ·obtain ⟨x1, y1, l1, r1, rfl, rx1, ry1, ro1⟩ := zAK pra c6.1
  obtain ⟨x2, y2, l2, r2, rfl, rx2, ry2, ro2⟩ := zAK prb (hk ▸ c6.1)
  have dx1 := da.here.2.2 x1 (.head _); have dx2 := db.here.2.2 x2 (.head _)
  have dy1 := da.here.2.2 y1 (.tail _ (.head _)); have dy2 := db.here.2.2 y2 (.tail _ (.head _))
  have dr1 := da.here.2.1 rfl; have dr2 := db.here.2.1 rfl
  have fr : ∀ {z : Ty}, zz z = true → AllV (fun v => v ∈ tv ∧ zP v U.s.ts = none) (fun v => v ∈ rv ∧ zP v U.s.rs = none) z → zM U.s z = z := fun h k => Zv h (k.mono (fun _ q => q.2) (fun _ q => q.2))
  have sc : ∀ {z : Ty} {rv' : List Int}, (∀ v ∈ rv, v ∈ rv') → AllV (fun v => v ∈ tv ∧ zP v U.s.ts = none) (fun v => v ∈ rv ∧ zP v U.s.rs = none) z → Sc tv rv' z := fun h k => k.mono (fun _ q => q.1) (fun _ q => h _ q.1)
  have w1 : ∀ {z : Ty}, z ∈ [x1, y1] → wdT z ≤ w := fun h => Nat.le_trans (zAT (t := ⟨5, [], 0, [x1, y1], l1, r1⟩) h) wa
  have w2 : ∀ {z : Ty}, z ∈ [x2, y2] → wdT z ≤ w := fun h => Nat.le_trans (zAT (t := ⟨5, [], 0, [x2, y2], l2, r2⟩) h) wb
  have hc := Zy (⟨5, [], 0, [x1, y1], l1, r1⟩ : Ty)
  simp only [Ty.args, ZS] at hc
  have up : ∀ {z : Ty}, wdT z ≤ w → wdT z ≤ 50000000 := fun h => Nat.le_trans h hw5
  obtain ⟨k1, R1, e1⟩ := ihn (ZH (zM U.s x1)) (by rw [fr rx1 dx1]; omega) x1 x2 U rv w hI h0 rx1 rx2 (sc (fun _ q => q) dx1) (sc (fun _ q => q) dx2) (by rw [fr rx1 dx1]; exact w1 (.head _)) (by rw [fr rx2 dx2]; exact w2 (.head _)) hbud hnx (up (w1 (.head _))) (up (w2 (.head _)))
   (argA hI.self c2 (.head _)) (argB hI.self c3 (.head _)) hm rfl
  obtain ⟨rv1, z1, hP1, _, g1⟩ := zEV _ _ _ _ _ e1 tv rv w hI h0 rx1 rx2 (sc (fun _ q => q) dx1) (sc (fun _ q => q) dx2) (by rw [fr rx1 dx1]; exact w1 (.head _)) (by rw [fr rx2 dx2]; exact w2 (.head _))
  by_cases hn1 : R1.1 = 0
  ·have wp1 := hP1.wd _ pra (by rw [ea]; exact wa)
   have wp2 := hP1.wd _ prb (by rw [eb]; exact wb)
   rw [zBo, zAt] at wp1 wp2
   simp only [Ty.labels] at wp1 wp2
   have hz1 : z1 ≤ 50000000 := Nat.le_trans le_pow (Nat.le_trans hP1.bud hbud)
   have hn1' := hP1.nx
   have hw1 := zAt (⟨5, [], 0, [x1, y1], l1, r1⟩ : Ty); have hw2 := zAt (⟨5, [], 0, [x2, y2], l2, r2⟩ : Ty)
   simp only [Ty.labels] at hw1 hw2
   have e3 : zFn ⟨l1, r1⟩ ⟨l2, r2⟩ R1.2 = some (zAc ⟨l1, r1⟩ ⟨l2, r2⟩ R1.2) := by
    unfold zFn; rw [if_pos ⟨hP1.inv.okS hz1 (by omega) (by omega), by show l1.length ≤ _; omega, by show l2.length ≤ _; omega⟩]
   rcases hr2 : zAc ⟨l1, r1⟩ ⟨l2, r2⟩ R1.2 with ⟨f2, V2⟩
   rw [hr2] at e3
   rcases zFR hP1.inv (by omega) ro1 ro2 (fun p => hP1.sub _ (dr1 p).1) (fun p => hP1.sub _ (dr2 p).1) (by omega) (by omega) hr2 with ⟨q1, q2⟩ | ⟨q1, rv2, z2, hP2, g2⟩
   ·exact ⟨k1, (f2, V2), by rw [zDA c1, zFK e1 hn1, zGr e3 (by rw [q1]; simp)]⟩
   ·have hP12 := hP1.trans hI hP2
    have hn2 := hP12.nx
    have hy : ∃ k3 R3, ZX k3 y1 y2 V2 = some R3 := by
     have args := And.intro (hP12.wd _ ry1 (by rw [fr ry1 dy1]; exact w1 (.tail _ (.head _)))) (hP12.wd _ ry2 (by rw [fr ry2 dy2]; exact w2 (.tail _ (.head _))))
     rcases Nat.lt_or_ge (zEn tv V2) m with hlt | hge
     ·exact ihm (zEn tv V2) hlt (ZH (zM V2.s y1)) y1 y2 V2 rv2 z2 hP12.inv (by omega) ry1 ry2 (sc hP12.sub dy1) (sc hP12.sub dy2) args.1 args.2 (Nat.le_trans hP12.bud hbud) (by omega) (up (w1 (.tail _ (.head _)))) (up (w2 (.tail _ (.head _)))) (argA hP12.ab c2 (.tail _ (.head _))) (argB hP12.ab c3 (.tail _ (.head _))) rfl rfl
     ·have hcn : ZH (zM V2.s y1) = ZH y1 := by
       rcases hP12.cn with q | q
       ·omega
       ·rw [q, fr ry1 dy1]
      exact ihn (ZH (zM V2.s y1)) (by omega) y1 y2 V2 rv2 z2 hP12.inv (by omega) ry1 ry2 (sc hP12.sub dy1) (sc hP12.sub dy2) args.1 args.2 (Nat.le_trans hP12.bud hbud) (by omega) (up (w1 (.tail _ (.head _)))) (up (w2 (.tail _ (.head _)))) (argA hP12.ab c2 (.tail _ (.head _))) (argB hP12.ab c3 (.tail _ (.head _))) (by have := hP12.tl; omega) rfl
    obtain ⟨k3, R3, e5⟩ := hy
    have e1' := typesU_le (Nat.le_max_left k1 k3) e1
    have e5' := typesU_le (Nat.le_max_right k1 k3) e5
    by_cases hn3 : R3.1 = 0
    ·exact ⟨max k1 k3, (0, R3.2), by rw [zDA c1, zFK e1' hn1, zFK e3 q1, zFK e5' hn3]; rfl⟩
    ·exact ⟨max k1 k3, R3, by rw [zDA c1, zFK e1' hn1, zFK e3 q1, zGr e5' hn3]⟩
  ·exact ⟨k1, R1, by rw [zDA c1, zGr e1 hn1]⟩
 ·exact ⟨0, _, by unfold Zp; rw [if_neg c1, if_neg c2, if_neg c3, if_neg c4, if_neg c5, if_neg c6]⟩
end Go.Proofs.YtlidonjpgigocaaGreat
namespace Go.Proofs.YtlidonjpgigocaaGreat
set_option linter.all false
set_option maxRecDepth 4000
open Go.RowKit
-- whatever else makes two types the same goes on from what is said
theorem row_agree {s t : Sub} {r : Rw} (h : 0 < r.var → zP r.var s.rs = zP r.var t.rs) (h0 : 0 ≤ r.var) : zQ s r = zQ t r := by
 rw [zAd, zAd]
 have : Rv s r.var = Rv t r.var := by
  unfold Rv
  by_cases hz : r.var = 0
  ·rw [if_pos hz, if_pos hz]
  ·rw [if_neg hz, if_neg hz, h (by omega)]
 rw [this]
theorem type_agree {s t : Sub} (x : Ty) : zz x = true → AllV (fun v => zP v s.ts = zP v t.ts) (fun v => zP v s.rs = zP v t.rs) x → zM s x = zM t x := by
 induction x using Ty.rec_ with
 | h x ih =>
  intro hr h
  obtain ⟨h1, h2, h3⟩ := h.here
  by_cases h7 : x.kind = 7
  ·rw [ZP h7, ZP h7, h1 h7]
  ·have key : ∀ l : List Ty, (∀ u ∈ l, u ∈ x.args) → zo s l = zo t l := by
    intro l
    induction l with
    | nil => intro _; rfl
    | cons u l ihl =>
     intro hl
     rw [zo, zo, ih u (hl u (.head _)) (Zw hr (hl u (.head _))) (h3 u (hl u (.head _))), ihl fun v hv => hl v (.tail _ hv)]
   rw [Zb h7, Zb h7, key x.args fun u hu => hu]
   by_cases h5 : x.kind = 5
   ·rw [row_agree (s := s) (t := t) (r := ⟨x.labels, x.rv⟩) (fun p => h2 h5 p) (ZU (zBK hr h5).1).2]
   ·simp only [if_neg h5]
theorem zCW {t u one v : Sub} (hV : ThenS u one v) (hu : Abs t u) (ho : Abs t one) (hok : zBL u) : Abs t v := ⟨fun n x e => by
  rcases zCP hV.1 e with ⟨y, hy, rfl⟩ | ⟨_, hy⟩
  ·rw [Z4 ho y (hok.ts _ _ hy).2, hu.ts _ _ hy]
  ·exact ho.ts _ _ hy, fun n r e h0 => by
  rcases zCP hV.2 e with ⟨y, hy, rfl⟩ | ⟨_, hy⟩
  ·rw [zBh ho y, hu.rs _ _ hy h0]
  ·exact ho.rs _ _ hy h0⟩
theorem ok_then {u one v : Sub} (hV : ThenS u one v) (hu : zBL u) (ho : zBL one) : zBL v := ⟨fun n x e => by
  rcases zCP hV.1 e with ⟨y, hy, rfl⟩ | ⟨_, hy⟩
  ·exact ⟨(hu.ts _ _ hy).1, zAL ho (hu.ts _ _ hy).2⟩
  ·exact ho.ts _ _ hy, fun n r e => by
  rcases zCP hV.2 e with ⟨y, hy, rfl⟩ | ⟨_, hy⟩
  ·exact ⟨(hu.rs _ _ hy).1, zCQ (hu.rs _ _ hy).2 fun n x e => (ho.rs n x e).2⟩
  ·exact ho.rs _ _ hy⟩
theorem abs_oneT {t : Sub} {n : Int} {x : Ty} (h : zM t x = zM t (Zn n)) : Abs t (zAg n x) := by
 refine ⟨fun k y e => ?_, fun k y e => (by cases e)⟩
 rw [zBm] at e; split at e
 ·rename_i hk; injection e with e; subst e; subst hk; exact h
 ·cases e
theorem zCk {t : Sub} {n : Int} {x : Rw} (h : zQ t x = zQ t ⟨[], n⟩) : Abs t (zAe n x) := ⟨fun k y e => (by cases e), fun k y e _ => by
  rw [zBD] at e; split at e
  ·rename_i hk; injection e with e; subst e; subst hk; exact h
  ·cases e⟩
theorem oneR_ok {n : Int} {r : Rw} (hn : 1 ≤ n) (hr : ZW r.labels r.var = true) : zBL (zAe n r) := ⟨fun k y e => (by cases e), fun k y e => by
  rw [zBD] at e; split at e
  ·rename_i hk; injection e with e; subst e; subst hk; exact ⟨hn, hr⟩
  ·cases e⟩
theorem zCJ {l : List Str} (h : ∀ x, l.count x = 0) : l = [] := by
 cases l with
 | nil => rfl
 | cons a l => have := h a; rw [List.count_cons_self] at this; omega
theorem cnt_arg {t u : Ty} (h : u ∈ t.args) : ZH u < ZH t := by rw [Zy t]; have := zBX h; omega
theorem zAh (θ : Sub) (n : Int) (t : Ty) : zz t = true → n ∈ (Z1 t).1 → ZH (zM θ (Zn n)) ≤ ZH (zM θ t) ∧ (t.kind ≠ 7 → ZH (zM θ (Zn n)) < ZH (zM θ t)) := by
 induction t using Ty.rec_ with
 | h t ih =>
  intro hr hn
  by_cases h7 : t.kind = 7
  ·have hv := zAm hr h7
   have : t.var = n := by
    have h := (zDb (P := fun v => v = t.var) (Q := fun _ => True) (t := t) (.mk (fun _ => rfl) (fun _ _ => trivial) fun u hu => by rw [hv] at hu; cases hu)).1 n hn
    exact h.symm
   rw [hv, this]; exact ⟨Nat.le_refl _, fun h => absurd rfl h⟩
  ·have hex : ∃ u ∈ t.args, n ∈ (Z1 u).1 := by
    refine Classical.byContradiction fun hno => ?_
    have h := (zDb (P := fun v => v ≠ n) (Q := fun _ => True) (t := t) (.mk (fun e => absurd e h7) (fun _ _ => trivial) fun u hu => AllV.mono (P := (· ∈ (Z1 u).1)) (Q := (· ∈ (Z1 u).2)) (fun v hv => fun (e : v = n) => hno ⟨u, hu, e ▸ hv⟩) (fun _ _ => trivial) u (zFM u (Zw hr hu)))).1 n hn
    exact h rfl
   obtain ⟨u, hu, hnu⟩ := hex
   have h1 := (ih u hu (Zw hr hu) hnu).1
   have h2 : zM θ u ∈ (zM θ t).args := by rw [(zAi (s := θ) h7).2.2.2.1, zCh]; exact List.mem_map.2 ⟨u, hu, rfl⟩
   have h3 := cnt_arg h2
   exact ⟨by omega, fun _ => by omega⟩
structure Goes (U : USt) (θ θ' : Sub) : Prop where
 ok : zBL θ'
 ts : ∀ n, zP n θ'.ts = zP n θ.ts
 rs : ∀ n, n < U.nx → zP n θ'.rs = zP n θ.rs
theorem Goes.type {tv rv : List Int} {w : Nat} {U : USt} {θ θ' : Sub} (h : Goes U θ θ') (hI : UInv tv rv w U) {t : Ty} (hr : zz t = true) (hs : Sc tv rv t) : zM θ' t = zM θ t :=
 type_agree t hr (AllV.mono (P := (· ∈ tv)) (Q := (· ∈ rv)) (fun v _ => h.ts v) (fun v hv => h.rs v (hI.rp v hv).2) t hs)
theorem Goes.row {tv rv : List Int} {w : Nat} {U : USt} {θ θ' : Sub} (h : Goes U θ θ') (hI : UInv tv rv w U) {r : Rw} (hr : ZW r.labels r.var = true) (hv : 0 < r.var → r.var ∈ rv) : zQ θ' r = zQ θ r :=
 row_agree (fun p => h.rs _ (hI.rp _ (hv p)).2) (ZU hr).2
theorem Goes.trans {U V : USt} {a b c : Sub} (h : Goes U a b) (k : Goes V b c) (hn : U.nx ≤ V.nx) : Goes U a c := ⟨k.ok, fun n => (k.ts n).trans (h.ts n), fun n hn' => (k.rs n (by omega)).trans (h.rs n hn')⟩
theorem Goes.refl {U : USt} {θ : Sub} (h : zBL θ) : Goes U θ θ := ⟨h, fun _ => rfl, fun _ _ => rfl⟩
theorem is_mgu {tv rv : List Int} {w : Nat} {U V : USt} {n : Int} {t : Ty} {e : Int} {θ : Sub} (h : UInv tv rv w U) (hr : zz t = true) (hne : ¬ t = Zn n) (hab : Abs θ U.s) (heq : zM θ (Zn n) = zM θ t) (he : isU n t U = (e, V)) : e ≠ 5 ∧ (e = 0 → Abs θ V.s) := by
 unfold isU at he
 split at he
 ·rename_i hn
  have := zAh θ n t hr hn
  rw [heq] at this
  by_cases h7 : t.kind = 7
  ·exfalso
   have hv := zAm hr h7
   have h1 := (zDb (P := fun v => v = t.var) (Q := fun _ => True) (t := t) (.mk (fun _ => rfl) (fun _ _ => trivial) fun u hu => by rw [hv] at hu; cases hu)).1 n hn
   exact hne (by rw [hv, h1])
  ·have := this.2 h7; omega
 ·split at he
  ·injection he with h1 h2; subst h1; exact ⟨by decide, fun q => absurd q (by decide)⟩
  ·injection he with h1 h2; subst h1; subst h2
   exact ⟨by decide, fun _ => zCW (Zl h.ap) hab (abs_oneT heq.symm) h.ok⟩
theorem Rv_ok {θ : Sub} (h : zBL θ) {v : Int} (hv : 0 ≤ v) : ZW (Rv θ v).labels (Rv θ v).var = true := by
 by_cases h0 : v = 0
 ·rw [h0, zDs]; rfl
 ·cases hl : zP v θ.rs with
  | none => rw [zEi hl]; unfold ZW; simp [hv, ZF]
  | some r => rw [zDD hl h0]; exact (h.rs _ _ hl).2
theorem rowsV_mgu {tv rv : List Int} {w : Nat} {U V : USt} {A B : Rw} {e : Int} {θ : Sub} (h : UInv tv rv w U) (h0 : 0 < U.nx) (hA : ZW A.labels A.var = true) (hB : ZW B.labels B.var = true) (vA : 0 < A.var → A.var ∈ rv ∧ zP A.var U.s.rs = none) (vB : 0 < B.var → B.var ∈ rv ∧ zP B.var U.s.rs = none)
  (hok : zBL θ) (hab : Abs θ U.s) (heq : zQ θ A = zQ θ B) (he : zCi A B (ZR A.labels B.labels) (ZR B.labels A.labels) U = (e, V)) : e ≠ 5 ∧ (e = 0 → ∃ θ', Goes U θ θ' ∧ Abs θ' V.s) := by
 have pA := (ZU hA).2; have pB := (ZU hB).2
 have hp := fun x => zBU x A.labels B.labels
 have hq := fun x => zBU x B.labels A.labels
 obtain ⟨hc, hvv⟩ := zAo.1 heq
 have sp := zBB A.labels B.labels
 have sq := zBB B.labels A.labels
 generalize ZR A.labels B.labels = p at *
 generalize ZR B.labels A.labels = q at *
 have none0 : ∀ x : Str, (Rv θ 0).labels.count x = 0 := fun x => by rw [zDs]; simp
 unfold zCi at he
 split at he
 ·rename_i hpq
  obtain ⟨rfl, rfl⟩ := hpq
  simp only [List.count_nil] at hp hq
  split at he
  ·injection he with e1 e2; subst e1; subst e2
   exact ⟨by decide, fun _ => ⟨θ, Goes.refl hok, hab⟩⟩
  ·rename_i huv
   split at he
   ·rename_i hu
    injection he with e1 e2; subst e1; subst e2
    refine ⟨by decide, fun _ => ⟨θ, Goes.refl hok, zCW (Zl h.ap) hab (zCk ?_) h.ok⟩⟩
    rw [zAo]
    rw [hu] at hc hvv
    refine ⟨fun x => ?_, hvv⟩
    have := hp x; have := hq x; have := hc x; have := none0 x
    simp only [List.count_nil]; omega
   ·injection he with e1 e2; subst e1; subst e2
    refine ⟨by decide, fun _ => ⟨θ, Goes.refl hok, zCW (Zl h.ap) hab (zCk ?_) h.ok⟩⟩
    rw [zAo]
    refine ⟨fun x => ?_, hvv.symm⟩
    have := hp x; have := hq x; have := hc x
    simp only [List.count_nil]; omega
 ·rename_i hpq
  split at he
  ·rename_i hbad
   exfalso
   rcases hbad with ⟨h1, h2⟩ | ⟨h1, h2⟩ | h1
   ·refine h1 (zCJ fun x => ?_)
    rw [h2] at hc
    have := hc x; have := none0 x; have := hp x; omega
   ·refine h1 (zCJ fun x => ?_)
    rw [h2] at hc
    have := hc x; have := none0 x; have := hq x; omega
   ·rw [h1] at hc
    refine hpq ⟨zCJ fun x => ?_, zCJ fun x => ?_⟩
    ·have := hc x; have := hp x; omega
    ·have := hc x; have := hq x; omega
  ·rename_i hno
   have huv : A.var ≠ B.var := fun a => hno (.inr (.inr a))
   split at he
   ·rename_i hq0
    subst hq0
    simp only [List.count_nil] at hq
    injection he with e1 e2; subst e1; subst e2
    refine ⟨by decide, fun _ => ⟨θ, Goes.refl hok, zCW (Zl h.ap) hab (zCk ?_) h.ok⟩⟩
    rw [zAo]
    refine ⟨fun x => ?_, hvv⟩
    have := hp x; have := hq x; have := hc x
    simp only [List.count_nil]; omega
   ·rename_i hq0
    split at he
    ·rename_i hp0
     subst hp0
     simp only [List.count_nil] at hp
     injection he with e1 e2; subst e1; subst e2
     refine ⟨by decide, fun _ => ⟨θ, Goes.refl hok, zCW (Zl h.ap) hab (zCk ?_) h.ok⟩⟩
     rw [zAo]
     refine ⟨fun x => ?_, hvv.symm⟩
     have := hp x; have := hq x; have := hc x
     simp only [List.count_nil]; omega
    ·rename_i hp0
     injection he with e1 e2; subst e1; subst e2
     refine ⟨by decide, fun _ => ?_⟩
     have hv := vB (by have : B.var ≠ 0 := fun b => hno (.inl ⟨hp0, b⟩); omega)
     have hu := vA (by have : A.var ≠ 0 := fun b => hno (.inr (.inl ⟨hq0, b⟩)); omega)
     have hn := h.new
     have hun : A.var ≠ U.nx := fun e => hn.2 (e ▸ hu.1)
     have hvn : B.var ≠ U.nx := fun e => hn.2 (e ▸ hv.1)
     have okA := Rv_ok hok pA
     have hcw : ∀ x, (ZR (Rv θ A.var).labels q).count x = (Rv θ A.var).labels.count x - q.count x := fun x => zBU x _ _
     obtain ⟨θ', hθ'⟩ : ∃ t : Sub, t = ⟨θ.ts, zBF U.nx ⟨ZR (Rv θ A.var).labels q, (Rv θ A.var).var⟩ θ.rs⟩ := ⟨_, rfl⟩
     have lk : ∀ n, zP n θ'.rs = if n = U.nx then some ⟨ZR (Rv θ A.var).labels q, (Rv θ A.var).var⟩ else zP n θ.rs := fun n => by rw [hθ']; exact zBV n U.nx _ _
     have hg : Goes U θ θ' := by
      refine ⟨⟨fun n x e => by rw [hθ'] at e; exact hok.ts n x e, fun n r e => ?_⟩, fun n => by rw [hθ'], fun n hn' => by rw [lk, if_neg (by omega)]⟩
      rw [lk] at e
      split at e
      ·rename_i hk; injection e with e; subst e; subst hk
       exact ⟨by omega, zAb okA (zBB _ _) (ZU okA).2⟩
      ·exact hok.rs n r e
     have Ru : Rv θ' A.var = Rv θ A.var := by unfold Rv; rw [lk, if_neg hun]
     have Rv' : Rv θ' B.var = Rv θ B.var := by unfold Rv; rw [lk, if_neg hvn]
     have Rw' : Rv θ' U.nx = ⟨ZR (Rv θ A.var).labels q, (Rv θ A.var).var⟩ := zDD (by rw [lk, if_pos rfl]) (by omega)
     have hab' : Abs θ' U.s := ⟨fun n x e => by
       obtain ⟨a1, a2, _, _, a5⟩ := h.tk n x e
       rw [hg.type h a2 (a5.mono (fun _ z => z.1) (fun _ z => z.1)), hab.ts n x e]
       exact (hg.type h (zGV (h.tp n a1).1) (.mk (fun _ => a1) (fun q => absurd (show (7 : Int) = 5 from q) (by decide)) fun u hu => (by cases hu))).symm, fun n r e z => by
       obtain ⟨a1, a2, _, a4⟩ := h.rk n r e
       rw [hg.row h a2 (fun p => (a4 p).1), hab.rs n r e z]
       exact (hg.row (r := ⟨[], n⟩) h (by unfold ZW; have := (h.rp n a1).1; simp [ZF]; omega) (fun _ => a1)).symm⟩
     refine ⟨θ', hg, ?_⟩
     have h1 : ThenS U.s (zAe A.var ⟨q, U.nx⟩) (Z8 A.var q U.nx U.s) := Zl h.ap
     have okq : ZW q U.nx = true := zAb hB sq (by omega)
     have ok1 : zBL (Z8 A.var q U.nx U.s) := ok_then h1 h.ok (oneR_ok (by have := (h.rp _ hu.1).1; omega) okq)
     refine zCW (Zl (zAQ (zAk _ _))) (zCW h1 hab' (zCk ?_) h.ok) (zCk ?_) ok1
     ·rw [zAo]; dsimp only
      rw [Rw', Ru]
      refine ⟨fun x => ?_, rfl⟩
      have := hc x; have := hq x; have := hcw x
      simp only [List.count_nil]; omega
     ·rw [zAo]; dsimp only
      rw [Rw', Rv']
      refine ⟨fun x => ?_, hvv⟩
      have := hc x; have := hq x; have := hp x; have := hcw x
      simp only [List.count_nil]; omega
theorem rows_mgu {tv rv : List Int} {w : Nat} {U V : USt} {a b : Rw} {e : Int} {θ : Sub} (h : UInv tv rv w U) (h0 : 0 < U.nx) (ha : ZW a.labels a.var = true) (hb : ZW b.labels b.var = true) (va : 0 < a.var → a.var ∈ rv) (vb : 0 < b.var → b.var ∈ rv)
  (hok : zBL θ) (hab : Abs θ U.s) (heq : zQ θ a = zQ θ b) (he : zAc a b U = (e, V)) : e ≠ 5 ∧ (e = 0 → ∃ θ', Goes U θ θ' ∧ Abs θ' V.s) := by
 obtain ⟨a1, a2, a3⟩ := h.row ha va
 obtain ⟨b1, b2, b3⟩ := h.row hb vb
 exact rowsV_mgu h h0 a1 b1 a2 b2 hok hab (by rw [zBh hab, zBh hab, heq]) he
theorem zGm {t : Ty} (h : zz t = true) (h5 : t.kind ≠ 5) (h6 : t.kind ≠ 6) (h7 : t.kind ≠ 7) (θ : Sub) : zM θ t = t := by
 have ha : t.args = [] := by
  rw [zAN, Bool.and_eq_true] at h
  have h1 := h.1
  by_cases h4 : t.kind = 4
  ·rw [hdT4 h4] at h1; simp only [Bool.and_eq_true, decide_eq_true_eq] at h1; exact List.eq_nil_of_length_eq_zero (by omega)
  ·by_cases h3 : t.kind = 1 ∨ t.kind = 2 ∨ t.kind = 3
   ·rw [hdT1 h3] at h1; simp only [Bool.and_eq_true, decide_eq_true_eq] at h1; exact List.eq_nil_of_length_eq_zero (by omega)
   ·rw [hdT0 h3 h4 h7 h6 h5] at h1; cases h1
 exact Zv h (.mk (fun e => absurd e h7) (fun e => absurd e h5) fun u hu => by rw [ha] at hu; cases hu)
theorem types_mgu : ∀ (k : Nat) (a b : Ty) (U : USt) (R : Int × USt), ZX k a b U = some R → ∀ (tv rv : List Int) (w : Nat), UInv tv rv w U → 0 < U.nx → zz a = true → zz b = true → Sc tv rv a → Sc tv rv b → wdT (zM U.s a) ≤ w → wdT (zM U.s b) ≤ w →
  ∀ θ, zBL θ → Abs θ U.s → zM θ a = zM θ b → R.1 ≠ 5 ∧ (R.1 = 0 → ∃ θ', Goes U θ θ' ∧ Abs θ' R.2.s) := by
 intro k
 induction k with
 | zero => intro a b U R hR; rw [ZX] at hR; cases hR
 | succ k ih =>
  intro a b U R hR tv rv w hI h0 ra rb sa sb wa wb θ hok hab heq
  obtain ⟨_, hB⟩ := zCO hR
  have da := hI.sc ra sa; have db := hI.sc rb sb
  have pra := zAL hI.ok ra; have prb := zAL hI.ok rb
  have ea := Z4 hI.self a ra; have eb := Z4 hI.self b rb
  rw [← Z4 hab a ra, ← Z4 hab b rb] at heq
  generalize zM U.s a = pa at *
  generalize zM U.s b = pb at *
  unfold Zp at hB
  split at hB
  ·injection hB with hB; subst hB
   exact ⟨by simp, fun _ => ⟨θ, Goes.refl hok, hab⟩⟩
  ·rename_i c1
   split at hB
   ·rename_i h7
    injection hB with hB
    have hv := zAm pra h7
    cases hc : isU pa.var pb U with
    | mk e V =>
    rw [hc] at hB; subst hB
    obtain ⟨q1, q2⟩ := is_mgu hI prb (fun e => c1 (by rw [hv, e])) hab (by rw [← hv]; exact heq) hc
    exact ⟨q1, fun h => ⟨θ, Goes.refl hok, q2 h⟩⟩
   ·rename_i c2
    split at hB
    ·rename_i h7
     injection hB with hB
     have hv := zAm prb h7
     cases hc : isU pb.var pa U with
     | mk e V =>
     rw [hc] at hB; subst hB
     obtain ⟨q1, q2⟩ := is_mgu hI pra (fun e => c1 (by rw [hv, e])) hab (by rw [← hv]; exact heq.symm) hc
     exact ⟨q1, fun h => ⟨θ, Goes.refl hok, q2 h⟩⟩
    ·rename_i c3
     obtain ⟨f1, _, _, f4, _⟩ := zAi (s := θ) c2
     obtain ⟨g1, _, _, g4, _⟩ := zAi (s := θ) c3
     have hk : pa.kind = pb.kind := by rw [← f1, heq, g1]
     have hl : pa.args.length = pb.args.length := by
      have := congrArg (fun t : Ty => t.args.length) heq
      simp only [f4, g4, zBZ] at this; exact this
     split at hB
     ·rename_i c4; rcases c4 with c4 | c4; exact absurd hk c4; exact absurd hl c4
     ·split at hB
      ·rename_i h6
       obtain ⟨x, rfl, rx⟩ := zAM pra h6.1
       obtain ⟨y, rfl, ry⟩ := zAM prb (hk ▸ h6.1)
       have dx := da.here.2.2 x (.head _); have dy := db.here.2.2 y (.head _)
       have ux : zM U.s x = x := Zv rx (dx.mono (fun _ q => q.2) (fun _ q => q.2))
       have uy : zM U.s y = y := Zv ry (dy.mono (fun _ q => q.2) (fun _ q => q.2))
       rw [zDr, zDr] at heq
       injection heq with _ _ _ heq
       injection heq with heq
       exact ih x y U R hB tv rv w hI h0 rx ry (dx.mono (fun _ q => q.1) (fun _ q => q.1)) (dy.mono (fun _ q => q.1) (fun _ q => q.1))
        (by rw [ux]; exact Nat.le_trans (zAT (t := ⟨6, [], 0, [x], [], 0⟩) (.head _)) wa) (by rw [uy]; exact Nat.le_trans (zAT (t := ⟨6, [], 0, [y], [], 0⟩) (.head _)) wb) θ hok hab heq
      ·rename_i c5
       split at hB
       ·rename_i h5
        obtain ⟨x1, y1, l1, r1, rfl, rx1, ry1, ro1⟩ := zAK pra h5.1
        obtain ⟨x2, y2, l2, r2, rfl, rx2, ry2, ro2⟩ := zAK prb (hk ▸ h5.1)
        have dx1 := da.here.2.2 x1 (.head _); have dx2 := db.here.2.2 x2 (.head _)
        have dy1 := da.here.2.2 y1 (.tail _ (.head _)); have dy2 := db.here.2.2 y2 (.tail _ (.head _))
        have dr1 := da.here.2.1 rfl; have dr2 := db.here.2.1 rfl
        have fr : ∀ {z : Ty}, zz z = true → AllV (fun v => v ∈ tv ∧ zP v U.s.ts = none) (fun v => v ∈ rv ∧ zP v U.s.rs = none) z → zM U.s z = z := fun h k => Zv h (k.mono (fun _ q => q.2) (fun _ q => q.2))
        have sc : ∀ {z : Ty} {rv' : List Int}, (∀ v ∈ rv, v ∈ rv') → AllV (fun v => v ∈ tv ∧ zP v U.s.ts = none) (fun v => v ∈ rv ∧ zP v U.s.rs = none) z → Sc tv rv' z := fun h k => k.mono (fun _ q => q.1) (fun _ q => h _ q.1)
        have w1 : ∀ {z : Ty}, z ∈ [x1, y1] → wdT z ≤ w := fun h => Nat.le_trans (zAT (t := ⟨5, [], 0, [x1, y1], l1, r1⟩) h) wa
        have w2 : ∀ {z : Ty}, z ∈ [x2, y2] → wdT z ≤ w := fun h => Nat.le_trans (zAT (t := ⟨5, [], 0, [x2, y2], l2, r2⟩) h) wb
        rw [zBo, zBo] at heq
        injection heq with _ _ _ heq1 heq2 heq3
        injection heq1 with heqx heq1
        injection heq1 with heqy
        have heqr : zQ θ ⟨l1, r1⟩ = zQ θ ⟨l2, r2⟩ := by
         cases hh : zQ θ ⟨l1, r1⟩; cases hh2 : zQ θ ⟨l2, r2⟩
         rw [hh, hh2] at heq2 heq3; simp only at heq2 heq3; rw [heq2, heq3]
        obtain ⟨R1, e1, e2⟩ := Z5 hB
        change ZX k x1 x2 U = some R1 at e1
        obtain ⟨rv1, z1, hP1, c1', g1'⟩ := zEV _ _ _ _ _ e1 tv rv w hI h0 rx1 rx2 (sc (fun _ q => q) dx1) (sc (fun _ q => q) dx2) (by rw [fr rx1 dx1]; exact w1 (.head _)) (by rw [fr rx2 dx2]; exact w2 (.head _))
        obtain ⟨m1, m2⟩ := ih x1 x2 U R1 e1 tv rv w hI h0 rx1 rx2 (sc (fun _ q => q) dx1) (sc (fun _ q => q) dx2) (by rw [fr rx1 dx1]; exact w1 (.head _)) (by rw [fr rx2 dx2]; exact w2 (.head _)) θ hok hab heqx
        by_cases hn1 : R1.1 ≠ 0
        ·rw [if_pos hn1] at e2; injection e2 with e2; subst e2
         exact ⟨m1, fun h => absurd h hn1⟩
        ·rw [if_neg hn1] at e2
         obtain ⟨θ1, go1, ab1⟩ := m2 (Decidable.byContradiction hn1)
         obtain ⟨R2, e3, e4⟩ := Z5 e2
         obtain ⟨_, e3⟩ := zDd e3
         change zAc ⟨l1, r1⟩ ⟨l2, r2⟩ R1.2 = R2 at e3
         have wp1 := hP1.wd _ pra (by rw [ea]; exact wa)
         have wp2 := hP1.wd _ prb (by rw [eb]; exact wb)
         rw [zBo, zAt] at wp1 wp2
         simp only [Ty.labels] at wp1 wp2
         obtain ⟨f2, V2⟩ := R2
         have hnx1 := hP1.nx
         obtain ⟨n1, n2⟩ := rows_mgu hP1.inv (by omega) ro1 ro2 (fun p => hP1.sub _ (dr1 p).1) (fun p => hP1.sub _ (dr2 p).1) go1.ok ab1 (by rw [go1.row hI ro1 (fun p => (dr1 p).1), go1.row hI ro2 (fun p => (dr2 p).1)]; exact heqr) e3
         rcases zFR hP1.inv (by omega) ro1 ro2 (fun p => hP1.sub _ (dr1 p).1) (fun p => hP1.sub _ (dr2 p).1) (by omega) (by omega) e3 with ⟨q1, q2⟩ | ⟨q1, rv2, z2, hP2, g2⟩
         ·exact absurd q1 n1
         ·dsimp only at e4
          rw [if_neg (by rw [q1]; simp)] at e4
          obtain ⟨θ2, go2, ab2⟩ := n2 q1
          have go12 := go1.trans go2 hnx1.1
          have hP12 := hP1.trans hI hP2
          have hnx12 := hP12.nx
          obtain ⟨R3, e5, e6⟩ := Z5 e4
          change ZX k y1 y2 V2 = some R3 at e5
          obtain ⟨o1, o2⟩ := ih y1 y2 V2 R3 e5 tv rv2 z2 hP12.inv (by omega) ry1 ry2 (sc hP12.sub dy1) (sc hP12.sub dy2) (hP12.wd _ ry1 (by rw [fr ry1 dy1]; exact w1 (.tail _ (.head _)))) (hP12.wd _ ry2 (by rw [fr ry2 dy2]; exact w2 (.tail _ (.head _))))
           θ2 go12.ok ab2 (by rw [go12.type hI ry1 (sc (fun _ q => q) dy1), go12.type hI ry2 (sc (fun _ q => q) dy2)]; exact heqy)
          have hR3 : R = R3 := by
           by_cases hn3 : R3.1 ≠ 0
           ·rw [if_pos hn3] at e6; injection e6 with e6; exact e6.symm
           ·rw [if_neg hn3, zCK] at e6; injection e6 with e6; rw [← e6, ← Decidable.byContradiction hn3]
          rw [hR3]
          exact ⟨o1, fun h => by obtain ⟨θ3, go3, ab3⟩ := o2 h; exact ⟨θ3, go12.trans go3 hnx12.1, ab3⟩⟩
       ·rename_i c6
        exfalso
        have n5 : pa.kind ≠ 5 := fun h => by obtain ⟨x, y, l, r, e, _⟩ := zAK pra h; exact c6 ⟨h, by rw [e]; rfl⟩
        have n6 : pa.kind ≠ 6 := fun h => by obtain ⟨x, e, _⟩ := zAM pra h; exact c5 ⟨h, by rw [e]; rfl⟩
        rw [zGm pra n5 n6 c2, zGm prb (hk ▸ n5) (hk ▸ n6) c3] at heq
        exact c1 heq
end Go.Proofs.YtlidonjpgigocaaGreat
namespace Go.Proofs.YtlidonjpgigocaaGreat
set_option linter.all false
set_option maxRecDepth 4000
open Go.RowKit
-- small types, from nothing on
def vs8 : List Int := [1, 2, 3, 4, 5, 6, 7, 8]
theorem zFt {v : Int} : v ∈ vs8 ↔ 1 ≤ v ∧ v ≤ 8 := by
 simp only [vs8, List.mem_cons, List.not_mem_nil, or_false]; omega
theorem allV_pos (t : Ty) : zz t = true → AllV (fun v => 1 ≤ v) (fun v => 1 ≤ v) t := by
 induction t using Ty.rec_ with
 | h t ih =>
  intro hr
  refine .mk (fun h7 => ?_) (fun _ p => by omega) fun u hu => ih u hu (Zw hr hu)
  rw [zAN, hdT7 h7] at hr
  simp only [Bool.and_eq_true, decide_eq_true_eq] at hr
  exact hr.1.2
theorem right_args2 {t : Ty} (h : zz t = true) : t.args.length ≤ 2 := by
 by_cases h7 : t.kind = 7
 ·rw [zAm h h7]; simp [Zn, Ty.args]
 ·by_cases h5 : t.kind = 5
  ·obtain ⟨x, y, l, r, e, _⟩ := zAK h h5; rw [e]; simp [Ty.args]
  ·by_cases h6 : t.kind = 6
   ·obtain ⟨x, e, _⟩ := zAM h h6; rw [e]; simp [Ty.args]
   ·have e : t.args = [] := by
     rw [zAN, Bool.and_eq_true] at h
     have h1 := h.1
     by_cases h4 : t.kind = 4
     ·rw [hdT4 h4] at h1; simp only [Bool.and_eq_true, decide_eq_true_eq] at h1; exact List.eq_nil_of_length_eq_zero (by omega)
     ·by_cases h3 : t.kind = 1 ∨ t.kind = 2 ∨ t.kind = 3
      ·rw [hdT1 h3] at h1; simp only [Bool.and_eq_true, decide_eq_true_eq] at h1; exact List.eq_nil_of_length_eq_zero (by omega)
      ·rw [hdT0 h3 h4 h7 h6 h5] at h1; cases h1
    rw [e]; simp
theorem wd_few (t : Ty) : zz t = true → zFD t = true → wdT t ≤ 10 := by
 induction t using Ty.rec_ with
 | h t ih =>
  intro hr hf
  rw [fewT_eq, Bool.and_eq_true, decide_eq_true_eq] at hf
  have key : ∀ l : List Ty, (∀ u ∈ l, u ∈ t.args) → zCE l = true → zCG l ≤ 10 := by
   intro l
   induction l with
   | nil => intro _ _; simp [zCG]
   | cons x l ihl =>
    intro hl h
    rw [zCE, Bool.and_eq_true] at h
    have h1 := ih x (hl x (.head _)) (Zw hr (hl x (.head _))) h.1
    have h2 := ihl (fun u hu => hl u (.tail _ hu)) h.2
    simp only [zCG]; omega
  have h1 := key t.args (fun u hu => hu) hf.2
  have h2 := right_args2 hr
  rw [zAt]; omega
theorem zBt {t : Ty} (h : zBP t = true) : zz t = true ∧ Sc vs8 vs8 t ∧ wdT t ≤ 10 ∧ ZH t ≤ 30 := by
 unfold zBP at h
 simp only [Bool.and_eq_true, decide_eq_true_eq] at h
 obtain ⟨⟨⟨⟨h1, h2, h3⟩, h4⟩, h5⟩, h6⟩ := h
 have l5 : ∀ v ∈ (Z1 t).1, v ≤ 8 := fun v hv => by have := List.all_eq_true.1 h5 v hv; simpa using this
 have l6 : ∀ v ∈ (Z1 t).2, v ≤ 8 := fun v hv => by have := List.all_eq_true.1 h6 v hv; simpa using this
 refine ⟨h3, ?_, wd_few t h3 h4, h1⟩
 exact ((zFM t h3).and _ (allV_pos t h3)).mono (fun v q => zFt.2 ⟨q.2, l5 v q.1⟩) (fun v q => zFt.2 ⟨q.2, l6 v q.1⟩)
theorem cnt_said {s : Sub} {C : Nat} (h : ∀ n x, zP n s.ts = some x → ZH x ≤ C) (hC : 1 ≤ C) (t : Ty) : ZH (zM s t) ≤ ZH t * C := by
 induction t using Ty.rec_ with
 | h t ih =>
  by_cases h7 : t.kind = 7
  ·rw [ZP h7]
   cases hl : zP t.var s.ts with
   | none => exact Nat.le_mul_of_pos_right _ hC
   | some x => exact Nat.le_trans (h _ _ hl) (Nat.le_mul_of_pos_left _ (zEc t))
  ·have key : ∀ l : List Ty, (∀ u ∈ l, u ∈ t.args) → ZS (zo s l) ≤ ZS l * C := by
    intro l
    induction l with
    | nil => intro _; simp [zo, ZS]
    | cons x l ihl =>
     intro hl
     have h1 := ih x (hl x (.head _)); have h2 := ihl fun u hu => hl u (.tail _ hu)
     rw [zo]; simp only [ZS]; rw [Nat.add_mul]; omega
   have hk := key t.args fun u hu => hu
   rw [Zy, Zy t, (zAi (s := s) h7).2.2.2.1, Nat.add_mul]; omega
theorem UInv.cnt {tv rv : List Int} {w : Nat} {U : USt} (h : UInv tv rv w U) (t : Ty) : ZH (zM U.s t) ≤ ZH t * 1000 := cnt_said (fun n x e => by
 have := (h.tk n x e).2.2.1
 unfold zBI at this
 rw [Bool.or_eq_false_iff] at this
 have := this.1
 simp only [decide_eq_false_iff_not] at this; omega) (by omega) t
theorem cb_of {tv : List Int} {U : USt} {t : Ty} (h : ZH t ≤ 100000) : CB tv U t := fun rv' w' V hV _ => by have := hV.cnt t; omega
theorem UInv.none {tv rv : List Int} {w : Nat} {n : Int} (ht : ∀ v ∈ tv, 1 ≤ v ∧ v ≤ 1000000) (hr : ∀ v ∈ rv, 1 ≤ v ∧ v < n) (hw : 2 ≤ w) : UInv tv rv w ⟨zAB, n⟩ :=
 ⟨⟨List.nodup_nil, List.nodup_nil⟩, fun n x e => (by cases e), fun n r e => (by cases e), ht, hr, hw⟩
theorem apply_none {t : Ty} (h : zz t = true) : zM zAB t = t := zEv zAB t h (fun _ _ => rfl) fun _ _ => rfl
structure SmU (rv : List Int) (w : Nat) (U : USt) : Prop where
 inv : UInv vs8 rv w U
 sub : ∀ v ∈ vs8, v ∈ rv
 n9 : 9 ≤ U.nx
 bud : w * 2 ^ zAA rv U ≤ 50000000
 nx : U.nx + zAA rv U ≤ 1000000
 wd : ∀ t, zBP t = true → wdT (zM U.s t) ≤ w
theorem smU_none {n : Int} (h1 : 9 ≤ n) (h2 : n ≤ 1000) : SmU vs8 10 ⟨zAB, n⟩ := by
 have hl : zAA vs8 ⟨zAB, n⟩ = 8 := rfl
 refine ⟨UInv.none (fun v hv => by have := zFt.1 hv; omega) (fun v hv => by have := zFt.1 hv; omega) (by omega), fun _ h => h, h1, by rw [hl]; decide, by rw [hl]; show n + 8 ≤ _; omega, fun t ht => ?_⟩
 obtain ⟨h3, _, h4, _⟩ := zBt ht
 show wdT (zM zAB t) ≤ 10
 rw [apply_none h3]; exact h4
theorem SmU.okS {rv : List Int} {w : Nat} {U : USt} (h : SmU rv w U) : OkS U := h.inv.okS (Nat.le_trans le_pow h.bud) (by have := h.n9; omega) (by have := h.nx; omega)
theorem SmU.w {rv : List Int} {w : Nat} {U : USt} (h : SmU rv w U) : SubW 50000000 U.s := h.okS.w
theorem SmU.post {rv rv' : List Int} {w w' : Nat} {U V : USt} (h : SmU rv w U) (hP : UP vs8 rv w U rv' w' V) : SmU rv' w' V :=
 ⟨hP.inv, fun v hv => hP.sub v (h.sub v hv), by have := h.n9; have := hP.nx; omega, Nat.le_trans hP.bud h.bud, by have := h.nx; have := hP.nx; omega, fun t ht => hP.wd t (zBt ht).1 (h.wd t ht)⟩
structure Ran (U : USt) (a b : Ty) (R : Int × USt) : Prop where
 ab : Abs R.2.s U.s
 e : R.1 = 0 ∨ R.1 = 5 ∨ R.1 = 6
 eq : R.1 = 0 → zM R.2.s a = zM R.2.s b
 mgu : ∀ θ, zBL θ → Abs θ U.s → zM θ a = zM θ b → R.1 ≠ 5 ∧ (R.1 = 0 → ∃ θ', Goes U θ θ' ∧ Abs θ' R.2.s)
theorem sm_run {rv : List Int} {w : Nat} {U : USt} {a b : Ty} (h : SmU rv w U) (ha : zBP a = true) (hb : zBP b = true) : ∃ k R, ZX k a b U = some R ∧ (∃ rv' w', SmU rv' w' R.2) ∧ Ran U a b R := by
 obtain ⟨a1, a2, a3, a4⟩ := zBt ha
 obtain ⟨b1, b2, b3, b4⟩ := zBt hb
 have up : ∀ {t : Ty}, Sc vs8 vs8 t → Sc vs8 rv t := fun q => q.mono (fun _ z => z) (fun v z => h.sub v z)
 have h9 := h.n9
 obtain ⟨k, R, hR⟩ := types_ex vs8 _ _ a b U rv w h.inv (by omega) a1 b1 (up a2) (up b2) (h.wd a ha) (h.wd b hb) h.bud h.nx (by omega) (by omega) (cb_of (by omega)) (cb_of (by omega)) rfl rfl
 obtain ⟨rv', w', hP, h2, h3⟩ := zEV k a b U R hR vs8 rv w h.inv (by omega) a1 b1 (up a2) (up b2) (h.wd a ha) (h.wd b hb)
 exact ⟨k, R, hR, ⟨rv', w', h.post hP⟩, hP.ab, h2, h3, types_mgu k a b U R hR vs8 rv w h.inv (by omega) a1 b1 (up a2) (up b2) (h.wd a ha) (h.wd b hb)⟩
theorem out_ok {R : Int × USt} {U : USt} (h : R.1 = 0) : zDY R U = (0, R.2) := by unfold zDY; rw [if_neg (by omega)]
theorem out_err {R : Int × USt} {U : USt} (h : R.1 ≠ 0) : zDY R U = (R.1, U) := by unfold zDY; rw [if_pos h]
-- types without variables
end Go.Proofs.YtlidonjpgigocaaGreat
namespace Go.Proofs.YtlidonjpgigocaaGreat
set_option linter.all false
set_option maxRecDepth 4000
open Go.RowKit
-- what the laws ask of a run
end Go.Proofs.YtlidonjpgigocaaGreat
namespace Go.Proofs.YtlidonjpgigocaaGreat
open Go.Proofs.Tryz
set_option linter.all false
set_option maxRecDepth 4000
open Go.RowKit
abbrev zFE (t : Ty) : Prop := ∀ {w : World} {m : Mem} {vs_t : List Value} (hA : Agree w m) (h_t : TyR m t vs_t) (hb : ZH t ≤ 1000000000000000000), FnV Tryz.prog 36 #[.agg vs_t.toArray] w m (fun _ _ v => v = .int .i64 (ZH t : Int))
set_option maxHeartbeats 400000 in
theorem rpieces_s {t : Ty} (ih : ∀ u ∈ t.args, zFE u) {w : World} {m : Mem} {vs_t : List Value} (hA : Agree w m) (h_t : TyR m t vs_t) (hb : ZH t ≤ 1000000000000000000) : FnV Tryz.prog 36 #[.agg vs_t.toArray] w m (fun _ _ v => v = .int .i64 (ZH t : Int)) := by
 obtain ⟨o_t, c_t, oL_t, cL_t, rfl, hk_t, hs_t, hi_t, hj_t, hr_t⟩ := h_t.open_
 have hbg_t := hk_t.big; have hcp_t := hk_t.cap; have hbs_t := hs_t.big; have hcs_t := hs_t.cap
 have hrw_t : RwR _ ⟨t.labels, t.rv⟩ _ := ⟨_, _, rfl, hs_t, hr_t⟩
 refine zY (vs := [_]) func36 rfl rfl rfl fun a0 hfr0 => ?_
 have hst0 := zX hA (zw [] _ w m)
 have hM : MLe m m := MLe.refl m
 have hce := Zy t
 have hbk := fun u (hu : u ∈ t.args) => zBX hu
 refine zE fun _ hK1 => ?_
 refine rp0 hst0 hfr0 (.cons rfl (ZA rfl rfl) <| .cons rfl (zH rfl) <| .nil) fun a1 w1 m1 hst1 hle1 hk1 => ?_
 have hfr1 := hk1.fr (.nil)
 obtain ⟨g2, e2, hc1⟩ := hk1.ex 1 rfl
 replace hfr1 := hfr1.cons e2
 replace h_t := h_t.mono hle1
 replace hk_t := hk_t.mono hle1
 replace hs_t := hs_t.mono hle1
 replace hrw_t := hrw_t.mono hle1
 clear hst0 hfr0 hk1
 refine hK1 _ _ ?_
 refine zE fun _ hK3 => ?_
 refine rp0 hst1 hfr1 (.cons rfl (zH rfl) <| .nil) fun a2 w2 m2 hst2 hle2 hk2 => ?_
 have hfr2 := hk2.fr (.o 1 <| .n 3 <| .nil)
 replace h_t := h_t.mono hle2
 replace hk_t := hk_t.mono hle2
 replace hs_t := hs_t.mono hle2
 replace hrw_t := hrw_t.mono hle2
 replace hc1 := hc1.mono hle2
 clear hst1 hfr1 hk2
 refine hK3 _ _ ?_
 refine zE fun _ hK4 => ?_
 refine zE fun _ hK5 => ?_
 refine rp0 hst2 hfr2 (.cons rfl (zH rfl) <| .nil) fun a3 w3 m3 hst3 hle3 hk3 => ?_
 have hfr3 := hk3.fr (.o 1 <| .o 3 <| .n 4 <| .nil)
 replace h_t := h_t.mono hle3
 replace hk_t := hk_t.mono hle3
 replace hs_t := hs_t.mono hle3
 replace hrw_t := hrw_t.mono hle3
 replace hc1 := hc1.mono hle3
 clear hst2 hfr2 hk3
 refine hK5 _ _ ?_
 refine zT ?_
 refine z6 (T := [(1, _)]) (fun (y : Nat × Int) => ([(3, .int .i64 y.2), (4, .int .i64 (y.1 : Int))] : List (Nat × Value))) (fun _ => _) (fun (y : Nat × Int) m => (fun (y : Nat) (a : Int) => (y ≤ t.args.length) ∧ (a + ZS (t.args.drop y) = (ZH t : Int)) ∧ (0 ≤ a)) y.1 y.2) (fun y => t.args.length - y.1) ((0, 1)) ⟨hst3, MLe.refl _, hfr3.sub (.c <| .c <| .c <| .nil), ⟨Nat.zero_le _, by rw [List.drop_zero]; omega, by omega⟩⟩ fun y a4 w4 m4 hh4 => ?_
 have hst4 := hh4.st; have hle4 := hh4.le; have hfr4 := hh4.fr; have hrel := hh4.rel; clear hh4
 replace h_t := h_t.mono hle4
 replace hk_t := hk_t.mono hle4
 replace hs_t := hs_t.mono hle4
 replace hrw_t := hrw_t.mono hle4
 replace hc1 := hc1.mono hle4
 clear hst3 hfr3
 obtain ⟨y, a⟩ := y
 dsimp only at hrel hfr4 hst4
 obtain ⟨hyn, ha, ha0⟩ := hrel
 have hlh4 := hle4
 refine zE fun _ hK7 => ?_
 refine zE fun _ hK8 => ?_
 refine rp0 hst4 hfr4 (.cons rfl (zG rfl) <| .cons rfl (zF (off := 3) rfl underlying45 rfl rfl sizeOf33 rfl) <| .cons rfl (zK rfl hc1 isAgg33 rfl) <| .cons rfl (zt rfl underlying33) <| .cons rfl (ZG rfl rfl) <| .nil) fun a5 w5 m5 hst5 hle5 hk5 => ?_
 have hfr5 := hk5.fr (.o 3 <| .o 4 <| .o 1 <| .n 10 <| .nil)
 replace h_t := h_t.mono hle5
 replace hk_t := hk_t.mono hle5
 replace hs_t := hs_t.mono hle5
 replace hrw_t := hrw_t.mono hle5
 replace hc1 := hc1.mono hle5
 have hlh5 := hlh4.trans hle5
 clear hst4 hfr4 hk5
 refine hK8 _ _ ?_
 refine zJ hfr5 rfl rfl (fun hb10 => ?_) (fun hb10 => ?_)
 ·try simp only [nqs] at hb10
  refine zR ?_
  refine hK7 _ _ ?_
  refine zE fun _ hK9 => ?_
  refine zT ?_
  refine zE fun _ hK10 => ?_
  obtain ⟨p11, vs11, x11, ho11, hd11, hm_x11, ht11, hcv11, hl11, hv11⟩ := hk_t.nth (k := y) (by omega)
  cases ho11
  obtain ⟨o11, c11, oL11, cL11, rfl, hkd11, hs11, hi11, hj11, hr11⟩ := hv11.open_
  have hbg11 := hkd11.big; have hcp11 := hkd11.cap; have hbs11 := hs11.big; have hcs11 := hs11.cap
  have hrw11 : RwR _ ⟨x11.labels, x11.rv⟩ _ := ⟨_, _, rfl, hs11, hr11⟩
  have hbx11 := hbk _ hm_x11
  refine rp0 hst5 hfr5 (.cons rfl (zF (off := 3) rfl underlying45 rfl rfl sizeOf33 rfl) <| .cons rfl (zK rfl hc1 isAgg33 rfl) <| .cons rfl (zG rfl) <| .cons rfl (zN (k := y) rfl rfl underlying33 sizeOf45 rfl (by omega)) <| .cons rfl (zS rfl hcv11 isAgg45 sizeOf45 rfl rfl) <| .cons rfl (zp rfl (.cons rfl <| .nil) call36 (fun w m hK => by have hle_ := KC.le hK; have hA := KC.agree hK; have h_t := h_t.mono hle_; have hk_t := hk_t.mono hle_; have hs_t := hs_t.mono hle_; have hrw_t := hrw_t.mono hle_; have hc1 := hc1.mono hle_; have hcv11 := hcv11.mono hle_; have hv11 := hv11.mono hle_; have hkd11 := hkd11.mono hle_; have hs11 := hs11.mono hle_; have hrw11 := hrw11.mono hle_; exact ih _ (by assumption) hA (by assumption) (by have := hbk _ (by assumption); omega))) <| .cons rfl (zH rfl) <| .nil) fun a6 w6 m6 hst6 hle6 hk6 => ?_
  have hfr6 := hk6.fr (.o 3 <| .o 4 <| .o 1 <| .n 5 <| .nil)
  clear hst5 hfr5 hk6
  refine hK10 _ _ ?_
  refine rp0 hst6 hfr6 (.cons rfl (zG rfl) <| .cons rfl (zG rfl) <| .cons rfl (zy rfl rfl ⟨by omega, by omega⟩) <| .cons rfl (zH rfl) <| .nil) fun a7 w7 m7 hst7 hle7 hk7 => ?_
  have hfr7 := hk7.fr (.o 4 <| .o 1 <| .n 3 <| .nil)
  clear hst6 hfr6 hk7
  refine hK9 _ _ ?_
  refine rp0 hst7 hfr7 (.cons rfl (zG rfl) <| .cons rfl (zy rfl rfl ⟨by omega, by omega⟩) <| .cons rfl (zH rfl) <| .nil) fun a8 w8 m8 hst8 hle8 hk8 => ?_
  have hfr8 := hk8.fr (.o 1 <| .o 3 <| .n 4 <| .nil)
  clear hst7 hfr7 hk8
  have zq1 := hle7.trans hle8
  have zq2 := hle6.trans zq1
  have hlh8 := hlh5.trans zq2
  exact ⟨(y + 1, (a + (ZH x11 : Int))), m8, by show t.args.length - (y + 1) < t.args.length - y; omega, ⟨hst8, hlh8, hfr8.sub (.c <| .c <| .c <| .nil), ⟨by show y + 1 ≤ t.args.length; omega, by rw [hd11, ZS] at ha; show a + (ZH x11 : Int) + ((ZS (t.args.drop (y + 1)) : Nat) : Int) = ((ZH t : Nat) : Int); omega, by show 0 ≤ a + (ZH x11 : Int); omega⟩⟩⟩
 ·try simp only [nqs] at hb10
  have hge : y = t.args.length := by omega
  rw [List.drop_of_length_le (by omega), ZS] at ha
  refine z7 ?_
  refine hK4 _ _ ?_
  refine zE fun _ hK12 => ?_
  refine rp0 hst5 hfr5 (.cons rfl (zG rfl) <| .cons rfl (zH rfl) <| .nil) fun a6 w6 m6 hst6 hle6 hk6 => ?_
  have hfr6 := hk6.fr (.o 3 <| .o 4 <| .n 2 <| .nil)
  clear hst5 hfr5 hk6
  refine hK12 _ _ ?_
  refine zU ?_
  repeat (with_reducible first | refine zL ?_ | refine zI ?_)
  exact zV hst6 hfr6 rfl (.tmp rfl <| .nil) (by refine congrArg (Value.int _) ?_; omega)
theorem zFU (t : Ty) : zFE t := Ty.rec_ (p := zFE) (fun t ih => rpieces_s ih) t
abbrev ruses_G (t : Ty) : Prop := ∀ {w : World} {m : Mem} {vs_t : List Value} {n : Int} (hA : Agree w m) (h_t : TyR m t vs_t) (hr : zz t = true) (hb : ZH t ≤ 1000000000000000000), FnV Tryz.prog 62 #[.agg vs_t.toArray, .int .i64 n] w m (fun _ _ v => v = .int .i64 (zAI n t : Int))
set_option maxHeartbeats 400000 in
theorem ruses_s {t : Ty} (ih : ∀ u ∈ t.args, ruses_G u) {w : World} {m : Mem} {vs_t : List Value} {n : Int} (hA : Agree w m) (h_t : TyR m t vs_t) (hr : zz t = true) (hb : ZH t ≤ 1000000000000000000) : FnV Tryz.prog 62 #[.agg vs_t.toArray, .int .i64 n] w m (fun _ _ v => v = .int .i64 (zAI n t : Int)) := by
 obtain ⟨o_t, c_t, oL_t, cL_t, rfl, hk_t, hs_t, hi_t, hj_t, hr_t⟩ := h_t.open_
 have hbg_t := hk_t.big; have hcp_t := hk_t.cap; have hbs_t := hs_t.big; have hcs_t := hs_t.cap
 have hrw_t : RwR _ ⟨t.labels, t.rv⟩ _ := ⟨_, _, rfl, hs_t, hr_t⟩
 refine zY (vs := [_, _]) func62 rfl rfl rfl fun a0 hfr0 => ?_
 have hst0 := zX hA (zw [] _ w m)
 have hM : MLe m m := MLe.refl m
 have hce := Zy t
 have hue := zGY n t
 have huc := zBq n t
 have hbk := fun u (hu : u ∈ t.args) => zBX hu
 refine zE fun _ hK1 => ?_
 refine rp0 hst0 hfr0 (.cons rfl (ZA rfl rfl) <| .cons rfl (zH rfl) <| .nil) fun a1 w1 m1 hst1 hle1 hk1 => ?_
 have hfr1 := hk1.fr (.o 1 <| .nil)
 obtain ⟨g2, e2, hc2⟩ := hk1.ex 2 rfl
 replace hfr1 := hfr1.cons e2
 replace h_t := h_t.mono hle1
 replace hk_t := hk_t.mono hle1
 replace hs_t := hs_t.mono hle1
 replace hrw_t := hrw_t.mono hle1
 clear hst0 hfr0 hk1
 refine hK1 _ _ ?_
 refine zE fun _ hK3 => ?_
 refine rp0 hst1 hfr1 (.cons rfl (zH rfl) <| .nil) fun a2 w2 m2 hst2 hle2 hk2 => ?_
 have hfr2 := hk2.fr (.o 1 <| .o 2 <| .n 5 <| .nil)
 replace h_t := h_t.mono hle2
 replace hk_t := hk_t.mono hle2
 replace hs_t := hs_t.mono hle2
 replace hrw_t := hrw_t.mono hle2
 replace hc2 := hc2.mono hle2
 clear hst1 hfr1 hk2
 refine hK3 _ _ ?_
 refine zE fun _ hK4 => ?_
 refine zE fun _ hK5 => ?_
 refine rp0 hst2 hfr2 (.cons rfl (zF (off := 0) rfl underlying45 rfl rfl sizeOf3 rfl) <| .cons rfl (zK rfl hc2 isAgg3 rfl) <| .cons rfl (zq rfl rfl) <| .cons rfl (zG rfl) <| .cons rfl (zF (off := 2) rfl underlying45 rfl rfl sizeOf3 rfl) <| .cons rfl (zK rfl hc2 isAgg3 rfl) <| .cons rfl (zG rfl) <| .cons rfl (zq rfl rfl) <| .cons rfl (z8 rfl rfl rfl) <| .nil) fun a3 w3 m3 hst3 hle3 hk3 => ?_
 have hfr3 := hk3.fr (.o 1 <| .o 2 <| .o 5 <| .n 16 <| .nil)
 replace h_t := h_t.mono hle3
 replace hk_t := hk_t.mono hle3
 replace hs_t := hs_t.mono hle3
 replace hrw_t := hrw_t.mono hle3
 replace hc2 := hc2.mono hle3
 clear hst2 hfr2 hk3
 refine hK5 _ _ ?_
 refine zJ hfr3 rfl rfl (fun hb16 => ?_) (fun hb16 => ?_)
 ·try simp only [nqs] at hb16
  rw [if_pos hb16] at hue
  have hnil : t.args = [] := by rw [zAm hr hb16.1]; rfl
  have hI9 : (1 : Int) + zAa n t.args = (zAI n t : Int) := by rw [hnil, hue]; rfl
  refine rp0 hst3 hfr3 (.cons rfl (zH rfl) <| .nil) fun a4 w4 m4 hst4 hle4 hk4 => ?_
  have hfr4 := hk4.fr (.o 1 <| .o 2 <| .n 5 <| .nil)
  clear hst3 hfr3 hk4
  refine hK4 _ _ ?_
  refine zE fun _ hK6 => ?_
  refine zE fun _ hK7 => ?_
  refine rp0 hst4 hfr4 (.cons rfl (zH rfl) <| .nil) fun a5 w5 m5 hst5 hle5 hk5 => ?_
  have hfr5 := hk5.fr (.o 1 <| .o 2 <| .o 5 <| .n 6 <| .nil)
  clear hst4 hfr4 hk5
  refine hK7 _ _ ?_
  refine zT ?_
  refine z6 (T := [(1, _), (2, _)]) (fun (y : Nat × Int) => ([(5, .int .i64 y.2), (6, .int .i64 (y.1 : Int))] : List (Nat × Value))) (fun _ => _) (fun (y : Nat × Int) m => (fun (y : Nat) (a : Int) => (y ≤ t.args.length) ∧ (a + zAa n (t.args.drop y) = (zAI n t : Int)) ∧ (0 ≤ a)) y.1 y.2) (fun y => t.args.length - y.1) ((0, 1)) ⟨hst5, MLe.refl _, hfr5.sub (.c <| .c <| .c <| .c <| .nil), ⟨Nat.zero_le _, by rw [List.drop_zero]; exact hI9, by omega⟩⟩ fun y a6 w6 m6 hh6 => ?_
  have hst6 := hh6.st; have hle6 := hh6.le; have hfr6 := hh6.fr; have hrel := hh6.rel; clear hh6
  clear hst5 hfr5
  obtain ⟨y, a⟩ := y
  dsimp only at hrel hfr6 hst6
  obtain ⟨hyn, ha, ha0⟩ := hrel
  have hlh6 := hle6
  refine zE fun _ hK9 => ?_
  refine zE fun _ hK10 => ?_
  have zq1 := hle5.trans hle6
  have zq2 := hle4.trans zq1
  replace hc2 := hc2.mono zq2
  refine rp0 hst6 hfr6 (.cons rfl (zG rfl) <| .cons rfl (zF (off := 3) rfl underlying45 rfl rfl sizeOf33 rfl) <| .cons rfl (zK rfl hc2 isAgg33 rfl) <| .cons rfl (zt rfl underlying33) <| .cons rfl (ZG rfl rfl) <| .nil) fun a7 w7 m7 hst7 hle7 hk7 => ?_
  have hfr7 := hk7.fr (.o 5 <| .o 6 <| .o 1 <| .o 2 <| .n 21 <| .nil)
  clear hst6 hfr6 hk7
  refine hK10 _ _ ?_
  refine zJ hfr7 rfl rfl (fun hb21 => ?_) (fun hb21 => ?_)
  ·try simp only [nqs] at hb21
   refine zR ?_
   refine hK9 _ _ ?_
   refine zE fun _ hK11 => ?_
   refine zT ?_
   refine zE fun _ hK12 => ?_
   have zq3 := zq2.trans hle7
   replace hk_t := hk_t.mono zq3
   obtain ⟨p13, vs13, x13, ho13, hd13, hm_x13, ht13, hcv13, hl13, hv13⟩ := hk_t.nth (k := y) (by omega)
   cases ho13
   obtain ⟨o13, c13, oL13, cL13, rfl, hkd13, hs13, hi13, hj13, hr13⟩ := hv13.open_
   have hbg13 := hkd13.big; have hcp13 := hkd13.cap; have hbs13 := hs13.big; have hcs13 := hs13.cap
   have hrw13 : RwR _ ⟨x13.labels, x13.rv⟩ _ := ⟨_, _, rfl, hs13, hr13⟩
   have hbx13 := hbk _ hm_x13
   have hux13 := zBq n x13
   replace h_t := h_t.mono zq3
   replace hs_t := hs_t.mono zq3
   replace hrw_t := hrw_t.mono zq3
   replace hc2 := hc2.mono hle7
   refine rp0 hst7 hfr7 (.cons rfl (zF (off := 3) rfl underlying45 rfl rfl sizeOf33 rfl) <| .cons rfl (zK rfl hc2 isAgg33 rfl) <| .cons rfl (zG rfl) <| .cons rfl (zN (k := y) rfl rfl underlying33 sizeOf45 rfl (by omega)) <| .cons rfl (zS rfl hcv13 isAgg45 sizeOf45 rfl rfl) <| .cons rfl (zG rfl) <| .cons rfl (zp rfl (.cons rfl <| .cons rfl <| .nil) call62 (fun w m hK => by have hle_ := KC.le hK; have hA := KC.agree hK; have h_t := h_t.mono hle_; have hk_t := hk_t.mono hle_; have hs_t := hs_t.mono hle_; have hrw_t := hrw_t.mono hle_; have hc2 := hc2.mono hle_; have hcv13 := hcv13.mono hle_; have hv13 := hv13.mono hle_; have hkd13 := hkd13.mono hle_; have hs13 := hs13.mono hle_; have hrw13 := hrw13.mono hle_; exact ih _ (by assumption) hA (by assumption) (Zw hr (by assumption)) (by have := hbk _ (by assumption); omega))) <| .cons rfl (zH rfl) <| .nil) fun a8 w8 m8 hst8 hle8 hk8 => ?_
   have hfr8 := hk8.fr (.o 5 <| .o 6 <| .o 1 <| .o 2 <| .n 7 <| .nil)
   clear hst7 hfr7 hk8
   refine hK12 _ _ ?_
   refine rp0 hst8 hfr8 (.cons rfl (zG rfl) <| .cons rfl (zG rfl) <| .cons rfl (zy rfl rfl ⟨by omega, by omega⟩) <| .cons rfl (zH rfl) <| .nil) fun a9 w9 m9 hst9 hle9 hk9 => ?_
   have hfr9 := hk9.fr (.o 6 <| .o 1 <| .o 2 <| .n 5 <| .nil)
   clear hst8 hfr8 hk9
   refine hK11 _ _ ?_
   refine rp0 hst9 hfr9 (.cons rfl (zG rfl) <| .cons rfl (zy rfl rfl ⟨by omega, by omega⟩) <| .cons rfl (zH rfl) <| .nil) fun a10 w10 m10 hst10 hle10 hk10 => ?_
   have hfr10 := hk10.fr (.o 1 <| .o 2 <| .o 5 <| .n 6 <| .nil)
   clear hst9 hfr9 hk10
   have zq4 := hle9.trans hle10
   have zq5 := hle8.trans zq4
   have zq6 := hle7.trans zq5
   have hlh10 := hlh6.trans zq6
   exact ⟨(y + 1, (a + (zAI n x13 : Int))), m10, by show t.args.length - (y + 1) < t.args.length - y; omega, ⟨hst10, hlh10, hfr10.sub (.c <| .c <| .c <| .c <| .nil), ⟨by show y + 1 ≤ t.args.length; omega, by rw [hd13, zAa] at ha; show a + (zAI n x13 : Int) + ((zAa n (t.args.drop (y + 1)) : Nat) : Int) = ((zAI n t : Nat) : Int); omega, by show 0 ≤ a + (zAI n x13 : Int); omega⟩⟩⟩
  ·try simp only [nqs] at hb21
   have hge : y = t.args.length := by omega
   rw [List.drop_of_length_le (by omega), zAa] at ha
   refine z7 ?_
   refine hK6 _ _ ?_
   refine zE fun _ hK14 => ?_
   refine rp0 hst7 hfr7 (.cons rfl (zG rfl) <| .cons rfl (zH rfl) <| .nil) fun a8 w8 m8 hst8 hle8 hk8 => ?_
   have hfr8 := hk8.fr (.o 5 <| .o 6 <| .n 4 <| .nil)
   clear hst7 hfr7 hk8
   refine hK14 _ _ ?_
   refine zU ?_
   repeat (with_reducible first | refine zL ?_ | refine zI ?_)
   exact zV hst8 hfr8 rfl (.tmp rfl <| .nil) (by refine congrArg (Value.int _) ?_; omega)
 ·try simp only [nqs] at hb16
  rw [if_neg (fun h => by rcases hb16 with h1 | h1; (exact h1 h.1); exact h1 h.2)] at hue
  have hI9 : (0 : Int) + zAa n t.args = (zAI n t : Int) := by rw [hue]; simp
  refine zR ?_
  refine hK4 _ _ ?_
  refine zE fun _ hK16 => ?_
  refine zE fun _ hK17 => ?_
  refine rp0 hst3 hfr3 (.cons rfl (zH rfl) <| .nil) fun a4 w4 m4 hst4 hle4 hk4 => ?_
  have hfr4 := hk4.fr (.o 1 <| .o 2 <| .o 5 <| .n 6 <| .nil)
  clear hst3 hfr3 hk4
  refine hK17 _ _ ?_
  refine zT ?_
  refine z6 (T := [(1, _), (2, _)]) (fun (y : Nat × Int) => ([(5, .int .i64 y.2), (6, .int .i64 (y.1 : Int))] : List (Nat × Value))) (fun _ => _) (fun (y : Nat × Int) m => (fun (y : Nat) (a : Int) => (y ≤ t.args.length) ∧ (a + zAa n (t.args.drop y) = (zAI n t : Int)) ∧ (0 ≤ a)) y.1 y.2) (fun y => t.args.length - y.1) ((0, 0)) ⟨hst4, MLe.refl _, hfr4.sub (.c <| .c <| .c <| .c <| .nil), ⟨Nat.zero_le _, by rw [List.drop_zero]; exact hI9, by omega⟩⟩ fun y a5 w5 m5 hh5 => ?_
  have hst5 := hh5.st; have hle5 := hh5.le; have hfr5 := hh5.fr; have hrel := hh5.rel; clear hh5
  clear hst4 hfr4
  obtain ⟨y, a⟩ := y
  dsimp only at hrel hfr5 hst5
  obtain ⟨hyn, ha, ha0⟩ := hrel
  have hlh5 := hle5
  refine zE fun _ hK19 => ?_
  refine zE fun _ hK20 => ?_
  have zq7 := hle4.trans hle5
  replace hc2 := hc2.mono zq7
  refine rp0 hst5 hfr5 (.cons rfl (zG rfl) <| .cons rfl (zF (off := 3) rfl underlying45 rfl rfl sizeOf33 rfl) <| .cons rfl (zK rfl hc2 isAgg33 rfl) <| .cons rfl (zt rfl underlying33) <| .cons rfl (ZG rfl rfl) <| .nil) fun a6 w6 m6 hst6 hle6 hk6 => ?_
  have hfr6 := hk6.fr (.o 5 <| .o 6 <| .o 1 <| .o 2 <| .n 21 <| .nil)
  clear hst5 hfr5 hk6
  refine hK20 _ _ ?_
  refine zJ hfr6 rfl rfl (fun hb21 => ?_) (fun hb21 => ?_)
  ·try simp only [nqs] at hb21
   refine zR ?_
   refine hK19 _ _ ?_
   refine zE fun _ hK21 => ?_
   refine zT ?_
   refine zE fun _ hK22 => ?_
   have zq8 := zq7.trans hle6
   replace hk_t := hk_t.mono zq8
   obtain ⟨p23, vs23, x23, ho23, hd23, hm_x23, ht23, hcv23, hl23, hv23⟩ := hk_t.nth (k := y) (by omega)
   cases ho23
   obtain ⟨o23, c23, oL23, cL23, rfl, hkd23, hs23, hi23, hj23, hr23⟩ := hv23.open_
   have hbg23 := hkd23.big; have hcp23 := hkd23.cap; have hbs23 := hs23.big; have hcs23 := hs23.cap
   have hrw23 : RwR _ ⟨x23.labels, x23.rv⟩ _ := ⟨_, _, rfl, hs23, hr23⟩
   have hbx23 := hbk _ hm_x23
   have hux23 := zBq n x23
   replace h_t := h_t.mono zq8
   replace hs_t := hs_t.mono zq8
   replace hrw_t := hrw_t.mono zq8
   replace hc2 := hc2.mono hle6
   refine rp0 hst6 hfr6 (.cons rfl (zF (off := 3) rfl underlying45 rfl rfl sizeOf33 rfl) <| .cons rfl (zK rfl hc2 isAgg33 rfl) <| .cons rfl (zG rfl) <| .cons rfl (zN (k := y) rfl rfl underlying33 sizeOf45 rfl (by omega)) <| .cons rfl (zS rfl hcv23 isAgg45 sizeOf45 rfl rfl) <| .cons rfl (zG rfl) <| .cons rfl (zp rfl (.cons rfl <| .cons rfl <| .nil) call62 (fun w m hK => by have hle_ := KC.le hK; have hA := KC.agree hK; have h_t := h_t.mono hle_; have hk_t := hk_t.mono hle_; have hs_t := hs_t.mono hle_; have hrw_t := hrw_t.mono hle_; have hc2 := hc2.mono hle_; have hcv23 := hcv23.mono hle_; have hv23 := hv23.mono hle_; have hkd23 := hkd23.mono hle_; have hs23 := hs23.mono hle_; have hrw23 := hrw23.mono hle_; exact ih _ (by assumption) hA (by assumption) (Zw hr (by assumption)) (by have := hbk _ (by assumption); omega))) <| .cons rfl (zH rfl) <| .nil) fun a7 w7 m7 hst7 hle7 hk7 => ?_
   have hfr7 := hk7.fr (.o 5 <| .o 6 <| .o 1 <| .o 2 <| .n 7 <| .nil)
   clear hst6 hfr6 hk7
   refine hK22 _ _ ?_
   refine rp0 hst7 hfr7 (.cons rfl (zG rfl) <| .cons rfl (zG rfl) <| .cons rfl (zy rfl rfl ⟨by omega, by omega⟩) <| .cons rfl (zH rfl) <| .nil) fun a8 w8 m8 hst8 hle8 hk8 => ?_
   have hfr8 := hk8.fr (.o 6 <| .o 1 <| .o 2 <| .n 5 <| .nil)
   clear hst7 hfr7 hk8
   refine hK21 _ _ ?_
   refine rp0 hst8 hfr8 (.cons rfl (zG rfl) <| .cons rfl (zy rfl rfl ⟨by omega, by omega⟩) <| .cons rfl (zH rfl) <| .nil) fun a9 w9 m9 hst9 hle9 hk9 => ?_
   have hfr9 := hk9.fr (.o 1 <| .o 2 <| .o 5 <| .n 6 <| .nil)
   clear hst8 hfr8 hk9
   have zq9 := hle8.trans hle9
   have zq10 := hle7.trans zq9
   have zq11 := hle6.trans zq10
   have hlh9 := hlh5.trans zq11
   exact ⟨(y + 1, (a + (zAI n x23 : Int))), m9, by show t.args.length - (y + 1) < t.args.length - y; omega, ⟨hst9, hlh9, hfr9.sub (.c <| .c <| .c <| .c <| .nil), ⟨by show y + 1 ≤ t.args.length; omega, by rw [hd23, zAa] at ha; show a + (zAI n x23 : Int) + ((zAa n (t.args.drop (y + 1)) : Nat) : Int) = ((zAI n t : Nat) : Int); omega, by show 0 ≤ a + (zAI n x23 : Int); omega⟩⟩⟩
  ·try simp only [nqs] at hb21
   have hge : y = t.args.length := by omega
   rw [List.drop_of_length_le (by omega), zAa] at ha
   refine z7 ?_
   refine hK16 _ _ ?_
   refine zE fun _ hK24 => ?_
   refine rp0 hst6 hfr6 (.cons rfl (zG rfl) <| .cons rfl (zH rfl) <| .nil) fun a7 w7 m7 hst7 hle7 hk7 => ?_
   have hfr7 := hk7.fr (.o 5 <| .o 6 <| .n 4 <| .nil)
   clear hst6 hfr6 hk7
   refine hK24 _ _ ?_
   refine zU ?_
   repeat (with_reducible first | refine zL ?_ | refine zI ?_)
   exact zV hst7 hfr7 rfl (.tmp rfl <| .nil) (by refine congrArg (Value.int _) ?_; omega)
theorem ruses_c (t : Ty) : ruses_G t := Ty.rec_ (p := ruses_G) (fun t ih => ruses_s ih) t
def MP.anyb (b : Bool) : MP := MP.mem (fun z : Value => .tuple #[z, .bool b]) (fun _ _ => True) fun _ h => h
set_option maxHeartbeats 400000 in
theorem inT_c {w : World} {m : Mem} {t : Ty} {vs_t : List Value} {n : Int} (hA : Agree w m) (h_t : TyR m t vs_t) (hb : ZH t ≤ 100000000) : FnV Tryz.prog 60 #[.agg vs_t.toArray, .int .i64 n] w m (fun _ m v => (MP.anyb (decide (n ∈ (zi t ([], [])).1))).p m v) := by
 obtain ⟨o_t, c_t, oL_t, cL_t, rfl, hk_t, hs_t, hi_t, hj_t, hr_t⟩ := h_t.open_
 have hbg_t := hk_t.big; have hcp_t := hk_t.cap; have hbs_t := hs_t.big; have hcs_t := hs_t.cap
 have hrw_t : RwR _ ⟨t.labels, t.rv⟩ _ := ⟨_, _, rfl, hs_t, hr_t⟩
 refine zY (vs := [_, _]) func60 rfl rfl rfl fun a0 hfr0 => ?_
 have hst0 := zX hA (zw [] _ w m)
 have hM : MLe m m := MLe.refl m
 have hwr := Zu t ([], [])
 simp only [zBc, List.length_nil] at hwr
 obtain ⟨V, hV⟩ : ∃ V, V = (zi t ([], [])).1 := ⟨_, rfl⟩
 have hVl : V.length ≤ 200000000 := by rw [hV]; omega
 rw [← hV]
 refine zE fun _ hK1 => ?_
 refine rp0 hst0 hfr0 (.cons rfl (ZA rfl rfl) <| .cons rfl (zH rfl) <| .cons rfl (zH rfl) <| .nil) fun a1 w1 m1 hst1 hle1 hk1 => ?_
 have hfr1 := hk1.fr (.o 1 <| .nil)
 obtain ⟨g2, e2, hc2⟩ := hk1.ex 2 rfl
 replace hfr1 := hfr1.cons e2
 replace h_t := h_t.mono hle1
 clear hst0 hfr0 hk1
 refine hK1 _ _ ?_
 refine zE fun _ hK3 => ?_
 refine ra0 (tch := []) hst1 hfr1 (.cons rfl (zS rfl hc2 isAgg45 sizeOf45 rfl rfl) <| .cons rfl (zZ (φ := MP.two V (zi t ([], [])).2) rfl (.cons rfl <| .nil) call33 (fun w m hK => by have hle_ := KC.le hK; have hA := KC.agree hK; have h_t := h_t.mono hle_; exact FnG.mono ((by rw [hV]; exact vars0R_c (t := t) hA h_t (by omega))) fun _ _ _ _ h => h)) <| .cons rfl (ZK 11 rfl rfl rfl fun y11 => zG rfl) <| .cons rfl (ZK 9 rfl rfl rfl fun y9 => zk rfl rfl) <| .cons rfl (ZK 9 rfl rfl rfl fun y9 => zk rfl rfl) <| .consA 12 rfl rfl <| .consA 13 rfl rfl <| .nil) fun a2 w2 m2 hst2 hle2 hk2 => ?_
 have hfr2 := hk2.fr (.o 1 <| .nil)
 obtain ⟨⟨⟨o1, c1⟩, q1⟩, e4, hI1, _⟩ := hk2.ex 12 rfl
 obtain ⟨y5, e5, hy5⟩ := hk2.ex 13 rfl
 replace hfr2 := hfr2.cons (hk2.same 6 rfl e4)
 clear hst1 hfr1 hk2
 refine hK3 _ _ ?_
 refine zE fun _ hK6 => ?_
 refine zE fun _ hK7 => ?_
 refine rp0 hst2 hfr2 (.cons rfl (zH rfl) <| .nil) fun a3 w3 m3 hst3 hle3 hk3 => ?_
 have hfr3 := hk3.fr (.o 1 <| .o 6 <| .n 8 <| .nil)
 replace hI1 := hI1.mono hle3
 clear hst2 hfr2 hk3
 refine hK7 _ _ ?_
 refine zT ?_
 refine z6 (T := [(1, _), (6, _)]) (fun (y : Nat) => ([(8, .int .i64 (y : Int))] : List (Nat × Value))) (fun _ => _) (fun (y : Nat) m => (y ≤ V.length) ∧ (decide (n ∈ V) = decide (n ∈ V.drop y))) (fun y => V.length - y) (0) ⟨hst3, MLe.refl _, hfr3.sub (.c <| .c <| .c <| .nil), ⟨Nat.zero_le _, rfl⟩⟩ fun y a4 w4 m4 hh4 => ?_
 have hst4 := hh4.st; have hle4 := hh4.le; have hfr4 := hh4.fr; have hrel := hh4.rel; clear hh4
 replace hI1 := hI1.mono hle4
 clear hst3 hfr3
 obtain ⟨hyn, hJm⟩ := hrel
 have hlh4 := hle4
 refine zE fun _ hK9 => ?_
 refine zE fun _ hK10 => ?_
 refine rp0 hst4 hfr4 (.cons rfl (zG rfl) <| .cons rfl (zG rfl) <| .cons rfl (zt rfl underlying32) <| .cons rfl (ZG rfl rfl) <| .nil) fun a5 w5 m5 hst5 hle5 hk5 => ?_
 have hfr5 := hk5.fr (.o 8 <| .o 1 <| .o 6 <| .n 17 <| .nil)
 replace hI1 := hI1.mono hle5
 have hlh5 := hlh4.trans hle5
 clear hst4 hfr4 hk5
 refine hK10 _ _ ?_
 refine zJ hfr5 rfl rfl (fun hb17 => ?_) (fun hb17 => ?_)
 ·try simp only [nqs] at hb17
  refine zR ?_
  refine hK9 _ _ ?_
  refine zE fun _ hK11 => ?_
  refine zT ?_
  refine zE fun _ hK12 => ?_
  obtain ⟨p13, vs13, x13, ho13, hd13, hm_x13, ht13, hcv13, hl13, hv13⟩ := hI1.nth (k := y) (by omega)
  cases ho13
  subst hv13
  refine rp0 hst5 hfr5 (.cons rfl (zG rfl) <| .cons rfl (zG rfl) <| .cons rfl (zN (k := y) rfl rfl underlying32 sizeOf3 rfl (by omega)) <| .cons rfl (zr rfl hcv13 isAgg3 rfl) <| .cons rfl (zG rfl) <| .cons rfl (zq rfl rfl) <| .nil) fun a6 w6 m6 hst6 hle6 hk6 => ?_
  have hfr6 := hk6.fr (.o 8 <| .o 1 <| .o 6 <| .n 25 <| .nil)
  clear hst5 hfr5 hk6
  refine hK12 _ _ ?_
  refine zJ hfr6 rfl rfl (fun hb25 => ?_) (fun hb25 => ?_)
  ·try simp only [nqs] at hb25
   have hin9 : decide (n ∈ V) = true := decide_eq_true (by rw [← hb25]; exact hm_x13)
   refine zE fun _ hK14 => ?_
   refine rp0 hst6 hfr6 (.cons rfl (zG rfl) <| .cons rfl (zH rfl) <| .cons rfl (zH rfl) <| .nil) fun a7 w7 m7 hst7 hle7 hk7 => ?_
   have hfr7 := hk7.fr (.o 8 <| .n 4 <| .n 5 <| .nil)
   clear hst6 hfr6 hk7
   refine hK14 _ _ ?_
   refine zU ?_
   repeat (with_reducible first | refine zL ?_ | refine zI ?_)
   exact zV hst7 hfr7 rfl (.tmp rfl <| .tmp rfl <| .nil) (⟨_, by rw [hin9]; rfl, trivial⟩)
  ·try simp only [nqs] at hb25
   refine zR ?_
   refine hK11 _ _ ?_
   refine rp0 hst6 hfr6 (.cons rfl (zG rfl) <| .cons rfl (zy rfl rfl ⟨by omega, by omega⟩) <| .cons rfl (zH rfl) <| .nil) fun a7 w7 m7 hst7 hle7 hk7 => ?_
   have hfr7 := hk7.fr (.o 1 <| .o 6 <| .n 8 <| .nil)
   clear hst6 hfr6 hk7
   have zq1 := hle6.trans hle7
   have hlh7 := hlh5.trans zq1
   exact ⟨y + 1, m7, by show V.length - (y + 1) < V.length - y; omega, ⟨hst7, hlh7, hfr7.sub (.c <| .c <| .c <| .nil), ⟨by show y + 1 ≤ V.length; omega, by rw [hJm, hd13, decide_eq_decide, List.mem_cons]; exact ⟨fun h => h.resolve_left fun e => hb25 e.symm, .inr⟩⟩⟩⟩
 ·try simp only [nqs] at hb17
  have hge : y = V.length := by omega
  rw [List.drop_of_length_le (by omega)] at hJm
  refine z7 ?_
  refine hK6 _ _ ?_
  refine zE fun _ hK16 => ?_
  refine rp0 hst5 hfr5 (.cons rfl (zG rfl) <| .cons rfl (zH rfl) <| .cons rfl (zH rfl) <| .nil) fun a6 w6 m6 hst6 hle6 hk6 => ?_
  have hfr6 := hk6.fr (.o 8 <| .n 4 <| .n 5 <| .nil)
  clear hst5 hfr5 hk6
  refine hK16 _ _ ?_
  refine zU ?_
  repeat (with_reducible first | refine zL ?_ | refine zI ?_)
  exact zV hst6 hfr6 rfl (.tmp rfl <| .tmp rfl <| .nil) (⟨_, by rw [hJm]; rfl, trivial⟩)
set_option maxHeartbeats 400000 in
theorem zGG {w : World} {m : Mem} {t : Ty} {vs_t : List Value} (hA : Agree w m) (h_t : TyR m t vs_t) (hb : ZH t ≤ 1000000000000000000) : FnV Tryz.prog 13 #[.agg vs_t.toArray] w m (fun _ _ v => v = .bool (zBI t)) := by
 obtain ⟨o_t, c_t, oL_t, cL_t, rfl, hk_t, hs_t, hi_t, hj_t, hr_t⟩ := h_t.open_
 have hbg_t := hk_t.big; have hcp_t := hk_t.cap; have hbs_t := hs_t.big; have hcs_t := hs_t.cap
 have hrw_t : RwR _ ⟨t.labels, t.rv⟩ _ := ⟨_, _, rfl, hs_t, hr_t⟩
 refine zY (vs := [_]) func13 rfl rfl rfl fun a0 hfr0 => ?_
 have hst0 := zX hA (zw [] _ w m)
 have hM : MLe m m := MLe.refl m
 have hcd : decide (200 < zEA 201 t) = decide (200 < zBj t) := by unfold zEA; rw [decide_eq_decide]; split <;> omega
 refine zE fun _ hK1 => ?_
 refine rp0 hst0 hfr0 (.cons rfl (ZA rfl rfl) <| .cons rfl (zH rfl) <| .nil) fun a1 w1 m1 hst1 hle1 hk1 => ?_
 have hfr1 := hk1.fr (.nil)
 obtain ⟨g2, e2, hc1⟩ := hk1.ex 1 rfl
 replace hfr1 := hfr1.cons e2
 replace h_t := h_t.mono hle1
 clear hst0 hfr0 hk1
 refine hK1 _ _ ?_
 refine zE fun _ hK3 => ?_
 refine rp0 hst1 hfr1 (.cons rfl (zS rfl hc1 isAgg45 sizeOf45 rfl rfl) <| .cons rfl (zp rfl (.cons rfl <| .nil) call36 (fun w m hK => by have hle_ := KC.le hK; have hA := KC.agree hK; have h_t := h_t.mono hle_; exact zFU t hA h_t hb)) <| .cons rfl (zAU rfl rfl) <| .cons rfl (zG rfl) <| .cons rfl (zS rfl hc1 isAgg45 sizeOf45 rfl rfl) <| .cons rfl (zp rfl (.cons rfl <| .cons rfl <| .nil) call37 (fun w m hK => by have hle_ := KC.le hK; have hA := KC.agree hK; have h_t := h_t.mono hle_; exact deepR_c t (left := 201) hA h_t (by omega))) <| .cons rfl (zAU rfl rfl) <| .cons rfl (zAq rfl rfl rfl) <| .cons rfl (zH rfl) <| .nil) fun a2 w2 m2 hst2 hle2 hk2 => ?_
 have hfr2 := hk2.fr (.n 2 <| .nil)
 clear hst1 hfr1 hk2
 refine hK3 _ _ ?_
 refine zU ?_
 repeat (with_reducible first | refine zL ?_ | refine zI ?_)
 exact zV hst2 hfr2 rfl (.tmp rfl <| .nil) (by refine congrArg Value.bool ?_; unfold zBI; rw [← hcd, Bool.eq_iff_iff]; simp; omega)
end Go.Proofs.YtlidonjpgigocaaGreat
namespace Go.Proofs.YtlidonjpgigocaaGreat
open Go.Proofs.Tryz
set_option linter.all false
set_option maxRecDepth 4000
open Go.RowKit
set_option maxHeartbeats 1600000 in
theorem rmore_c {w : World} {m : Mem} {o_a : Option Addr} {c_a : Nat} {a : List Str} {o_b : Option Addr} {c_b : Nat} {b : List Str} (hA : Agree w m) (h_a : Strs m o_a a.length c_a a) (h_b : Strs m o_b b.length c_b b) (ha : a.length ≤ 200000000) (hb : b.length ≤ 200000000) : FnV Tryz.prog 64 #[.slice o_a a.length c_a, .slice o_b b.length c_b] w m (fun _ m v => (MP.strs (ZR a b)).p m v) := by
 have hb_a := h_a.big; have hc_a := h_a.cap
 have hb_b := h_b.big; have hc_b := h_b.cap
 refine zY (vs := [_, _]) func64 rfl rfl rfl fun a0 hfr0 => ?_
 have hst0 := zX hA (zw [] _ w m)
 have hM : MLe m m := MLe.refl m
 refine zE fun _ hK1 => ?_
 refine rp0 hst0 hfr0 (.cons rfl (zH rfl) <| .nil) fun a1 w1 m1 hst1 hle1 hk1 => ?_
 have hfr1 := hk1.fr (.o 0 <| .o 1 <| .nil)
 replace h_a := h_a.mono hle1
 replace h_b := h_b.mono hle1
 clear hst0 hfr0 hk1
 refine hK1 _ _ ?_
 refine zE fun _ hK2 => ?_
 obtain ⟨cs_3, hrw_3, hrd_3, hcl_3⟩ := h_b.reads
 replace hst1 := hst1.more (r := .free) trivial List.nodup_nil (by simp [Res.blocks])
 refine ra0 (tch := [(2, 0, (fun v => .row (nz v) _ _ _ _))]) hst1 hfr1 (.cons rfl (zAG underlying41 sizeOf9) <| .cons rfl (zG rfl) <| .consT rfl rfl (fun _ => rfl) rfl (ze 9 rfl rfl rfl fun y9 => Zt (size := 1) (bytes := 16) rfl rfl (fun _ => .inr ⟨rfl, rfl, rfl, rfl⟩) underlying41 type9 rfl rfl rfl rfl (fun w m hK => hrw_3.mono (KC.le hK)) hcl_3 (by decide) hrd_3.one (by simp only [maxLen]; omega) (by omega)) <| .consA 11 rfl rfl <| .nil) fun a2 w2 m2 hst2 hle2 hk2 => ?_
 have hfr2 := hk2.fr (.o 0 <| .nil)
 obtain ⟨⟨oz3, cz3⟩, e4, hrz3, hcz3⟩ := hk2.ex 11 rfl
 replace e4 : zu a2 11 = .slice oz3 (b).length cz3 := by rw [e4]; refine congrArg (fun q => Value.slice _ q _) ?_; first | omega | (simp only [List.length_append, List.length_cons, List.length_nil, List.nil_append, List.length_take, List.length_drop]; try omega)
 replace hfr2 := hfr2.cons (hk2.same 5 rfl e4)
 replace hst2 := hst2.fin (L' := [_]) (.cons e4 <| .nil)
 replace h_a := h_a.mono hle2
 replace hrd_3 := hrd_3.mono hle2
 clear hst1 hfr1 hk2
 have hsz3 : Strs m2 oz3 (b).length cz3 b := Reads.sl (Reads.nil.app hrd_3) hrz3 (by decide) rfl (by have h := hcz3; first | omega | (simp only [List.length_append, List.length_cons, List.length_nil, List.nil_append, List.length_take, List.length_drop] at h ⊢; omega)) (by first | omega | (simp only [List.length_append, List.length_cons, List.length_nil, List.nil_append, List.length_take, List.length_drop]; omega))
 refine hK2 _ _ ?_
 refine zE fun _ hK5 => ?_
 refine rp0 hst2 hfr2 (.cons rfl (zH rfl) <| .nil) fun a3 w3 m3 hst3 hle3 hk3 => ?_
 have hfr3 := hk3.fr (.o 0 <| .o 5 <| .n 6 <| .nil)
 replace h_a := h_a.mono hle3
 replace hsz3 := hsz3.mono hle3
 clear hst2 hfr2 hk3
 have hst3 := hst3.more (r := .row (.slice none 0 0) 0 1 9 []) ⟨rfl, .inl ⟨rfl, rfl⟩⟩ List.nodup_nil (by simp [Res.blocks, Zd])
 have hrow_K : RowAt m3 none (([] : List Str).map (fun x => S x)) := .inl rfl; have hcap_K : ([] : List Str).length ≤ 0 := Nat.le_refl _
 refine hK5 _ _ ?_
 refine zE fun _ hK6 => ?_
 refine zE fun _ hK7 => ?_
 refine rp0 hst3 hfr3 (.cons rfl (zH rfl) <| .nil) fun a4 w4 m4 hst4 hle4 hk4 => ?_
 have hfr4 := hk4.fr (.o 0 <| .o 5 <| .o 6 <| .n 7 <| .nil)
 replace h_a := h_a.mono hle4
 replace hsz3 := hsz3.mono hle4
 replace hrow_K := hrow_K.mono hle4
 clear hst3 hfr3 hk4
 refine hK7 _ _ ?_
 refine zT ?_
 refine z6 (T := [(0, _)]) (fun (y : Nat × Value × List Str × Option Addr × Nat × Option Addr × Nat × List Str) => ([(5, y.2.1), (6, .slice y.2.2.2.2.2.1 y.2.2.2.2.2.2.2.length y.2.2.2.2.2.2.1), (7, .int .i64 (y.1 : Int))] : List (Nat × Value))) (fun y => [_, .row (.slice y.2.2.2.2.2.1 y.2.2.2.2.2.2.2.length y.2.2.2.2.2.2.1) y.2.2.2.2.2.2.2.length 1 9 (y.2.2.2.2.2.2.2.map (fun x => S x))]) (fun (y : Nat × Value × List Str × Option Addr × Nat × Option Addr × Nat × List Str) m => (fun (y : Nat) (vL : Value) (xl : List Str) (xo : Option Addr) (xc : Nat) (klo : Option Addr) (klp : Nat) (kl : List Str) => (y ≤ a.length) ∧ (RowAt m klo (kl.map (fun x => S x))) ∧ (kl.length ≤ klp) ∧ (ZR a b = kl ++ ZR (a.drop y) xl ∧ xl.length ≤ 200000000 ∧ kl.length ≤ y) ∧ (vL = .slice xo xl.length xc) ∧ (Strs m xo xl.length xc xl)) y.1 y.2.1 y.2.2.1 y.2.2.2.1 y.2.2.2.2.1 y.2.2.2.2.2.1 y.2.2.2.2.2.2.1 y.2.2.2.2.2.2.2) (fun y => a.length - y.1) ((0, .slice oz3 b.length cz3, b, oz3, cz3, none, 0, ([] : List Str))) ⟨hst4, MLe.refl _, hfr4.sub (.c <| .c <| .c <| .c <| .nil), ⟨Nat.zero_le _, hrow_K, hcap_K, ⟨rfl, by omega, Nat.le_refl _⟩, rfl, hsz3⟩⟩ fun y a5 w5 m5 hh5 => ?_
 have hst5 := hh5.st; have hle5 := hh5.le; have hfr5 := hh5.fr; have hrel := hh5.rel; clear hh5
 replace h_a := h_a.mono hle5
 clear hst4 hfr4
 obtain ⟨y, vL, xl, xo, xc, klo, klp, kl⟩ := y
 dsimp only at hrel hfr5 hst5
 obtain ⟨hyn, hrow_kl, hcap_kl, hlen_kl, rfl, hx⟩ := hrel
 have hlh5 := hle5
 refine zE fun _ hK9 => ?_
 refine zE fun _ hK10 => ?_
 refine rp0 hst5 hfr5 (.cons rfl (zG rfl) <| .cons rfl (zG rfl) <| .cons rfl (zt rfl underlying41) <| .cons rfl (ZG rfl rfl) <| .nil) fun a6 w6 m6 hst6 hle6 hk6 => ?_
 have hfr6 := hk6.fr (.o 5 <| .o 6 <| .o 7 <| .o 0 <| .n 15 <| .nil)
 replace h_a := h_a.mono hle6
 replace hrow_kl := hrow_kl.mono hle6
 replace hx := hx.mono hle6
 have hlh6 := hlh5.trans hle6
 clear hst5 hfr5 hk6
 refine hK10 _ _ ?_
 refine zJ hfr6 rfl rfl (fun hb15 => ?_) (fun hb15 => ?_)
 ·try simp only [nqs] at hb15
  refine zR ?_
  refine hK9 _ _ ?_
  refine zE fun _ hK11 => ?_
  refine zT ?_
  refine zE fun _ hK12 => ?_
  obtain ⟨p13, vs13, x13, ho13, hd13, hm_x13, ht13, hcv13, hl13, hv13⟩ := h_a.nth (k := y) (by omega)
  cases ho13
  subst hv13
  have hda9 := hd13
  refine rp0 hst6 hfr6 (.cons rfl (zH rfl) <| .nil) fun a7 w7 m7 hst7 hle7 hk7 => ?_
  have hfr7 := hk7.fr (.o 5 <| .o 6 <| .o 7 <| .o 0 <| .n 8 <| .nil)
  clear hst6 hfr6 hk7
  refine hK12 _ _ ?_
  refine zE fun _ hK14 => ?_
  refine zT ?_
  have hlh7 := hlh6.trans hle7
  have hlq15 := hlh7
  refine z6 (T := [(5, _), (6, _), (7, _), (0, _)]) (fun (k : Nat) => ([(8, .int .i64 (k : Int))] : List (Nat × Value))) (fun _ => _) (fun (k : Nat) m => (k ≤ xl.length) ∧ (xl.erase x13 = xl.take k ++ (xl.drop k).erase x13) ∧ (decide (x13 ∈ xl) = decide (x13 ∈ xl.drop k))) (fun k => xl.length - k) (0) ⟨hst7, MLe.refl _, hfr7.sub (.c <| .c <| .c <| .c <| .c <| .nil), ⟨Nat.zero_le _, rfl, rfl⟩⟩ fun k a8 w8 m8 hh8 => ?_
  have hst8 := hh8.st; have hle8 := hh8.le; have hfr8 := hh8.fr; have hrel := hh8.rel; clear hh8
  clear hst7 hfr7
  obtain ⟨hkn, hJe, hJm⟩ := hrel
  have hlh8 := hle8
  refine zE fun _ hK16 => ?_
  refine zE fun _ hK17 => ?_
  rcases Nat.lt_or_ge k xl.length with hyl | hyl
  ·skip
   have zq1 := hle7.trans hle8
   replace hx := hx.mono zq1
   obtain ⟨p18, vs18, x18, ho18, hd18, hm_x18, ht18, hcv18, hl18, hv18⟩ := hx.nth (k := k) (by omega)
   cases ho18
   subst hv18
   replace hcv13 := hcv13.mono zq1
   refine Zf (fun _ => mixed) hst8 hfr8 (by kernel_rfl) (by kernel_rfl) (.cons rfl (zG rfl) <| .cons rfl (zG rfl) <| .cons rfl (zt rfl underlying41) <| .cons rfl (ZG rfl rfl) <| .cons rfl (zG rfl) <| .cons rfl (zG rfl) <| .cons rfl (zG rfl) <| .cons rfl (zN (k := k) rfl rfl underlying41 sizeOf9 rfl (by omega)) <| .cons rfl (zr rfl hcv18 isAgg9 rfl) <| .cons rfl (zG rfl) <| .cons rfl (zG rfl) <| .cons rfl (zN (k := y) rfl rfl underlying41 sizeOf9 rfl (by omega)) <| .cons rfl (zr rfl hcv13 isAgg9 rfl) <| .cons rfl (zEe rfl rfl) <| .cons rfl (z8 rfl rfl rfl) <| .nil) fun a9 w9 m9 hst9 hle9 hk9 => ?_
   have hfr9 := hk9.fr (.o 8 <| .o 5 <| .o 6 <| .o 7 <| .o 0 <| .n 32 <| .nil)
   clear hst8 hfr8 hk9
   refine hK17 _ _ ?_
   refine zJ hfr9 rfl rfl (fun hb32 => ?_) (fun hb32 => ?_)
   ·try simp only [nqs] at hb32
    have hne9 : ¬ x18 = x13 := by simpa using hb32.2
    refine zR ?_
    refine hK16 _ _ ?_
    refine zT ?_
    refine rp0 hst9 hfr9 (.cons rfl (zG rfl) <| .cons rfl (zy rfl rfl ⟨by omega, by omega⟩) <| .cons rfl (zH rfl) <| .nil) fun a10 w10 m10 hst10 hle10 hk10 => ?_
    have hfr10 := hk10.fr (.o 5 <| .o 6 <| .o 7 <| .o 0 <| .n 8 <| .nil)
    clear hst9 hfr9 hk10
    have zq2 := hle9.trans hle10
    have hlh10 := hlh8.trans zq2
    exact ⟨k + 1, m10, by show xl.length - (k + 1) < xl.length - k; omega, ⟨hst10, hlh10, hfr10.sub (.c <| .c <| .c <| .c <| .c <| .nil), ⟨by show k + 1 ≤ xl.length; omega, by rw [hJe, hd18, ht18, List.erase_cons_tail (by simpa using hne9)]; simp, by rw [hJm, hd18, decide_eq_decide, List.mem_cons]; exact ⟨fun h => h.resolve_left fun e => hne9 e.symm, .inr⟩⟩⟩⟩
   ·try simp only [nqs] at hb32
    have heq9 : x18 = x13 := by rcases hb32 with h | h; (exfalso; omega); simpa using h
    rw [hd18, heq9, List.erase_cons_head] at hJe
    have hin9 : x13 ∈ xl := heq9 ▸ hm_x18
    rw [hda9, zEg hin9] at hlen_kl
    refine z7 ?_
    refine hK14 _ _ ?_
    refine zE fun _ hK19 => ?_
    refine rp0 hst9 hfr9 (.cons rfl (zG rfl) <| .cons rfl (zG rfl) <| .cons rfl (zt rfl underlying41) <| .cons rfl (ZG rfl rfl) <| .nil) fun a10 w10 m10 hst10 hle10 hk10 => ?_
    have hfr10 := hk10.fr (.o 8 <| .o 5 <| .o 6 <| .o 7 <| .o 0 <| .n 38 <| .nil)
    clear hst9 hfr9 hk10
    refine hK19 _ _ ?_
    refine zJ hfr10 rfl rfl (fun hb38 => ?_) (fun hb38 => ?_)
    ·try simp only [nqs] at hb38
     have zq3 := hle9.trans hle10
     replace hx := hx.mono zq3
     have hcp9 := hx.cap
     have hct20 : Strs _ _ _ _ ((xl.take (k)).drop (0)) := hx.cut (l := 0) (k := k) (by omega) (by omega)
     have hcl20 : (k) - (0) = (((xl.take (k)).drop (0))).length := hct20.len.symm
     have hcu20 : Strs _ _ _ _ ((xl.take (k)).drop (0)) := hct20.lenL
     obtain ⟨cs_21, hrw_21, hrd_21, hcl_21⟩ := hct20.reads
     have hct22 : Strs _ _ _ _ ((xl.take (xl.length)).drop (k + 1)) := hx.cut (l := k + 1) (k := xl.length) (by omega) (by omega)
     have hcl22 : (xl.length) - (k + 1) = (((xl.take (xl.length)).drop (k + 1))).length := hct22.len.symm
     have hcu22 : Strs _ _ _ _ ((xl.take (xl.length)).drop (k + 1)) := hct22.lenL
     obtain ⟨cs_23, hrw_23, hrd_23, hcl_23⟩ := hct22.reads
     replace hst10 := hst10.more (r := .free) trivial List.nodup_nil (by simp [Res.blocks])
     refine zn (tch := [(4, 2, (fun v => .row (nz v) _ _ _ _)), (9, 2, (fun v => .row (nz v) _ _ _ _))]) (fun _ => mixed) hst10 hfr10 (by kernel_rfl) (by kernel_rfl) (by kernel_rfl) (.cons rfl (zAG underlying41 sizeOf9) <| .cons rfl (zG rfl) <| .cons rfl (zG rfl) <| .cons rfl (zBy (l := 0) (h := k) rfl .none (.some rfl (by omega)) underlying41 sizeOf9 (by first | omega | (dsimp only; omega)) (by first | omega | (dsimp only; omega))) <| .consT rfl rfl (fun _ => rfl) rfl (ze 39 rfl rfl rfl fun y39 => Zt (size := 1) (bytes := 16) rfl rfl (fun _ => .inr ⟨rfl, rfl, rfl, rfl⟩) underlying41 type9 rfl rfl rfl rfl (fun w m hK => hrw_21.mono (KC.le hK)) hcl_21 (by decide) hrd_21.one (by simp only [maxLen]; omega) (by omega)) <| .cons rfl (zG rfl) <| .cons rfl (zG rfl) <| .cons rfl (zy rfl rfl ⟨by omega, by omega⟩) <| .cons rfl (zBy (l := k + 1) (h := xl.length) rfl (.some rfl (by omega)) .none underlying41 sizeOf9 (by first | omega | (dsimp only; omega)) (by first | omega | (dsimp only; omega))) <| .consT rfl rfl (fun _ => rfl) rfl (ze 43 rfl rfl rfl fun y43 => Zt (size := 1) (bytes := 16) rfl rfl (fun _ => .inl rfl) underlying41 type9 rfl rfl rfl rfl (fun w m hK => hrw_23.mono (KC.le hK)) hcl_23 (by decide) hrd_23.one (by simp only [maxLen]; omega) (by omega)) <| .consA 48 rfl rfl <| .nil) fun a11 w11 m11 hst11 hle11 hk11 => ?_
     have hfr11 := hk11.fr (.o 8 <| .o 6 <| .o 7 <| .o 0 <| .nil)
     obtain ⟨⟨oz21, cz21⟩, e24, hrz21, hcz21⟩ := hk11.ex 43 rfl
     replace e24 : zu a11 43 = .slice oz21 (((xl.take (k)).drop (0))).length cz21 := by rw [e24]; refine congrArg (fun q => Value.slice _ q _) ?_; first | omega | (simp only [List.length_append, List.length_cons, List.length_nil, List.nil_append, List.length_take, List.length_drop]; try omega)
     obtain ⟨⟨oz23, cz23⟩, e25, hrz23, hcz23⟩ := hk11.ex 48 rfl
     replace e25 : zu a11 48 = .slice oz23 ((((xl.take (k)).drop (0)) ++ ((xl.take (xl.length)).drop (k + 1)))).length cz23 := by rw [e25]; refine congrArg (fun q => Value.slice _ q _) ?_; first | omega | (simp only [List.length_append, List.length_cons, List.length_nil, List.nil_append, List.length_take, List.length_drop]; try omega)
     replace hfr11 := hfr11.cons (hk11.same 5 rfl e25)
     replace hst11 := hst11.fin (L' := [_, _, _]) (.cons e24 <| .cons e25 <| .nil)
     clear hst10 hfr10 hk11
     replace hrd_21 := hrd_21.mono hle11
     replace hrd_23 := hrd_23.mono hle11
     have hsz23 : Strs m11 oz23 ((((xl.take (k)).drop (0)) ++ ((xl.take (xl.length)).drop (k + 1)))).length cz23 (((xl.take (k)).drop (0)) ++ ((xl.take (xl.length)).drop (k + 1))) := Reads.sl ((Reads.nil.app hrd_21).app hrd_23) hrz23 (by decide) rfl (by have h := hcz23; first | omega | (simp only [List.length_append, List.length_cons, List.length_nil, List.nil_append, List.length_take, List.length_drop] at h ⊢; omega)) (by first | omega | (simp only [List.length_append, List.length_cons, List.length_nil, List.nil_append, List.length_take, List.length_drop]; omega))
     have hle9 : xl.erase x13 = (((xl.take k).drop 0) ++ ((xl.take xl.length).drop (k + 1))) := by rw [hJe]; simp
     have hll9 : (xl.erase x13).length ≤ xl.length := List.length_erase_le
     refine hK11 _ _ ?_
     refine rp0 hst11 hfr11 (.cons rfl (zG rfl) <| .cons rfl (zy rfl rfl ⟨by omega, by omega⟩) <| .cons rfl (zH rfl) <| .nil) fun a12 w12 m12 hst12 hle12 hk12 => ?_
     have hfr12 := hk12.fr (.o 8 <| .o 6 <| .o 0 <| .o 5 <| .n 7 <| .nil)
     clear hst11 hfr11 hk12
     have hst12 := hst12.take 2
     have zq4 := hle11.trans hle12
     have zq5 := zq3.trans zq4
     have zq6 := zq1.trans zq5
     replace hrow_kl := hrow_kl.mono zq6
     have zq7 := hle8.trans zq5
     replace hlq15 := hlq15.trans zq7
     replace hsz23 := hsz23.mono hle12
     exact ⟨(y + 1, .slice oz23 (((xl.take k).drop 0) ++ ((xl.take xl.length).drop (k + 1))).length cz23, (((xl.take k).drop 0) ++ ((xl.take xl.length).drop (k + 1))), oz23, cz23, klo, klp, kl), m12, by show a.length - (y + 1) < a.length - y; omega, ⟨hst12, hlq15, hfr12.sub (.c <| .c <| .c <| .c <| .nil), ⟨by show y + 1 ≤ a.length; omega, hrow_kl, hcap_kl, ⟨by rw [hlen_kl.1, hle9], by show (((xl.take k).drop 0) ++ ((xl.take xl.length).drop (k + 1))).length ≤ 200000000; have h8 := hlen_kl.2.1; rw [← hle9]; omega, by have h8 := hlen_kl.2.2; show kl.length ≤ y + 1; omega⟩, rfl, hsz23⟩⟩⟩
    ·exfalso; simp at hb38; try omega
  ·skip
   refine Zf (fun _ => mixed) hst8 hfr8 (by kernel_rfl) (by kernel_rfl) (.cons rfl (zG rfl) <| .cons rfl (zG rfl) <| .cons rfl (zt rfl underlying41) <| .cons rfl (ZG rfl rfl) <| .cons rfl (zG rfl) <| .cons rfl (ZY (κ := .eq (.bool false)) (b := true) 22 rfl rfl (fun h => by simp at h; omega)) <| .cons rfl (ZY (κ := .eq (.bool false)) (b := true) 22 rfl rfl (fun h => by simp at h; omega)) <| .cons rfl (ZY (κ := .eq (.bool false)) (b := true) 22 rfl rfl (fun h => by simp at h; omega)) <| .cons rfl (ZY (κ := .eq (.bool false)) (b := true) 22 rfl rfl (fun h => by simp at h; omega)) <| .cons rfl (ZY (κ := .eq (.bool false)) (b := true) 22 rfl rfl (fun h => by simp at h; omega)) <| .cons rfl (ZY (κ := .eq (.bool false)) (b := true) 22 rfl rfl (fun h => by simp at h; omega)) <| .cons rfl (ZY (κ := .eq (.bool false)) (b := true) 22 rfl rfl (fun h => by simp at h; omega)) <| .cons rfl (ZY (κ := .eq (.bool false)) (b := true) 22 rfl rfl (fun h => by simp at h; omega)) <| .cons rfl (ZY (κ := .eq (.bool false)) (b := true) 22 rfl rfl (fun h => by simp at h; omega)) <| .cons rfl (z8 rfl rfl rfl) <| .nil) fun a9 w9 m9 hst9 hle9 hk9 => ?_
   have hfr9 := hk9.fr (.o 8 <| .o 5 <| .o 6 <| .o 7 <| .o 0 <| .n 32 <| .nil)
   clear hst8 hfr8 hk9
   refine hK17 _ _ ?_
   refine zJ hfr9 rfl rfl (fun hb32 => ?_) (fun hb32 => ?_)
   ·exfalso; simp at hb32; try omega
   ·try simp only [nqs] at hb32
    have hke : k = xl.length := by omega
    rw [hke, List.drop_length] at hJm
    have hno9 : ¬ x13 ∈ xl := by simpa using hJm
    rw [hda9, zDz hno9] at hlen_kl
    refine z7 ?_
    refine hK14 _ _ ?_
    refine zE fun _ hK26 => ?_
    refine rp0 hst9 hfr9 (.cons rfl (zG rfl) <| .cons rfl (zG rfl) <| .cons rfl (zt rfl underlying41) <| .cons rfl (ZG rfl rfl) <| .nil) fun a10 w10 m10 hst10 hle10 hk10 => ?_
    have hfr10 := hk10.fr (.o 8 <| .o 5 <| .o 6 <| .o 7 <| .o 0 <| .n 38 <| .nil)
    clear hst9 hfr9 hk10
    refine hK26 _ _ ?_
    refine zJ hfr10 rfl rfl (fun hb38 => ?_) (fun hb38 => ?_)
    ·exfalso; simp at hb38; try omega
    ·try simp only [nqs] at hb38
     have zq8 := hle9.trans hle10
     have zq9 := hle8.trans zq8
     have zq10 := hle7.trans zq9
     replace hcv13 := hcv13.mono zq10
     refine ra0 (tch := [(6, 1, (fun v => .row v _ _ _ _))]) hst10 hfr10 (.cons rfl (zG rfl) <| .cons rfl (zG rfl) <| .cons rfl (zG rfl) <| .cons rfl (zN (k := y) rfl rfl underlying41 sizeOf9 rfl (by omega)) <| .cons rfl (zr rfl hcv13 isAgg9 rfl) <| .cons rfl (ZQ (.cons rfl <| .nil) underlying41 sizeOf9 zeroValue9 rfl rfl rfl rfl) <| .consT rfl rfl (fun _ => rfl) rfl (ze 54 rfl rfl rfl fun y54 => ob_append (size := 1) (bytes := 16) rfl rfl underlying41 type9 rfl rfl rfl rfl (fun w m hK => .inr ⟨_, rfl, hK.2⟩) rfl (by decide) rfl (by simp only [maxLen]; omega) (by omega)) <| .consA 55 rfl rfl <| .nil) fun a11 w11 m11 hst11 hle11 hk11 => ?_
     have hfr11 := hk11.fr (.o 8 <| .o 5 <| .o 7 <| .o 0 <| .nil)
     obtain ⟨⟨K_27o, K_27p⟩, e28, hrow_K_27, hcap_K_27⟩ := hk11.ex 55 rfl
     replace e28 : zu a11 55 = .slice K_27o (kl ++ [x13]).length K_27p := by rw [e28]; refine congrArg (fun q => Value.slice _ q _) ?_; simp only [List.length_append, List.length_cons, List.length_nil]
     replace hfr11 := hfr11.cons (hk11.same 6 rfl e28)
     replace hst11 := hst11.fin (L' := [_, _]) (.cons e28 <| .nil)
     have en_K_27 : (kl).length + 1 = ((kl ++ [x13])).length := by simp only [List.length_append, List.length_cons, List.length_nil]
     have em_K_27 : (kl).map (fun x => S x) ++ [S x13] = ((kl ++ [x13])).map (fun x => S x) := by simp only [List.map_append, List.map_cons, List.map_nil]
     replace hst11 := hst11.row_eq (k := 1) rfl en_K_27 em_K_27
     simp only [List.set_cons_succ, List.set_cons_zero] at hst11
     change RowAt m11 K_27o ((kl).map (fun x => S x) ++ [S x13]) at hrow_K_27; rw [em_K_27] at hrow_K_27; change (kl).length + 1 ≤ K_27p at hcap_K_27; rw [en_K_27] at hcap_K_27
     clear hst10 hfr10 hk11
     refine hK11 _ _ ?_
     refine rp0 hst11 hfr11 (.cons rfl (zG rfl) <| .cons rfl (zy rfl rfl ⟨by omega, by omega⟩) <| .cons rfl (zH rfl) <| .nil) fun a12 w12 m12 hst12 hle12 hk12 => ?_
     have hfr12 := hk12.fr (.o 8 <| .o 5 <| .o 0 <| .o 6 <| .n 7 <| .nil)
     clear hst11 hfr11 hk12
     have zq11 := hle11.trans hle12
     have zq12 := zq10.trans zq11
     replace hx := hx.mono zq12
     have zq13 := zq9.trans zq11
     replace hlq15 := hlq15.trans zq13
     replace hrow_K_27 := hrow_K_27.mono hle12
     exact ⟨(y + 1, .slice xo xl.length xc, xl, xo, xc, K_27o, K_27p, (kl ++ [x13])), m12, by show a.length - (y + 1) < a.length - y; omega, ⟨hst12, hlq15, hfr12.sub (.c <| .c <| .c <| .c <| .nil), ⟨by show y + 1 ≤ a.length; omega, hrow_K_27, hcap_K_27, ⟨by rw [hlen_kl.1]; simp, hlen_kl.2.1, by show (kl ++ [x13]).length ≤ y + 1; rw [List.length_append]; exact Nat.add_le_add hlen_kl.2.2 (Nat.le_refl _)⟩, rfl, hx⟩⟩⟩
 ·try simp only [nqs] at hb15
  have hge : y = a.length := by omega
  rw [List.drop_of_length_le (by omega), ZR, List.append_nil] at hlen_kl
  refine z7 ?_
  refine hK6 _ _ ?_
  refine zE fun _ hK29 => ?_
  have hs_K : Strs m6 klo (kl).length klp kl := Strs.of_row (by simpa using hrow_kl) rfl hcap_kl (by omega)
  refine rp0 hst6 hfr6 (.cons rfl (zG rfl) <| .cons rfl (zH rfl) <| .nil) fun a7 w7 m7 hst7 hle7 hk7 => ?_
  have hfr7 := hk7.fr (.o 5 <| .o 6 <| .o 7 <| .n 4 <| .nil)
  clear hst6 hfr6 hk7
  refine hK29 _ _ ?_
  refine zU ?_
  repeat (with_reducible first | refine zL ?_ | refine zI ?_)
  replace hs_K := hs_K.mono hle7
  exact zV hst7 hfr7 rfl (.tmp rfl <| .nil) (⟨(_, _), by rw [hlen_kl.1]; rfl, by rw [hlen_kl.1]; exact hs_K⟩)
end Go.Proofs.YtlidonjpgigocaaGreat
namespace Go.Proofs.YtlidonjpgigocaaGreat
open Go.Proofs.Tryz
set_option linter.all false
set_option maxRecDepth 4000
open Go.RowKit
-- what is said stays right, whatever is asked
structure Gd7 (U : USt) : Prop where
 ok : zBL U.s
 ap : zAZ U.s
 nx : 0 < U.nx
theorem oneT_ok {n : Int} {t : Ty} (hn : 1 ≤ n) (hr : zz t = true) : zBL (zAg n t) := by
 refine ⟨fun k y e => ?_, fun k y e => (by cases e)⟩
 rw [zBm] at e; split at e
 ·rename_i hk; injection e with e; subst e; subst hk; exact ⟨hn, hr⟩
 ·cases e
theorem Gd7.then {U : USt} (h : Gd7 U) {one : Sub} {n : Int} (ho : zBL one) (ha : zAZ one) (hn : 0 < n) : Gd7 ⟨zAx U.s one, n⟩ := ⟨ok_then (Zl h.ap) h.ok ho, zAQ ha, hn⟩
theorem Gd7.row {U : USt} (h : Gd7 U) {n rest m : Int} {ls : List Str} (hn : 1 ≤ n) (hr : ZW ls rest = true) (hm : 0 < m) : Gd7 ⟨Z8 n ls rest U.s, m⟩ := h.then (oneR_ok hn hr) (zAk _ _) hm
theorem good_is {n : Int} {t : Ty} {U : USt} (h : Gd7 U) (hn : 1 ≤ n) (ht : zz t = true) : Gd7 (isU n t U).2 := by
 unfold isU
 split
 ·exact h
 ·split
  ·exact h
  ·exact h.then (oneT_ok hn ht) (zFN _ _) h.nx
theorem good_rowsV {a b : Rw} {p q : List Str} {U : USt} (h : Gd7 U) (ha : ZW a.labels a.var = true) (hb : ZW b.labels b.var = true) (hp : p.Sublist a.labels) (hq : q.Sublist b.labels) : Gd7 (zCi a b p q U).2 := by
 have a0 := (ZU ha).2; have b0 := (ZU hb).2
 have hn := h.nx
 have nilOk : ∀ {n : Int}, 0 ≤ n → ZW [] n = true := fun hn => zAb ha (List.nil_sublist _) hn
 unfold zCi
 split
 ·split
  ·exact h
  ·split
   ·exact h.row (by omega) (nilOk (by omega)) h.nx
   ·exact h.row (by omega) (nilOk b0) h.nx
 ·rename_i hpq
  split
  ·exact h
  ·rename_i hc
   have c1 : p ≠ [] → b.var ≠ 0 := fun h1 h2 => hc (.inl ⟨h1, h2⟩)
   have c2 : q ≠ [] → a.var ≠ 0 := fun h1 h2 => hc (.inr (.inl ⟨h1, h2⟩))
   split
   ·rename_i hq0
    have := c1 (fun e => hpq ⟨e, hq0⟩)
    exact h.row (by omega) (zAb ha hp a0) h.nx
   ·rename_i hq0
    split
    ·have := c2 hq0
     exact h.row (by omega) (zAb hb hq b0) h.nx
    ·rename_i hp0
     have h1 := c1 hp0; have h2 := c2 hq0
     exact Gd7.row (U := ⟨Z8 a.var q U.nx U.s, U.nx + 1⟩) (h.row (by omega) (zAb hb hq (by omega)) (by omega)) (by omega) (zAb ha hp (by omega)) (by omega)
theorem good_rows {a b : Rw} {U : USt} (h : Gd7 U) (ha : ZW a.labels a.var = true) (hb : ZW b.labels b.var = true) : Gd7 (zAc a b U).2 :=
 good_rowsV h (zCQ ha fun n x e => (h.ok.rs n x e).2) (zCQ hb fun n x e => (h.ok.rs n x e).2) (zBB _ _) (zBB _ _)
theorem right_pos {t : Ty} (h : zz t = true) (h7 : t.kind = 7) : 1 ≤ t.var := (allV_pos t h).here.1 h7
theorem zGe : ∀ (k : Nat) (a b : Ty) (U : USt) (R : Int × USt), ZX k a b U = some R → Gd7 U → zz a = true → zz b = true → Gd7 R.2 := by
 intro k
 induction k with
 | zero => intro a b U R hR; rw [ZX] at hR; cases hR
 | succ k ih =>
  intro a b U R hR h ra rb
  obtain ⟨_, hB⟩ := zCO hR
  have pra := zAL h.ok ra; have prb := zAL h.ok rb
  generalize zM U.s a = pa at *
  generalize zM U.s b = pb at *
  unfold Zp at hB
  split at hB
  ·injection hB with hB; subst hB; exact h
  ·split at hB
   ·rename_i h7
    injection hB with hB; subst hB; exact good_is h (right_pos pra h7) prb
   ·split at hB
    ·rename_i h7
     injection hB with hB; subst hB; exact good_is h (right_pos prb h7) pra
    ·split at hB
     ·injection hB with hB; subst hB; exact h
     ·rename_i hkk
      have hk : pa.kind = pb.kind := Decidable.byContradiction fun h => hkk (.inl h)
      split at hB
      ·rename_i h6
       obtain ⟨x, rfl, rx⟩ := zAM pra h6.1
       obtain ⟨y, rfl, ry⟩ := zAM prb (hk ▸ h6.1)
       exact ih x y U R hB h rx ry
      ·split at hB
       ·rename_i h5
        obtain ⟨x1, y1, l1, r1, rfl, rx1, ry1, ro1⟩ := zAK pra h5.1
        obtain ⟨x2, y2, l2, r2, rfl, rx2, ry2, ro2⟩ := zAK prb (hk ▸ h5.1)
        obtain ⟨R1, e1, hB⟩ := Z5 hB
        have g1 := ih x1 x2 U R1 e1 h rx1 rx2
        split at hB
        ·injection hB with hB; subst hB; exact g1
        ·obtain ⟨R2, e2, hB⟩ := Z5 hB
         obtain ⟨_, e2⟩ := zDd e2
         have g2 : Gd7 R2.2 := by rw [← e2]; exact good_rows g1 ro1 ro2
         split at hB
         ·injection hB with hB; subst hB; exact g2
         ·obtain ⟨R3, e3, hB⟩ := Z5 hB
          have g3 := ih y1 y2 R2.2 R3 e3 g2 ry1 ry2
          split at hB
          ·injection hB with hB; subst hB; exact g3
          ·rename_i h0
           rw [zCK] at hB; injection hB with hB; subst hB; exact g3
       ·injection hB with hB; subst hB; exact h
structure StepsC (k : Nat) (pa pb : Ty) (U : USt) (R : Int × USt) (cs : Nat → Int × USt) : Prop where
 h0 : cs 0 = (0, U)
 hn : cs pa.args.length = R
 ln : pa.args.length = pb.args.length
 ra : ∀ y, y < pa.args.length → zz (zCa pa y) = true ∧ zz (zCa pb y) = true
 st : ∀ y, y < pa.args.length → ∃ r, ((cs y).1 ≠ 0 → r = cs y) ∧ ((cs y).1 = 0 → ZX k (zCa pa y) (zCa pb y) (cs y).2 = some r) ∧ Gd7 (cs y).2 ∧
  (if y = 0 ∧ pa.kind = 5 ∧ r.1 = 0 then (OkS r.2 ∧ pa.labels.length ≤ 50000000 ∧ pb.labels.length ≤ 50000000) ∧ cs (y + 1) = zAc ⟨pa.labels, pa.rv⟩ ⟨pb.labels, pb.rv⟩ r.2 else cs (y + 1) = r)
theorem steps_of {k : Nat} {pa pb : Ty} {U : USt} {R : Int × USt} (hB : Zp (ZX k) pa pb U = some R) (h : Gd7 U) (pra : zz pa = true) (prb : zz pb = true) (hne : ¬ pa = pb) (h7a : ¬ pa.kind = 7) (h7b : ¬ pb.kind = 7) (hk : pa.kind = pb.kind) (h56 : pa.kind = 5 ∨ pa.kind = 6) : ∃ cs, StepsC k pa pb U R cs := by
 rcases h56 with h5 | h6
 ·obtain ⟨x1, y1, l1, r1, rfl, rx1, ry1, ro1⟩ := zAK pra h5
  obtain ⟨x2, y2, l2, r2, rfl, rx2, ry2, ro2⟩ := zAK prb (hk ▸ h5)
  unfold Zp at hB
  rw [if_neg hne, if_neg h7a, if_neg h7b, if_neg (by simp [Ty.kind, Ty.args]), if_neg (by simp [Ty.kind]), if_pos ⟨rfl, rfl⟩] at hB
  obtain ⟨R1, e1, hB⟩ := Z5 hB
  have g1 := zGe k x1 x2 U R1 e1 h rx1 rx2
  have hra : ∀ y, y < 2 → zz (zCa ⟨5, [], 0, [x1, y1], l1, r1⟩ y) = true ∧ zz (zCa ⟨5, [], 0, [x2, y2], l2, r2⟩ y) = true := fun y hy => by
   match y, hy with
   | 0, _ => exact ⟨rx1, rx2⟩
   | 1, _ => exact ⟨ry1, ry2⟩
  by_cases z1 : R1.1 = 0
  ·rw [if_neg (by omega)] at hB
   obtain ⟨R2, e2, hB⟩ := Z5 hB
   obtain ⟨ok2, e2⟩ := zDd e2
   have g2 : Gd7 R2.2 := by rw [← e2]; exact good_rows g1 ro1 ro2
   have hR : ∃ r, (R2.1 ≠ 0 → r = R2) ∧ (R2.1 = 0 → ZX k y1 y2 R2.2 = some r) ∧ r = R := by
    by_cases z2 : R2.1 = 0
    ·rw [if_neg (by omega)] at hB
     obtain ⟨R3, e3, hB⟩ := Z5 hB
     refine ⟨R3, fun h => absurd z2 h, fun _ => e3, ?_⟩
     split at hB
     ·injection hB
     ·rename_i h3
      rw [zCK] at hB; injection hB with hB; rw [← hB]
      have : R3.1 = 0 := by omega
      rw [← this]
    ·rw [if_pos z2] at hB; injection hB with hB
     exact ⟨R2, fun _ => rfl, fun h => absurd h z2, hB⟩
   obtain ⟨r, hr1, hr2, rfl⟩ := hR
   refine ⟨fun y => if y = 0 then (0, U) else if y = 1 then R2 else r, ⟨rfl, rfl, rfl, hra, fun y hy => ?_⟩⟩
   match y, (show y < 2 from hy) with
   | 0, _ => exact ⟨R1, fun h => absurd rfl h, fun _ => e1, h, by rw [if_pos ⟨rfl, rfl, z1⟩]; exact ⟨ok2, e2.symm⟩⟩
   | 1, _ => exact ⟨r, hr1, hr2, g2, by rw [if_neg (by omega)]; rfl⟩
  ·rw [if_pos z1] at hB; injection hB with hB; subst hB
   refine ⟨fun y => if y = 0 then (0, U) else R1, ⟨rfl, rfl, rfl, hra, fun y hy => ?_⟩⟩
   match y, (show y < 2 from hy) with
   | 0, _ => exact ⟨R1, fun h => absurd rfl h, fun _ => e1, h, by rw [if_neg (fun q => z1 q.2.2)]; rfl⟩
   | 1, _ => exact ⟨R1, fun _ => rfl, fun q => absurd q z1, g1, by rw [if_neg (by omega)]; rfl⟩
 ·obtain ⟨x, rfl, rx⟩ := zAM pra h6
  obtain ⟨y, rfl, ry⟩ := zAM prb (hk ▸ h6)
  unfold Zp at hB
  rw [if_neg hne, if_neg h7a, if_neg h7b, if_neg (by simp [Ty.kind, Ty.args]), if_pos ⟨rfl, rfl⟩] at hB
  refine ⟨fun y => if y = 0 then (0, U) else R, ⟨rfl, rfl, rfl, fun i hi => ?_, fun i hi => ?_⟩⟩
  ·match i, (show i < 1 from hi) with
   | 0, _ => exact ⟨rx, ry⟩
  ·match i, (show i < 1 from hi) with
   | 0, _ => exact ⟨R, fun h => absurd rfl h, fun _ => hB, h, by rw [if_neg (fun q => absurd (show (6 : Int) = 5 from q.2.1) (by decide))]; rfl⟩
theorem typesB_else {k : Nat} {pa pb : Ty} {U : USt} {R : Int × USt} (hB : Zp (ZX k) pa pb U = some R) (hne : ¬ pa = pb) (h7a : ¬ pa.kind = 7) (h7b : ¬ pb.kind = 7) (hc : (pa.kind ≠ pb.kind ∨ (pa.kind ≠ 5 ∧ pa.kind ≠ 6)) ∨ pa.args.length ≠ pb.args.length) : R = (5, U) := by
 unfold Zp at hB
 rw [if_neg hne, if_neg h7a, if_neg h7b] at hB
 split at hB
 ·injection hB with hB; exact hB.symm
 ·rename_i h9
  have h8 : pa.kind ≠ 5 ∧ pa.kind ≠ 6 := by
   rcases hc with (h | h) | h
   ·exact absurd (.inl h) h9
   ·exact h
   ·exact absurd (.inr h) h9
  rw [if_neg (fun q => h8.2 q.1), if_neg (fun q => h8.1 q.1)] at hB
  injection hB with hB; exact hB.symm
theorem thenRw_len (b : Sub) (l : List (Int × Rw)) : (zCX b l).length ≤ b.rs.length + l.length := by
 unfold zCX
 have key : ∀ (l : List (Int × Rw)) (o : List (Int × Rw)), (l.foldl (fun o p => zAY p.1 (zQ b p.2) o) o).length ≤ o.length + l.length := by
  intro l
  induction l with
  | nil => intro o; exact Nat.le_refl _
  | cons p l ih =>
   intro o
   rw [List.foldl_cons, List.length_cons]
   have h1 := ih (zAY p.1 (zQ b p.2) o)
   have h2 := zCv p.1 (zQ b p.2) o
   omega
 exact key l b.rs
theorem thenT_len (b : Sub) (l : List (Int × Ty)) : (zDO b l).length ≤ b.ts.length + l.length := by
 unfold zDO
 have key : ∀ (l : List (Int × Ty)) (o : List (Int × Ty)), (l.foldl (fun o p => zAY p.1 (zM b p.2) o) o).length ≤ o.length + l.length := by
  intro l
  induction l with
  | nil => intro o; exact Nat.le_refl _
  | cons p l ih =>
   intro o
   rw [List.foldl_cons, List.length_cons]
   have h1 := ih (zAY p.1 (zM b p.2) o)
   have h2 := zCv p.1 (zM b p.2) o
   omega
 exact key l b.ts
structure RefOk (s : Sub) : Prop where
 ap : zAZ s
 w : SubW 300000000 s
 ln : s.ts.length ≤ 2000000 ∧ s.rs.length ≤ 2000000
theorem RefOk.ts {s : Sub} (h : RefOk s) : ∀ p ∈ s.ts, wdT p.2 ≤ 300000000 := fun p hp => h.w.1 _ _ (Z7 h.ap.1 hp)
theorem RefOk.rs {s : Sub} (h : RefOk s) : ∀ p ∈ s.rs, p.2.labels.length ≤ 300000000 := fun p hp => h.w.2 _ _ (Z7 h.ap.2 hp)
theorem OkS.ref {U : USt} (h : OkS U) (ha : zAZ U.s) : RefOk U.s := ⟨ha, h.w.up (by omega), by have := h.len; omega⟩
theorem OkS.ref1 {U : USt} (h : OkS U) (ha : zAZ U.s) {n rest : Int} {ls : List Str} (hl : ls.length ≤ 200000000) : RefOk (Z8 n ls rest U.s) :=
 ⟨zAQ (zAk _ _), (thenR_w (A := 50000000) (B := 200000000) ha h.w (oneR_w hl)).up (by omega), by
  have h1 := thenT_len (zAe n ⟨ls, rest⟩) U.s.ts
  have h2 := thenRw_len (zAe n ⟨ls, rest⟩) U.s.rs
  have h3 := h.len
  have e1 : (zAe n ⟨ls, rest⟩).ts.length = 0 := rfl
  have e2 : (zAe n ⟨ls, rest⟩).rs.length = 1 := rfl
  exact ⟨by show (zDO _ U.s.ts).length ≤ _; omega, by show (zCX _ U.s.rs).length ≤ _; omega⟩⟩
abbrev RB (g : Nat) (r : Sub) (z : ZZ) (n e : Int) : Res := .blk (.pointer (some ⟨g, 0, none⟩)) (.cells (rsV r z ++ [.int .i64 n, .int .i64 e] : List Value).toArray 39)
abbrev zGj (g : Nat) (n : Nat) (c : Int × USt) (w' : World) (m' : Mem) : Prop := ∃ z', Loc [g] n [RB g c.2.s z' c.2.nx c.1] w' m' ∧ RSubR m' c.2.s (rsV c.2.s z')
theorem rp_R {f : Nat} {args : Array Value} {g : Nat} {s : Sub} {z : ZZ} {n e : Int} {w : World} {m : Mem} {c : Int × USt} (h : FnG Tryz.prog f args [g] w m (fun w' m' v => zGj g w.heap.size c w' m')) :
  FnR Tryz.prog f args [RB g s z n e] w m fun rs' m' v => ∃ z', rs' = [RB g c.2.s z' c.2.nx c.1] ∧ RSubR m' c.2.s (rsV c.2.s z') :=
 FnG.mono h fun _ _ _ _ ⟨z', hL, hU⟩ => ⟨_, hL, z', rfl, hU⟩
theorem rs_o {m : Mem} {s : Sub} {zA zB zC zD : Option Addr} {za zb zc zd : Nat} (h : RSubR m s (rsV s (((zA, za), (zB, zb)), (zC, zc), (zD, zd)))) :
  Ints m zA (s.ts.map Prod.fst).length za (s.ts.map Prod.fst) ∧ Tys m zB (s.ts.map Prod.snd).length zb (s.ts.map Prod.snd) ∧ Ints m zC (s.rs.map Prod.fst).length zc (s.rs.map Prod.fst) ∧ Rws m zD (s.rs.map Prod.snd).length zd (s.rs.map Prod.snd) := by
 obtain ⟨⟨⟨⟨a, a'⟩, b, b'⟩, ⟨c, c'⟩, d, d'⟩, e, h1, h2, h3, h4⟩ := h
 simp only [rsV, List.cons.injEq, Value.slice.injEq, and_true, true_and] at e
 obtain ⟨⟨rfl, rfl⟩, ⟨rfl, rfl⟩, ⟨rfl, rfl⟩, rfl, rfl⟩ := e
 exact ⟨h1, h2, h3, h4⟩
theorem rs_none {m : Mem} : RSubR m zAB (rsV zAB (((none, 0), (none, 0)), (none, 0), (none, 0))) := ⟨_, rfl, Sl.empty, Sl.empty, Sl.empty, Sl.empty⟩
theorem map_at {α β : Type} {f : α → β} {l : List α} {y : Nat} {x : β} (hd : (l.map f).drop y = x :: (l.map f).drop (y + 1)) : ∃ p, l[y]? = some p ∧ x = f p := by
 have h : (l.map f)[y]? = some x := by rw [← List.head?_drop, hd]; rfl
 rw [List.getElem?_map] at h
 obtain ⟨p, h1, h2⟩ := Option.map_eq_some_iff.1 h
 exact ⟨p, h1, h2.symm⟩
theorem any_take {α : Type} {q : α → Bool} {l : List α} {y : Nat} {p : α} (hp : l[y]? = some p) : (l.take (y + 1)).any q = ((l.take y).any q || q p) := by
 rw [List.take_succ, hp]; simp
theorem any_of_take {α : Type} {q : α → Bool} {l : List α} {y : Nat} (h : (l.take y).any q = true) : l.any q = true := by
 rw [List.any_eq_true] at h ⊢
 obtain ⟨x, hx, hq⟩ := h
 exact ⟨x, List.mem_of_mem_take hx, hq⟩
def RK (g : Nat) (c : Int × USt) : Res := .pack [g] fun w m => ∃ z : ZZ, [RB g c.2.s z c.2.nx c.1].flatMap Res.blocks = [g] ∧ (∀ r ∈ [RB g c.2.s z c.2.nx c.1], r.holds w m) ∧ RSubR m c.2.s (rsV c.2.s z)
def MP.anyV : MP := MP.mem (fun v : Value => v) (fun _ _ => True) fun _ h => h
theorem rp_T {f : Nat} {args : Array Value} {g : Nat} {s : Sub} {z : ZZ} {n e0 : Int} {w : World} {m : Mem} {c : Int × USt} (h : FnG Tryz.prog f args [g] w m (fun w' m' v => zGj g w.heap.size c w' m')) :
  Calls Tryz.prog f args w fun e w' => ∃ v m', e = .returned v ∧ Touch (RB g s z n e0) (RK g c) w m w' m' ∧ (Kn.ex MP.anyV).holds m' v :=
 Calls.mono h fun e w' ⟨v, m', e1, hE, z', hL, hU⟩ => ⟨v, m', e1, ⟨hE, pack_of (Ly := fun z => [RB g c.2.s z c.2.nx c.1]) (J := fun z m => RSubR m c.2.s (rsV c.2.s z)) (fun z m m' hm h => h.mono hm) rfl hL.all hU, by simp [RK, Res.blocks], fun b hb => hL.own b (by simp only [RK, Res.blocks, List.mem_singleton] at hb; subst hb; simp [Res.blocks, ZB])⟩, ⟨v, rfl, trivial⟩⟩
theorem rp_open {G0 : List Nat} {W : World} {mE : Mem} {L : List Res} {k g : Nat} {c : Int × USt} {w : World} {m : Mem} (h : St G0 W mE L w m) (hk : L[k]? = some (RK g c)) : ∃ z, St G0 W mE (L.set k (RB g c.2.s z c.2.nx c.1)) w m ∧ RSubR m c.2.s (rsV c.2.s z) := by
 obtain ⟨z, _, hh, hU⟩ := pack_at (h.loc.at_ hk) h.agree
 exact ⟨z, h.weaken hk rfl fun _ => hh _ (.head _), hU⟩
theorem st_re {G0 : List Nat} {W : World} {mE : Mem} {r1 r2 : Res} {L : List Res} {w : World} {m : Mem} (h : St G0 W mE (r1 :: L) w m) (e : r1 = r2) : St G0 W mE (r2 :: L) w m := e ▸ h
end Go.Proofs.YtlidonjpgigocaaGreat
namespace Go.Proofs.YtlidonjpgigocaaGreat
open Go.Proofs.Tryz
set_option linter.all false
set_option maxRecDepth 4000
open Go.RowKit
set_option maxHeartbeats 1600000 in
theorem zCx {w : World} {m : Mem} {g : Nat} {z : ZZ} {U : USt} {e : Int} {n : Int} {r : Rw} {vs_r : List Value} (hA : Agree w m) (hr : (RB g U.s z U.nx e).holds w m) (hU : RSubR m U.s (rsV U.s z)) (h_r : RwR m r vs_r) (hok : RefOk U.s) (hl : r.labels.length ≤ 300000000) : FnG Tryz.prog 65 #[.pointer (some ⟨g, 0, none⟩), .int .i64 n, .agg vs_r.toArray] [g] w m (fun w' m' v => zGj g w.heap.size ((e, ⟨zAx U.s (zAe n r), U.nx⟩)) w' m') := by
 obtain ⟨o_r, c_r, rfl, hs_r, hr_r⟩ := h_r.open_
 have hbs_r := hs_r.big; have hcs_r := hs_r.cap
 refine zY (vs := [_, _, _]) func65 rfl rfl rfl fun a0 hfr0 => ?_
 have hst0 := zX hA (zBC hr (by simp [Res.blocks, ZB]))
 have hM : MLe m m := MLe.refl m
 obtain ⟨⟨⟨zA, za⟩, zB, zb⟩, ⟨zC, zc⟩, zD, zd⟩ := z
 obtain ⟨hqa, hqb, hqc, hqd⟩ := rs_o hU
 refine zE fun _ hK1 => ?_
 refine rp0 hst0 hfr0 (.cons rfl (ZA rfl rfl) <| .nil) fun a1 w1 m1 hst1 hle1 hk1 => ?_
 have hfr1 := hk1.fr (.o 0 <| .o 1 <| .nil)
 obtain ⟨g2, e2, hc5⟩ := hk1.ex 5 rfl
 replace hfr1 := hfr1.cons e2
 replace h_r := h_r.mono hle1
 replace hU := hU.mono hle1
 clear hst0 hfr0 hk1
 refine hK1 _ _ ?_
 refine zE fun _ hK3 => ?_
 replace hst1 := hst1.more (r := .free) trivial List.nodup_nil (by simp [Res.blocks])
 refine ra0 (tch := [(1, 1, (fun v => .blk v _)), (2, 1, (fun v => .blk v _))]) hst1 hfr1 (.cons rfl (ZM (.nil) underlying36 zeroValue36 (.cons sizeOf32 <| .cons sizeOf33 <| .cons sizeOf32 <| .cons sizeOf34 <| .nil) rfl) <| .consT rfl rfl (fun _ => rfl) rfl (zj zeroValue36 rfl) <| .consT rfl rfl (fun _ => rfl) rfl (ze 6 rfl rfl rfl fun y6 => ZD rfl rfl rfl rfl rfl sizeOf36 rfl rfl rfl) <| .nil) fun a2 w2 m2 hst2 hle2 hk2 => ?_
 have hfr2 := hk2.fr (.o 0 <| .o 1 <| .o 5 <| .nil)
 obtain ⟨g4, e4, _⟩ := hk2.ex 6 rfl
 replace hfr2 := hfr2.cons e4
 replace hst2 := hst2.fin (L' := [_, _]) (.cons e4 <| .cons e4 <| .nil)
 try simp only [List.take_succ_cons, List.take_zero, List.drop_succ_cons, List.drop_zero, List.cons_append, List.nil_append, List.append_nil, List.length_cons, List.length_nil, Nat.zero_add, Nat.reduceAdd] at hst2
 replace h_r := h_r.mono hle2
 replace hU := hU.mono hle2
 replace hc5 := hc5.mono hle2
 clear hst1 hfr1 hk2
 refine hK3 _ _ ?_
 refine zn (tch := [(12, 0, (fun _ => .blkx _ _ _))]) (fun _ => mixed) hst2 hfr2 (by kernel_rfl) (by kernel_rfl) (by kernel_rfl) (.cons rfl (zG rfl) <| .cons rfl (zG rfl) <| .cons rfl (zg rfl) <| .cons rfl (zF (off := 0) rfl underlying39 rfl rfl sizeOf36 rfl) <| .cons rfl (Za (j := 0) rfl rfl isAgg36 sizeOf36 rfl rfl) <| .cons rfl (zh (j := 1) rfl rfl isAgg36 sizeOf36 rfl) <| .cons rfl (zG rfl) <| .cons rfl (zS rfl hc5 isAgg43 sizeOf43 rfl rfl) <| .cons rfl (zZ (φ := MP.rsub (zAe n r)) rfl (.cons rfl <| .cons rfl <| .cons rfl <| .nil) call86 (fun w m hK => by have hle_ := KC.le hK; have hA := KC.agree hK; have h_r := h_r.mono hle_; exact FnG.mono (rsetRow_c (s := zAB) (n := n) (x := r) hA rs_none h_r (by simp [zAB])) fun _ _ _ _ h => h)) <| .cons rfl (ZI 16 rfl rfl rfl fun y16 => zZ (φ := MP.rsub (zAx U.s (zAe n r))) rfl (.cons rfl <| .cons rfl <| .nil) call63 (fun w m hK => by have hle_ := KC.le hK; have hA := KC.agree hK; have hr0_ := hK.2; have hU := hU.mono hle_; exact FnG.mono (rthen_c hA hU hr0_ hok.ts hok.rs ((oneR_w (n := n) (r := r) hl).up (by omega)) hok.ln (by simp [zAe])) fun _ _ _ _ h => h)) <| .cons rfl (zg rfl) <| .cons rfl (zF (off := 0) rfl underlying39 rfl rfl sizeOf36 rfl) <| .consT rfl rfl (fun _ => rfl) rfl (ZL 17 rfl rfl rfl fun y17 => zAH rfl rfl rfl sizeOf36 rfl rfl rfl) <| .nil) fun a3 w3 m3 hst3 hle3 hk3 => ?_
 have hfr3 := hk3.fr (.nil)
 replace hst3 := hst3.fin (L' := [_, _]) (.cons rfl <| .nil)
 try simp only [List.take_succ_cons, List.take_zero, List.drop_succ_cons, List.drop_zero, List.cons_append, List.nil_append, List.append_nil, List.length_cons, List.length_nil, Nat.zero_add, Nat.reduceAdd] at hst3
 obtain ⟨z1, hS, hst3⟩ := hst3.unx (k := 0) rfl (fun _ => rfl)
 clear hst2 hfr2 hk3
 repeat (with_reducible first | refine Zx ?_ | refine Zk ?_ | refine Zc ?_)
 exact zEJ hst3 hfr3 rfl (.nil) (⟨z1, (hst3.take 1).loc, hS⟩)
set_option maxHeartbeats 3200000 in
theorem rbeType_g {w : World} {m : Mem} {g : Nat} {z : ZZ} {U : USt} {n : Int} {t : Ty} {vs_t : List Value} (hA : Agree w m) (hr : (RB g U.s z U.nx 0).holds w m) (hU : RSubR m U.s (rsV U.s z)) (h_t : TyR m t vs_t) (hok : OkS U) (hap : zAZ U.s) (hrt : zBL U.s) (hw : wdT t ≤ 200000000) (hc : ZH t ≤ 100000000) : FnG Tryz.prog 39 #[.pointer (some ⟨g, 0, none⟩), .int .i64 n, .agg vs_t.toArray] [g] w m (fun w' m' v => zGj g w.heap.size (isU n t U) w' m') := by
 obtain ⟨o_t, c_t, oL_t, cL_t, rfl, hk_t, hs_t, hi_t, hj_t, hr_t⟩ := h_t.open_
 have hbg_t := hk_t.big; have hcp_t := hk_t.cap; have hbs_t := hs_t.big; have hcs_t := hs_t.cap
 have hrw_t : RwR _ ⟨t.labels, t.rv⟩ _ := ⟨_, _, rfl, hs_t, hr_t⟩
 refine zY (vs := [_, _, _]) func39 rfl rfl rfl fun a0 hfr0 => ?_
 have hst0 := zX hA (zBC hr (by simp [Res.blocks, ZB]))
 have hM : MLe m m := MLe.refl m
 obtain ⟨⟨⟨zA, za⟩, zB, zb⟩, ⟨zC, zc⟩, zD, zd⟩ := z
 obtain ⟨hqa, hqb, hqc, hqd⟩ := rs_o hU
 have hR := hok.ref hap
 have hc1 := zEc t
 have howT : SubW 200000000 (zAg n t) := oneT_w hw
 have hlnU : (U.s.ts.map Prod.snd).length = U.s.ts.length := List.length_map _
 have hlen9 := hok.len
 refine zE fun _ hK1 => ?_
 refine rp0 hst0 hfr0 (.cons rfl (ZA rfl rfl) <| .nil) fun a1 w1 m1 hst1 hle1 hk1 => ?_
 have hfr1 := hk1.fr (.o 0 <| .o 1 <| .nil)
 obtain ⟨g2, e2, hc5⟩ := hk1.ex 5 rfl
 replace hfr1 := hfr1.cons e2
 replace h_t := h_t.mono hle1
 replace hU := hU.mono hle1
 replace hqb := hqb.mono hle1
 clear hst0 hfr0 hk1
 refine hK1 _ _ ?_
 refine zE fun _ hK3 => ?_
 refine ra0 (tch := []) hst1 hfr1 (.cons rfl (zS rfl hc5 isAgg45 sizeOf45 rfl rfl) <| .cons rfl (zG rfl) <| .cons rfl (zZ (φ := MP.anyb (decide (n ∈ (zi t ([], [])).1))) rfl (.cons rfl <| .cons rfl <| .nil) call60 (fun w m hK => by have hle_ := KC.le hK; have hA := KC.agree hK; have h_t := h_t.mono hle_; exact FnG.mono (inT_c (n := n) hA h_t (by omega)) fun _ _ _ _ h => h)) <| .cons rfl (ZK 15 rfl rfl rfl fun y15 => zG rfl) <| .cons rfl (ZK 12 rfl rfl rfl fun y12 => zk rfl rfl) <| .cons rfl (ZI 12 rfl rfl rfl fun y12 => zk rfl rfl) <| .consA 16 rfl rfl <| .cons rfl (zH rfl) <| .nil) fun a2 w2 m2 hst2 hle2 hk2 => ?_
 have hfr2 := hk2.fr (.o 0 <| .o 1 <| .o 5 <| .n 7 <| .nil)
 obtain ⟨y4, e4, hy4⟩ := hk2.ex 16 rfl
 replace h_t := h_t.mono hle2
 replace hU := hU.mono hle2
 replace hqb := hqb.mono hle2
 replace hc5 := hc5.mono hle2
 clear hst1 hfr1 hk2
 refine hK3 _ _ ?_
 refine zE fun _ hK5 => ?_
 refine zE fun _ hK6 => ?_
 refine rp0 hst2 hfr2 (.cons rfl (zG rfl) <| .nil) fun a3 w3 m3 hst3 hle3 hk3 => ?_
 have hfr3 := hk3.fr (.o 0 <| .o 1 <| .o 5 <| .n 18 <| .nil)
 replace h_t := h_t.mono hle3
 replace hU := hU.mono hle3
 replace hqb := hqb.mono hle3
 replace hc5 := hc5.mono hle3
 clear hst2 hfr2 hk3
 refine hK6 _ _ ?_
 refine zJ hfr3 rfl rfl (fun hb18 => ?_) (fun hb18 => ?_)
 ·try simp only [nqs] at hb18
  have hmr : isU n t U = (5, U) := by unfold isU; rw [if_pos (by simpa using hb18)]
  refine zE fun _ hK7 => ?_
  refine ra0 (tch := [(3, 0, (fun _ => .blk _ _))]) hst3 hfr3 (.cons rfl (zG rfl) <| .cons rfl (zg rfl) <| .cons rfl (zF (off := 5) rfl underlying39 rfl rfl sizeOf37 rfl) <| .consT rfl rfl (fun _ => rfl) rfl (zAH rfl rfl rfl sizeOf37 rfl rfl rfl) <| .nil) fun a4 w4 m4 hst4 hle4 hk4 => ?_
  have hfr4 := hk4.fr (.nil)
  replace hst4 := hst4.fin (L' := [_]) (.cons rfl <| .nil)
  try simp only [List.take_succ_cons, List.take_zero, List.drop_succ_cons, List.drop_zero, List.cons_append, List.nil_append, List.append_nil, List.length_cons, List.length_nil, Nat.zero_add, Nat.reduceAdd] at hst4
  clear hst3 hfr3 hk4
  refine hK7 _ _ ?_
  refine zU ?_
  repeat (with_reducible first | refine zL ?_ | refine zI ?_)
  replace hU := hU.mono hle4
  exact zV hst4 hfr4 rfl (.nil) (⟨(((zA, za), zB, zb), (zC, zc), zD, zd), by rw [hmr]; exact (hst4.take 1).loc, by rw [hmr]; exact hU⟩)
 ·try simp only [nqs] at hb18
  have hn9 : ¬ n ∈ (zi t ([], [])).1 := by simpa using hb18
  refine zR ?_
  refine hK5 _ _ ?_
  refine zE fun _ hK9 => ?_
  replace hst3 := hst3.more (r := .free) trivial List.nodup_nil (by simp [Res.blocks])
  refine ra0 (tch := [(1, 1, (fun v => .blk v _)), (2, 1, (fun v => .blk v _))]) hst3 hfr3 (.cons rfl (ZM (.nil) underlying36 zeroValue36 (.cons sizeOf32 <| .cons sizeOf33 <| .cons sizeOf32 <| .cons sizeOf34 <| .nil) rfl) <| .consT rfl rfl (fun _ => rfl) rfl (zj zeroValue36 rfl) <| .consT rfl rfl (fun _ => rfl) rfl (ze 8 rfl rfl rfl fun y8 => ZD rfl rfl rfl rfl rfl sizeOf36 rfl rfl rfl) <| .nil) fun a4 w4 m4 hst4 hle4 hk4 => ?_
  have hfr4 := hk4.fr (.o 0 <| .o 1 <| .o 5 <| .nil)
  obtain ⟨gO, e10, _⟩ := hk4.ex 8 rfl
  replace hfr4 := hfr4.cons e10
  replace hst4 := hst4.fin (L' := [_, _]) (.cons e10 <| .cons e10 <| .nil)
  try simp only [List.take_succ_cons, List.take_zero, List.drop_succ_cons, List.drop_zero, List.cons_append, List.nil_append, List.append_nil, List.length_cons, List.length_nil, Nat.zero_add, Nat.reduceAdd] at hst4
  clear hst3 hfr3 hk4
  refine hK9 _ _ ?_
  refine zE fun _ hK11 => ?_
  replace h_t := h_t.mono hle4
  replace hc5 := hc5.mono hle4
  refine ra0 (tch := [(4, 1, (fun _ => .blkx _ _ _))]) hst4 hfr4 (.cons rfl (zh (j := 1) rfl rfl isAgg36 sizeOf36 rfl) <| .cons rfl (zG rfl) <| .cons rfl (zS rfl hc5 isAgg45 sizeOf45 rfl rfl) <| .cons rfl (zZ (φ := MP.rsub (zAg n t)) rfl (.cons rfl <| .cons rfl <| .cons rfl <| .nil) call61 (fun w m hK => by have hle_ := KC.le hK; have hA := KC.agree hK; have h_t := h_t.mono hle_; exact FnG.mono (zFw (s := zAB) (n := n) (x := t) hA rs_none h_t (by simp [zAB])) fun _ _ _ _ h => h)) <| .consT rfl rfl (fun _ => rfl) rfl (ZL 26 rfl rfl rfl fun y26 => zm rfl rfl rfl sizeOf36 rfl rfl rfl) <| .nil) fun a5 w5 m5 hst5 hle5 hk5 => ?_
  have hfr5 := hk5.fr (.o 0 <| .o 1 <| .o 5 <| .o 8 <| .nil)
  replace hst5 := hst5.fin (L' := [_, _]) (.cons rfl <| .nil)
  try simp only [List.take_succ_cons, List.take_zero, List.drop_succ_cons, List.drop_zero, List.cons_append, List.nil_append, List.append_nil, List.length_cons, List.length_nil, Nat.zero_add, Nat.reduceAdd] at hst5
  obtain ⟨zO, hO, hst5⟩ := hst5.unx (k := 1) rfl (fun _ => rfl)
  clear hst4 hfr4 hk5
  refine hK11 _ _ ?_
  refine zE fun _ hK13 => ?_
  replace h_t := h_t.mono hle5
  replace hc5 := hc5.mono hle5
  refine rp0 hst5 hfr5 (.cons rfl (zS rfl hc5 isAgg45 sizeOf45 rfl rfl) <| .cons rfl (zp rfl (.cons rfl <| .nil) call13 (fun w m hK => by have hle_ := KC.le hK; have hA := KC.agree hK; have h_t := h_t.mono hle_; exact zGG (t := t) hA h_t (by omega))) <| .cons rfl (zH rfl) <| .nil) fun a6 w6 m6 hst6 hle6 hk6 => ?_
  have hfr6 := hk6.fr (.o 0 <| .o 1 <| .o 5 <| .o 8 <| .n 9 <| .nil)
  clear hst5 hfr5 hk6
  refine hK13 _ _ ?_
  refine zE fun _ hK14 => ?_
  refine zE fun _ hK15 => ?_
  refine rp0 hst6 hfr6 (.cons rfl (zH rfl) <| .nil) fun a7 w7 m7 hst7 hle7 hk7 => ?_
  have hfr7 := hk7.fr (.o 0 <| .o 1 <| .o 5 <| .o 8 <| .o 9 <| .n 10 <| .nil)
  clear hst6 hfr6 hk7
  refine hK15 _ _ ?_
  refine zT ?_
  refine z6 (T := [(0, _), (1, _), (5, _), (8, _)]) (fun (y : Nat × Bool) => ([(9, .bool y.2), (10, .int .i64 (y.1 : Int))] : List (Nat × Value))) (fun _ => _) (fun (y : Nat × Bool) m => (fun (y : Nat) (lg : Bool) => (y ≤ (U.s.ts.map Prod.snd).length) ∧ (lg = (zBI t || (U.s.ts.take y).any fun p => zEB n t p.2))) y.1 y.2) (fun y => (U.s.ts.map Prod.snd).length - y.1) ((0, (zBI t))) ⟨hst7, MLe.refl _, hfr7.sub (.c <| .c <| .c <| .c <| .c <| .c <| .nil), ⟨Nat.zero_le _, by simp⟩⟩ fun y a8 w8 m8 hh8 => ?_
  have hst8 := hh8.st; have hle8 := hh8.le; have hfr8 := hh8.fr; have hrel := hh8.rel; clear hh8
  clear hst7 hfr7
  obtain ⟨y, lg⟩ := y
  dsimp only at hrel hfr8 hst8
  obtain ⟨hyn, hJg⟩ := hrel
  have hlh8 := hle8
  refine zE fun _ hK17 => ?_
  refine zE fun _ hK18 => ?_
  refine rp0 hst8 hfr8 (.cons rfl (zG rfl) <| .cons rfl (zG rfl) <| .cons rfl (zg rfl) <| .cons rfl (zF (off := 0) rfl underlying39 rfl rfl sizeOf36 rfl) <| .cons rfl (zF (off := 1) rfl underlying36 rfl rfl sizeOf33 rfl) <| .cons rfl (zW (k := 1) (j := 0) rfl rfl isAgg33 rfl) <| .cons rfl (zt rfl underlying33) <| .cons rfl (ZG rfl rfl) <| .cons rfl (zG rfl) <| .cons rfl (zG rfl) <| .cons rfl (zBJ rfl) <| .cons rfl (z8 rfl rfl rfl) <| .nil) fun a9 w9 m9 hst9 hle9 hk9 => ?_
  have hfr9 := hk9.fr (.o 9 <| .o 10 <| .o 0 <| .o 1 <| .o 5 <| .o 8 <| .n 40 <| .nil)
  clear hst8 hfr8 hk9
  refine hK18 _ _ ?_
  refine zJ hfr9 rfl rfl (fun hb40 => ?_) (fun hb40 => ?_)
  ·try simp only [nqs] at hb40
   have hlf : lg = false := by simpa using hb40.2
   refine zR ?_
   refine hK17 _ _ ?_
   refine zE fun _ hK19 => ?_
   refine zT ?_
   refine zE fun _ hK20 => ?_
   have zq1 := hle8.trans hle9
   have zq2 := hle7.trans zq1
   have zq3 := hle6.trans zq2
   have zq4 := hle5.trans zq3
   have zq5 := hle4.trans zq4
   replace hqb := hqb.mono zq5
   obtain ⟨p21, vs21, x21, ho21, hd21, hm_x21, ht21, hcv21, hl21, hv21⟩ := hqb.nth (k := y) (by omega)
   cases ho21
   obtain ⟨o21, c21, oL21, cL21, rfl, hkd21, hs21, hi21, hj21, hr21⟩ := hv21.open_
   have hbg21 := hkd21.big; have hcp21 := hkd21.cap; have hbs21 := hs21.big; have hcs21 := hs21.cap
   have hrw21 : RwR _ ⟨x21.labels, x21.rv⟩ _ := ⟨_, _, rfl, hs21, hr21⟩
   replace hst9 := hst9.more (r := .free) trivial List.nodup_nil (by simp [Res.blocks])
   refine ra0 (tch := [(8, 2, (fun v => .blk v _)), (9, 2, (fun v => .blk v _))]) hst9 hfr9 (.cons rfl (zG rfl) <| .cons rfl (zg rfl) <| .cons rfl (zF (off := 0) rfl underlying39 rfl rfl sizeOf36 rfl) <| .cons rfl (zF (off := 1) rfl underlying36 rfl rfl sizeOf33 rfl) <| .cons rfl (zW (k := 1) (j := 0) rfl rfl isAgg33 rfl) <| .cons rfl (zG rfl) <| .cons rfl (zN (k := y) rfl rfl underlying33 sizeOf45 rfl (by omega)) <| .cons rfl (zS rfl hcv21 isAgg45 sizeOf45 rfl rfl) <| .consT rfl rfl (fun _ => rfl) rfl (zj zeroValue45 rfl) <| .consT rfl rfl (fun _ => rfl) rfl (ze 11 rfl rfl rfl fun y11 => ZD rfl rfl rfl rfl rfl sizeOf45 rfl rfl rfl) <| .nil) fun a10 w10 m10 hst10 hle10 hk10 => ?_
   have hfr10 := hk10.fr (.o 9 <| .o 10 <| .o 0 <| .o 1 <| .o 5 <| .o 8 <| .nil)
   obtain ⟨g22, e22, _⟩ := hk10.ex 11 rfl
   replace hfr10 := hfr10.cons e22
   replace hst10 := hst10.fin (L' := [_, _, _]) (.cons e22 <| .cons e22 <| .nil)
   try simp only [List.take_succ_cons, List.take_zero, List.drop_succ_cons, List.drop_zero, List.cons_append, List.nil_append, List.append_nil, List.length_cons, List.length_nil, Nat.zero_add, Nat.reduceAdd] at hst10
   clear hst9 hfr9 hk10
   obtain ⟨p9, hp9, e9⟩ := map_at hd21
   have hm9 := List.mem_of_getElem? hp9
   have hcx := (hok.ts p9 hm9).2.1
   have hwx := (hok.ts p9 hm9).1
   rw [← e9] at hcx hwx
   have hrx : zz x21 = true := by rw [e9]; exact (hrt.ts _ _ (Z7 hap.1 hm9)).2
   have huc := zBq n x21
   have hmu : (zAI n x21 : Int) * ((ZH t : Int) - 1) ≤ 1000000 * 100000000 := Int.mul_le_mul (by omega) (by omega) (by omega) (by omega)
   have hmu0 : 0 ≤ (zAI n x21 : Int) * ((ZH t : Int) - 1) := Int.mul_nonneg (by omega) (by omega)
   have hco := cnt_one n t x21
   have hco2 : ZH x21 * ZH t ≤ 1000000 * 100000000 := Nat.mul_le_mul hcx hc
   refine hK20 _ _ ?_
   have zq6 := zq3.trans hle10
   replace h_t := h_t.mono zq6
   replace hc5 := hc5.mono zq6
   replace hO := hO.mono zq6
   replace hv21 := hv21.mono hle10
   refine Zf (fun _ => mixed) hst10 hfr10 (by kernel_rfl) (by kernel_rfl) (.cons rfl (zh (j := 2) rfl rfl isAgg45 sizeOf45 rfl) <| .cons rfl (zp rfl (.cons rfl <| .nil) call36 (fun w m hK => by have hle_ := KC.le hK; have hA := KC.agree hK; have hv21 := hv21.mono hle_; exact zFU x21 hA hv21 (by omega))) <| .cons rfl (zh (j := 2) rfl rfl isAgg45 sizeOf45 rfl) <| .cons rfl (zG rfl) <| .cons rfl (zp rfl (.cons rfl <| .cons rfl <| .nil) call62 (fun w m hK => by have hle_ := KC.le hK; have hA := KC.agree hK; have hv21 := hv21.mono hle_; exact ruses_c x21 (n := n) hA hv21 hrx (by omega))) <| .cons rfl (zS rfl hc5 isAgg45 sizeOf45 rfl rfl) <| .cons rfl (zp rfl (.cons rfl <| .nil) call36 (fun w m hK => by have hle_ := KC.le hK; have hA := KC.agree hK; have h_t := h_t.mono hle_; exact zFU t hA h_t (by omega))) <| .cons rfl (zGQ rfl rfl ⟨by omega, by omega⟩) <| .cons rfl (ob_mul rfl rfl ⟨by omega, by omega⟩) <| .cons rfl (zy rfl rfl ⟨by omega, by omega⟩) <| .cons rfl (zAU rfl rfl) <| .cons rfl (zG rfl) <| .cons rfl (zh (j := 1) rfl rfl isAgg36 sizeOf36 rfl) <| .cons rfl (zh (j := 2) rfl rfl isAgg45 sizeOf45 rfl) <| .cons rfl (zZ (φ := MP.ty (zM (zAg n t) x21)) rfl (.cons rfl <| .cons rfl <| .nil) call19 (fun w m hK => by have hle_ := KC.le hK; have hA := KC.agree hK; have hO := hO.mono hle_; have hv21 := hv21.mono hle_; exact FnG.mono (zCn x21 hA hO hv21 (howT.up (by omega)) (by omega)) fun _ _ _ _ h => h)) <| .cons rfl (ZI 65 rfl rfl rfl fun y65 => zp rfl (.cons rfl <| .nil) call13 (fun w m hK => by have hle_ := KC.le hK; have hA := KC.agree hK; have hr0_ := hK.2; exact zGG (t := zM (zAg n t) x21) hA hr0_ (by omega))) <| .cons rfl (zAq rfl rfl rfl) <| .cons rfl (zH rfl) <| .nil) fun a11 w11 m11 hst11 hle11 hk11 => ?_
   have hfr11 := hk11.fr (.o 10 <| .o 0 <| .o 1 <| .o 5 <| .o 8 <| .n 9 <| .nil)
   clear hst10 hfr10 hk11
   refine hK19 _ _ ?_
   refine rp0 hst11 hfr11 (.cons rfl (zG rfl) <| .cons rfl (zy rfl rfl ⟨by omega, by omega⟩) <| .cons rfl (zH rfl) <| .nil) fun a12 w12 m12 hst12 hle12 hk12 => ?_
   have hfr12 := hk12.fr (.o 0 <| .o 1 <| .o 5 <| .o 8 <| .o 9 <| .n 10 <| .nil)
   clear hst11 hfr11 hk12
   have hst12 := hst12.take 2
   have zq7 := hle11.trans hle12
   have zq8 := hle10.trans zq7
   have zq9 := hle9.trans zq8
   have hlh12 := hlh8.trans zq9
   exact ⟨(y + 1, (zEB n t x21)), m12, by show (U.s.ts.map Prod.snd).length - (y + 1) < (U.s.ts.map Prod.snd).length - y; omega, ⟨hst12, hlh12, hfr12.sub (.c <| .c <| .c <| .c <| .c <| .c <| .nil), ⟨by show y + 1 ≤ (U.s.ts.map Prod.snd).length; omega, by show zEB n t x21 = _; rw [any_take hp9, ← Bool.or_assoc, ← hJg, hlf, Bool.false_or, e9]⟩⟩⟩
  ·try simp only [nqs] at hb40
   have hfin : lg = (zBI t || U.s.ts.any fun p => zEB n t p.2) := by rcases hb40 with h9 | h9; (rw [hJg, List.take_of_length_le (by omega)]); (have h8 : lg = true := (by simpa using h9); rw [h8]; rw [h8] at hJg; have h6 := hJg.symm; rw [Bool.or_eq_true] at h6; rcases h6 with h7 | h7; (rw [h7]; rfl); rw [any_of_take h7, Bool.or_true])
   refine z7 ?_
   refine hK14 _ _ ?_
   refine zE fun _ hK23 => ?_
   refine zE fun _ hK24 => ?_
   refine rp0 hst9 hfr9 (.cons rfl (zG rfl) <| .nil) fun a10 w10 m10 hst10 hle10 hk10 => ?_
   have hfr10 := hk10.fr (.o 9 <| .o 10 <| .o 0 <| .o 8 <| .n 68 <| .nil)
   clear hst9 hfr9 hk10
   refine hK24 _ _ ?_
   refine zJ hfr10 rfl rfl (fun hb68 => ?_) (fun hb68 => ?_)
   ·try simp only [nqs] at hb68
    have hmr : isU n t U = (6, U) := by unfold isU; rw [if_neg hn9, if_pos (by rw [← hfin]; simpa using hb68)]
    refine zE fun _ hK25 => ?_
    refine ra0 (tch := [(3, 0, (fun _ => .blk _ _))]) hst10 hfr10 (.cons rfl (zG rfl) <| .cons rfl (zg rfl) <| .cons rfl (zF (off := 5) rfl underlying39 rfl rfl sizeOf37 rfl) <| .consT rfl rfl (fun _ => rfl) rfl (zAH rfl rfl rfl sizeOf37 rfl rfl rfl) <| .nil) fun a11 w11 m11 hst11 hle11 hk11 => ?_
    have hfr11 := hk11.fr (.o 9 <| .o 10 <| .nil)
    replace hst11 := hst11.fin (L' := [_, _]) (.cons rfl <| .nil)
    try simp only [List.take_succ_cons, List.take_zero, List.drop_succ_cons, List.drop_zero, List.cons_append, List.nil_append, List.append_nil, List.length_cons, List.length_nil, Nat.zero_add, Nat.reduceAdd] at hst11
    clear hst10 hfr10 hk11
    refine hK25 _ _ ?_
    refine zU ?_
    repeat (with_reducible first | refine zL ?_ | refine zI ?_)
    have zq10 := hle10.trans hle11
    have zq11 := hle9.trans zq10
    have zq12 := hle8.trans zq11
    have zq13 := hle7.trans zq12
    have zq14 := hle6.trans zq13
    have zq15 := hle5.trans zq14
    have zq16 := hle4.trans zq15
    replace hU := hU.mono zq16
    exact zV hst11 hfr11 rfl (.nil) (⟨(((zA, za), zB, zb), (zC, zc), zD, zd), by rw [hmr]; exact (hst11.take 1).loc, by rw [hmr]; exact hU⟩)
   ·try simp only [nqs] at hb68
    have hmr : isU n t U = (0, ⟨zAx U.s (zAg n t), U.nx⟩) := by unfold isU; rw [if_neg hn9, if_neg (by rw [← hfin]; simpa using hb68)]
    refine zR ?_
    refine hK23 _ _ ?_
    have zq17 := hle9.trans hle10
    have zq18 := hle8.trans zq17
    have zq19 := hle7.trans zq18
    have zq20 := hle6.trans zq19
    have zq21 := hle5.trans zq20
    have zq22 := hle4.trans zq21
    replace hU := hU.mono zq22
    replace hO := hO.mono zq20
    refine zn (tch := [(9, 0, (fun _ => .blkx _ _ _))]) (fun _ => mixed) hst10 hfr10 (by kernel_rfl) (by kernel_rfl) (by kernel_rfl) (.cons rfl (zG rfl) <| .cons rfl (zG rfl) <| .cons rfl (zg rfl) <| .cons rfl (zF (off := 0) rfl underlying39 rfl rfl sizeOf36 rfl) <| .cons rfl (Za (j := 0) rfl rfl isAgg36 sizeOf36 rfl rfl) <| .cons rfl (zh (j := 1) rfl rfl isAgg36 sizeOf36 rfl) <| .cons rfl (zZ (φ := MP.rsub (zAx U.s (zAg n t))) rfl (.cons rfl <| .cons rfl <| .nil) call63 (fun w m hK => by have hle_ := KC.le hK; have hA := KC.agree hK; have hU := hU.mono hle_; have hO := hO.mono hle_; exact FnG.mono (rthen_c hA hU hO hR.ts hR.rs (howT.up (by omega)) hR.ln (by simp [zAg])) fun _ _ _ _ h => h)) <| .cons rfl (zg rfl) <| .cons rfl (zF (off := 0) rfl underlying39 rfl rfl sizeOf36 rfl) <| .consT rfl rfl (fun _ => rfl) rfl (ZL 78 rfl rfl rfl fun y78 => zAH rfl rfl rfl sizeOf36 rfl rfl rfl) <| .nil) fun a11 w11 m11 hst11 hle11 hk11 => ?_
    have hfr11 := hk11.fr (.o 9 <| .o 10 <| .nil)
    replace hst11 := hst11.fin (L' := [_, _]) (.cons rfl <| .nil)
    try simp only [List.take_succ_cons, List.take_zero, List.drop_succ_cons, List.drop_zero, List.cons_append, List.nil_append, List.append_nil, List.length_cons, List.length_nil, Nat.zero_add, Nat.reduceAdd] at hst11
    obtain ⟨z9, hS, hst11⟩ := hst11.unx (k := 0) rfl (fun _ => rfl)
    clear hst10 hfr10 hk11
    repeat (with_reducible first | refine Zx ?_ | refine Zk ?_ | refine Zc ?_)
    exact zEJ hst11 hfr11 rfl (.nil) (⟨z9, by rw [hmr]; exact (hst11.take 1).loc, by rw [hmr]; exact hS⟩)
end Go.Proofs.YtlidonjpgigocaaGreat
namespace Go.Proofs.YtlidonjpgigocaaGreat
open Go.Proofs.Tryz
set_option linter.all false
set_option maxRecDepth 4000
open Go.RowKit
set_option maxHeartbeats 6400000 in
theorem rrows_g {w : World} {m : Mem} {g : Nat} {z : ZZ} {U : USt} {a : Rw} {vs_a : List Value} {b : Rw} {vs_b : List Value} (hA : Agree w m) (hr : (RB g U.s z U.nx 0).holds w m) (hU : RSubR m U.s (rsV U.s z)) (h_a : RwR m a vs_a) (h_b : RwR m b vs_b) (hok : OkS U) (hap : zAZ U.s) (ha : a.labels.length ≤ 50000000) (hb : b.labels.length ≤ 50000000) : FnG Tryz.prog 40 #[.pointer (some ⟨g, 0, none⟩), .agg vs_a.toArray, .agg vs_b.toArray] [g] w m (fun w' m' v => zGj g w.heap.size (zAc a b U) w' m') := by
 obtain ⟨o_a, c_a, rfl, hs_a, hr_a⟩ := h_a.open_
 have hbs_a := hs_a.big; have hcs_a := hs_a.cap
 obtain ⟨o_b, c_b, rfl, hs_b, hr_b⟩ := h_b.open_
 have hbs_b := hs_b.big; have hcs_b := hs_b.cap
 refine zY (vs := [_, _, _]) func40 rfl rfl rfl fun a0 hfr0 => ?_
 have hst0 := zX hA (zBC hr (by simp [Res.blocks, ZB]))
 have hM : MLe m m := MLe.refl m
 obtain ⟨⟨⟨zA, za⟩, zB, zb⟩, ⟨zC, zc⟩, zD, zd⟩ := z
 obtain ⟨hqa, hqb, hqc, hqd⟩ := rs_o hU
 have hR := hok.ref hap
 have hww := hok.w
 have hnx := hok.nx
 have hla := zAr hww a
 have hlb := zAr hww b
 obtain ⟨pa, hpa⟩ : ∃ x, x = zQ U.s a := ⟨_, rfl⟩
 obtain ⟨pb, hpb⟩ : ∃ x, x = zQ U.s b := ⟨_, rfl⟩
 rw [← hpa] at hla
 rw [← hpb] at hlb
 have hml := zAz pa.labels pb.labels
 have hml2 := zAz pb.labels pa.labels
 have hrv : zAc a b U = zCi pa pb (ZR pa.labels pb.labels) (ZR pb.labels pa.labels) U := by unfold zAc; rw [← hpa, ← hpb]
 obtain ⟨p, hp9⟩ : ∃ x, x = (ZR pa.labels pb.labels) := ⟨_, rfl⟩
 obtain ⟨k, hk9⟩ : ∃ x, x = (ZR pb.labels pa.labels) := ⟨_, rfl⟩
 rw [← hp9] at hml hrv
 rw [← hk9] at hml2 hrv
 have hp0 : ∀ {l : List Str}, (((l.length : Int) = 0) ↔ l = []) := fun {l} => ⟨fun h => List.eq_nil_of_length_eq_zero (by omega), fun h => by rw [h]; rfl⟩
 have hpn : ∀ {l : List Str}, ((0 < (l.length : Int)) ↔ l ≠ []) := fun {l} => ⟨fun h e => by rw [e] at h; simp at h, fun h => by have := List.length_pos_iff.2 h; omega⟩
 refine zE fun _ hK1 => ?_
 replace hst0 := hst0.more (r := .free) trivial List.nodup_nil (by simp [Res.blocks])
 replace hst0 := hst0.more (r := .free) trivial List.nodup_nil (by simp [Res.blocks])
 refine ra0 (tch := [(0, 1, (fun v => .blk v _)), (1, 2, (fun v => .blk v _))]) hst0 hfr0 (.consT rfl rfl (fun _ => rfl) rfl (zAR rfl rfl) <| .consT rfl rfl (fun _ => rfl) rfl (zAR rfl rfl) <| .nil) fun a1 w1 m1 hst1 hle1 hk1 => ?_
 have hfr1 := hk1.fr (.o 0 <| .nil)
 obtain ⟨gA, e2, _⟩ := hk1.ex 4 rfl
 replace hfr1 := hfr1.cons e2
 obtain ⟨gB, e3, _⟩ := hk1.ex 5 rfl
 replace hfr1 := hfr1.cons e3
 replace hst1 := hst1.fin (L' := [_, _, _]) (.cons e2 <| .cons e3 <| .nil)
 replace h_a := h_a.mono hle1
 replace h_b := h_b.mono hle1
 replace hU := hU.mono hle1
 clear hst0 hfr0 hk1
 refine hK1 _ _ ?_
 refine zE fun _ hK4 => ?_
 refine zn (tch := [(6, 1, (fun _ => .blkx _ _ _))]) (fun _ => mixed) hst1 hfr1 (by kernel_rfl) (by kernel_rfl) (by kernel_rfl) (.cons rfl (zG rfl) <| .cons rfl (zg rfl) <| .cons rfl (zF (off := 0) rfl underlying39 rfl rfl sizeOf36 rfl) <| .cons rfl (Za (j := 0) rfl rfl isAgg36 sizeOf36 rfl rfl) <| .cons rfl (zh (j := 1) rfl rfl isAgg43 sizeOf43 rfl) <| .cons rfl (zZ (φ := MP.rw pa) rfl (.cons rfl <| .cons rfl <| .nil) call22 (fun w m hK => by have hle_ := KC.le hK; have hA := KC.agree hK; have h_a := h_a.mono hle_; have hU := hU.mono hle_; exact FnG.mono ((by rw [hpa]; exact zCR (r := a) hA hU h_a (hww.up (by omega)) (by omega))) fun _ _ _ _ h => h)) <| .consT rfl rfl (fun _ => rfl) rfl (ZL 16 rfl rfl rfl fun y16 => zm rfl rfl rfl sizeOf43 rfl rfl rfl) <| .nil) fun a2 w2 m2 hst2 hle2 hk2 => ?_
 have hfr2 := hk2.fr (.o 0 <| .o 4 <| .o 5 <| .nil)
 replace hst2 := hst2.fin (L' := [_, _, _]) (.cons rfl <| .nil)
 try simp only [List.take_succ_cons, List.take_zero, List.drop_succ_cons, List.drop_zero, List.cons_append, List.nil_append, List.append_nil, List.length_cons, List.length_nil, Nat.zero_add, Nat.reduceAdd] at hst2
 obtain ⟨⟨oA, cA⟩, hRa, hst2⟩ := hst2.unx (k := 1) rfl (fun _ => rfl)
 replace h_b := h_b.mono hle2
 replace hU := hU.mono hle2
 clear hst1 hfr1 hk2
 have hSa := (zAF hRa).1
 have hIa : Zg pa.var := (zAF hRa).2
 refine hK4 _ _ ?_
 refine zE fun _ hK6 => ?_
 refine zn (tch := [(6, 2, (fun _ => .blkx _ _ _))]) (fun _ => mixed) hst2 hfr2 (by kernel_rfl) (by kernel_rfl) (by kernel_rfl) (.cons rfl (zG rfl) <| .cons rfl (zg rfl) <| .cons rfl (zF (off := 0) rfl underlying39 rfl rfl sizeOf36 rfl) <| .cons rfl (Za (j := 0) rfl rfl isAgg36 sizeOf36 rfl rfl) <| .cons rfl (zh (j := 2) rfl rfl isAgg43 sizeOf43 rfl) <| .cons rfl (zZ (φ := MP.rw pb) rfl (.cons rfl <| .cons rfl <| .nil) call22 (fun w m hK => by have hle_ := KC.le hK; have hA := KC.agree hK; have h_b := h_b.mono hle_; have hU := hU.mono hle_; exact FnG.mono ((by rw [hpb]; exact zCR (r := b) hA hU h_b (hww.up (by omega)) (by omega))) fun _ _ _ _ h => h)) <| .consT rfl rfl (fun _ => rfl) rfl (ZL 22 rfl rfl rfl fun y22 => zm rfl rfl rfl sizeOf43 rfl rfl rfl) <| .nil) fun a3 w3 m3 hst3 hle3 hk3 => ?_
 have hfr3 := hk3.fr (.o 0 <| .o 4 <| .o 5 <| .nil)
 replace hst3 := hst3.fin (L' := [_, _, _]) (.cons rfl <| .nil)
 try simp only [List.take_succ_cons, List.take_zero, List.drop_succ_cons, List.drop_zero, List.cons_append, List.nil_append, List.append_nil, List.length_cons, List.length_nil, Nat.zero_add, Nat.reduceAdd] at hst3
 obtain ⟨⟨oB, cB⟩, hRb, hst3⟩ := hst3.unx (k := 2) rfl (fun _ => rfl)
 replace hU := hU.mono hle3
 replace hSa := hSa.mono hle3
 clear hst2 hfr2 hk3
 have hSb := (zAF hRb).1
 have hIb : Zg pb.var := (zAF hRb).2
 refine hK6 _ _ ?_
 refine zE fun _ hK8 => ?_
 refine ra0 (tch := []) hst3 hfr3 (.cons rfl (zF (off := 0) rfl underlying43 rfl rfl sizeOf41 rfl) <| .cons rfl (zW (j := 1) rfl rfl isAgg41 rfl) <| .cons rfl (zF (off := 0) rfl underlying43 rfl rfl sizeOf41 rfl) <| .cons rfl (zW (j := 2) rfl rfl isAgg41 rfl) <| .cons rfl (zZ (φ := MP.strs p) rfl (.cons rfl <| .cons rfl <| .nil) call64 (fun w m hK => by have hle_ := KC.le hK; have hA := KC.agree hK; have hSa := hSa.mono hle_; have hSb := hSb.mono hle_; exact FnG.mono ((by rw [hp9]; exact rmore_c hA hSa hSb (by omega) (by omega))) fun _ _ _ _ h => h)) <| .consA 27 rfl rfl <| .nil) fun a4 w4 m4 hst4 hle4 hk4 => ?_
 have hfr4 := hk4.fr (.o 0 <| .o 4 <| .o 5 <| .nil)
 obtain ⟨⟨oP, cP⟩, e9, hP⟩ := hk4.ex 27 rfl
 replace hfr4 := hfr4.cons (hk4.same 6 rfl e9)
 replace hU := hU.mono hle4
 replace hSa := hSa.mono hle4
 replace hSb := hSb.mono hle4
 clear hst3 hfr3 hk4
 refine hK8 _ _ ?_
 refine zE fun _ hK10 => ?_
 refine ra0 (tch := []) hst4 hfr4 (.cons rfl (zF (off := 0) rfl underlying43 rfl rfl sizeOf41 rfl) <| .cons rfl (zW (j := 2) rfl rfl isAgg41 rfl) <| .cons rfl (zF (off := 0) rfl underlying43 rfl rfl sizeOf41 rfl) <| .cons rfl (zW (j := 1) rfl rfl isAgg41 rfl) <| .cons rfl (zZ (φ := MP.strs k) rfl (.cons rfl <| .cons rfl <| .nil) call64 (fun w m hK => by have hle_ := KC.le hK; have hA := KC.agree hK; have hSa := hSa.mono hle_; have hSb := hSb.mono hle_; exact FnG.mono ((by rw [hk9]; exact rmore_c hA hSb hSa (by omega) (by omega))) fun _ _ _ _ h => h)) <| .consA 32 rfl rfl <| .nil) fun a5 w5 m5 hst5 hle5 hk5 => ?_
 have hfr5 := hk5.fr (.o 0 <| .o 4 <| .o 5 <| .o 6 <| .nil)
 obtain ⟨⟨oK, cK⟩, e11, hK⟩ := hk5.ex 32 rfl
 replace hfr5 := hfr5.cons (hk5.same 7 rfl e11)
 replace hU := hU.mono hle5
 replace hP := hP.mono hle5
 clear hst4 hfr4 hk5
 refine hK10 _ _ ?_
 refine zE fun _ hK12 => ?_
 refine rp0 hst5 hfr5 (.cons rfl (zF (off := 1) rfl underlying43 rfl rfl sizeOf3 rfl) <| .cons rfl (zW (j := 1) rfl rfl isAgg3 rfl) <| .cons rfl (zH rfl) <| .nil) fun a6 w6 m6 hst6 hle6 hk6 => ?_
 have hfr6 := hk6.fr (.o 0 <| .o 5 <| .o 6 <| .o 7 <| .n 8 <| .nil)
 replace hU := hU.mono hle6
 replace hP := hP.mono hle6
 replace hK := hK.mono hle6
 clear hst5 hfr5 hk6
 refine hK12 _ _ ?_
 refine zE fun _ hK13 => ?_
 refine rp0 hst6 hfr6 (.cons rfl (zF (off := 1) rfl underlying43 rfl rfl sizeOf3 rfl) <| .cons rfl (zW (j := 2) rfl rfl isAgg3 rfl) <| .cons rfl (zH rfl) <| .nil) fun a7 w7 m7 hst7 hle7 hk7 => ?_
 have hfr7 := hk7.fr (.o 0 <| .o 6 <| .o 7 <| .o 8 <| .n 9 <| .nil)
 replace hU := hU.mono hle7
 replace hP := hP.mono hle7
 replace hK := hK.mono hle7
 clear hst6 hfr6 hk7
 refine hK13 _ _ ?_
 refine zE fun _ hK14 => ?_
 refine zE fun _ hK15 => ?_
 refine rp0 hst7 hfr7 (.cons rfl (zG rfl) <| .cons rfl (zt rfl underlying41) <| .cons rfl (zq rfl rfl) <| .cons rfl (zG rfl) <| .cons rfl (zG rfl) <| .cons rfl (zt rfl underlying41) <| .cons rfl (zq rfl rfl) <| .cons rfl (z8 rfl rfl rfl) <| .nil) fun a8 w8 m8 hst8 hle8 hk8 => ?_
 have hfr8 := hk8.fr (.o 0 <| .o 6 <| .o 7 <| .o 8 <| .o 9 <| .n 44 <| .nil)
 replace hU := hU.mono hle8
 replace hP := hP.mono hle8
 replace hK := hK.mono hle8
 clear hst7 hfr7 hk8
 refine hK15 _ _ ?_
 refine zJ hfr8 rfl rfl (fun hb44 => ?_) (fun hb44 => ?_)
 ·try simp only [nqs] at hb44
  have hc1 : p = [] ∧ k = [] := ⟨hp0.1 hb44.1, hp0.1 hb44.2⟩
  rw [zCi, if_pos hc1] at hrv
  refine zE fun _ hK16 => ?_
  refine zE fun _ hK17 => ?_
  refine rp0 hst8 hfr8 (.cons rfl (zG rfl) <| .cons rfl (zG rfl) <| .cons rfl (zq rfl rfl) <| .nil) fun a9 w9 m9 hst9 hle9 hk9 => ?_
  have hfr9 := hk9.fr (.o 0 <| .o 8 <| .o 9 <| .n 47 <| .nil)
  clear hst8 hfr8 hk9
  refine hK17 _ _ ?_
  refine zJ hfr9 rfl rfl (fun hb47 => ?_) (fun hb47 => ?_)
  ·try simp only [nqs] at hb47
   rw [if_pos hb47] at hrv
   refine zU ?_
   repeat (with_reducible first | refine zL ?_ | refine zI ?_)
   replace hU := hU.mono hle9
   exact zV hst9 hfr9 rfl (.nil) (⟨(((zA, za), zB, zb), (zC, zc), zD, zd), by rw [hrv]; exact (hst9.take 1).loc, by rw [hrv]; exact hU⟩)
  ·try simp only [nqs] at hb47
   rw [if_neg hb47] at hrv
   refine zR ?_
   refine hK16 _ _ ?_
   refine zE fun _ hK19 => ?_
   refine zE fun _ hK20 => ?_
   refine rp0 hst9 hfr9 (.cons rfl (zG rfl) <| .cons rfl (zq rfl rfl) <| .nil) fun a10 w10 m10 hst10 hle10 hk10 => ?_
   have hfr10 := hk10.fr (.o 0 <| .o 8 <| .o 9 <| .n 49 <| .nil)
   clear hst9 hfr9 hk10
   refine hK20 _ _ ?_
   refine zJ hfr10 rfl rfl (fun hb49 => ?_) (fun hb49 => ?_)
   ·try simp only [nqs] at hb49
    rw [if_pos hb49] at hrv
    refine ZE 3 (by kernel_rfl) ?_
    refine ZN (tch := []) hst10 hfr10 (by kernel_rfl) (by kernel_rfl) (by kernel_rfl) (.cons rfl (zG rfl) <| .cons rfl (zG rfl) <| .cons rfl (ZM (.nil) underlying43 zeroValue43 (.cons sizeOf41 <| .cons sizeOf3 <| .nil) rfl) <| .nil) fun a11 w11 m11 hst11 hle11 hk11 => ?_
    have hfr11 := hk11.fr (.o 0 <| .o 8 <| .o 9 <| .n 50 <| .n 51 <| .n 52 <| .nil)
    clear hst10 hfr10 hk11
    have zq1 := hle10.trans hle11
    have zq2 := hle9.trans zq1
    replace hU := hU.mono zq2
    refine Zi [] [_, _] [_] hst11 hfr11 rfl (.cons rfl <| .cons rfl <| .cons rfl <| .nil) call65 (rp_R (zCx (n := pb.var) (r := ⟨[], 0⟩) (U := U) (e := 0) hst11.agree (hst11.loc.at_ (k := 0) rfl) hU ⟨_, _, rfl, Sl.empty, (show Zg (0 : Int) from ⟨by omega, by omega⟩)⟩ hR (by simp))) ?_
    intro vr12 w12 m12 rs12 hst12 hle12 hp12
    obtain ⟨z9, rfl, hU9⟩ := hp12
    simp only [List.nil_append, List.cons_append] at hst12
    have hfr12 := (hfr11.sub (T' := [(0, _), (8, _), (9, _), (50, _), (51, _), (52, _)]) (.cons rfl <| .cons rfl <| .cons rfl <| .cons rfl <| .cons rfl <| .cons rfl <| .nil)).put (d := 53) (v := vr12) (by kernel_rfl) rfl
    clear hst11 hfr11
    refine hK19 _ _ ?_
    refine zU ?_
    repeat (with_reducible first | refine zL ?_ | refine zI ?_)
    exact zV hst12 hfr12 rfl (.nil) (⟨z9, by rw [hrv]; exact (hst12.take 1).loc, by rw [hrv]; exact hU9⟩)
   ·try simp only [nqs] at hb49
    rw [if_neg hb49] at hrv
    refine ZE 4 (by kernel_rfl) ?_
    refine ZN (tch := []) hst10 hfr10 (by kernel_rfl) (by kernel_rfl) (by kernel_rfl) (.cons rfl (zG rfl) <| .cons rfl (zG rfl) <| .cons rfl (zG rfl) <| .cons rfl (ZM (.cons rfl <| .nil) underlying43 zeroValue43 (.cons sizeOf41 <| .cons sizeOf3 <| .nil) rfl) <| .nil) fun a11 w11 m11 hst11 hle11 hk11 => ?_
    have hfr11 := hk11.fr (.o 0 <| .o 8 <| .o 9 <| .n 54 <| .n 55 <| .n 57 <| .nil)
    clear hst10 hfr10 hk11
    have zq3 := hle10.trans hle11
    have zq4 := hle9.trans zq3
    replace hU := hU.mono zq4
    refine Zi [] [_, _] [_] hst11 hfr11 rfl (.cons rfl <| .cons rfl <| .cons rfl <| .nil) call65 (rp_R (zCx (n := pa.var) (r := ⟨[], pb.var⟩) (U := U) (e := 0) hst11.agree (hst11.loc.at_ (k := 0) rfl) hU ⟨_, _, rfl, Sl.empty, hIb⟩ hR (by simp))) ?_
    intro vr12 w12 m12 rs12 hst12 hle12 hp12
    obtain ⟨z9, rfl, hU9⟩ := hp12
    simp only [List.nil_append, List.cons_append] at hst12
    have hfr12 := (hfr11.sub (T' := [(0, _), (8, _), (9, _), (54, _), (55, _), (57, _)]) (.cons rfl <| .cons rfl <| .cons rfl <| .cons rfl <| .cons rfl <| .cons rfl <| .nil)).put (d := 58) (v := vr12) (by kernel_rfl) rfl
    clear hst11 hfr11
    refine hK19 _ _ ?_
    refine zU ?_
    repeat (with_reducible first | refine zL ?_ | refine zI ?_)
    exact zV hst12 hfr12 rfl (.nil) (⟨z9, by rw [hrv]; exact (hst12.take 1).loc, by rw [hrv]; exact hU9⟩)
 ·try simp only [nqs] at hb44
  have hc1 : ¬ (p = [] ∧ k = []) := fun h => by rcases hb44 with h9 | h9; (exact h9 (hp0.2 h.1)); exact h9 (hp0.2 h.2)
  rw [zCi, if_neg hc1] at hrv
  refine zR ?_
  refine hK14 _ _ ?_
  refine zE fun _ hK23 => ?_
  refine zE fun _ hK24 => ?_
  refine rp0 hst8 hfr8 (.cons rfl (zG rfl) <| .cons rfl (zt rfl underlying41) <| .cons rfl (zAU rfl rfl) <| .cons rfl (zG rfl) <| .cons rfl (zG rfl) <| .cons rfl (zq rfl rfl) <| .cons rfl (z8 rfl rfl rfl) <| .cons rfl (zG rfl) <| .cons rfl (zG rfl) <| .cons rfl (zt rfl underlying41) <| .cons rfl (zAU rfl rfl) <| .cons rfl (zG rfl) <| .cons rfl (zG rfl) <| .cons rfl (zq rfl rfl) <| .cons rfl (z8 rfl rfl rfl) <| .cons rfl (zAq rfl rfl rfl) <| .cons rfl (zG rfl) <| .cons rfl (zG rfl) <| .cons rfl (zG rfl) <| .cons rfl (zq rfl rfl) <| .cons rfl (zAq rfl rfl rfl) <| .nil) fun a9 w9 m9 hst9 hle9 hk9 => ?_
  have hfr9 := hk9.fr (.o 0 <| .o 6 <| .o 7 <| .o 8 <| .o 9 <| .n 79 <| .nil)
  clear hst8 hfr8 hk9
  refine hK24 _ _ ?_
  refine zJ hfr9 rfl rfl (fun hb79 => ?_) (fun hb79 => ?_)
  ·try simp only [nqs] at hb79
   have hc2 : (p ≠ [] ∧ pb.var = 0) ∨ (k ≠ [] ∧ pa.var = 0) ∨ pa.var = pb.var := by rcases hb79 with (h | h) | h; (exact .inl ⟨hpn.1 h.1, h.2⟩); (exact .inr (.inl ⟨hpn.1 h.1, h.2⟩)); exact .inr (.inr h)
   rw [if_pos hc2] at hrv
   refine zE fun _ hK25 => ?_
   refine ra0 (tch := [(3, 0, (fun _ => .blk _ _))]) hst9 hfr9 (.cons rfl (zG rfl) <| .cons rfl (zg rfl) <| .cons rfl (zF (off := 5) rfl underlying39 rfl rfl sizeOf37 rfl) <| .consT rfl rfl (fun _ => rfl) rfl (zAH rfl rfl rfl sizeOf37 rfl rfl rfl) <| .nil) fun a10 w10 m10 hst10 hle10 hk10 => ?_
   have hfr10 := hk10.fr (.nil)
   replace hst10 := hst10.fin (L' := [_, _, _]) (.cons rfl <| .nil)
   try simp only [List.take_succ_cons, List.take_zero, List.drop_succ_cons, List.drop_zero, List.cons_append, List.nil_append, List.append_nil, List.length_cons, List.length_nil, Nat.zero_add, Nat.reduceAdd] at hst10
   clear hst9 hfr9 hk10
   refine hK25 _ _ ?_
   refine zU ?_
   repeat (with_reducible first | refine zL ?_ | refine zI ?_)
   have zq5 := hle9.trans hle10
   replace hU := hU.mono zq5
   exact zV hst10 hfr10 rfl (.nil) (⟨(((zA, za), zB, zb), (zC, zc), zD, zd), by rw [hrv]; exact (hst10.take 1).loc, by rw [hrv]; exact hU⟩)
  ·try simp only [nqs] at hb79
   rw [if_neg (show ¬ ((p ≠ [] ∧ pb.var = 0) ∨ (k ≠ [] ∧ pa.var = 0) ∨ pa.var = pb.var) from fun h => by rcases h with ⟨h1, h2⟩ | ⟨h1, h2⟩ | h3; (rcases hb79.1.1 with h9 | h9; (have := hpn.2 h1; omega); exact h9 h2); (rcases hb79.1.2 with h9 | h9; (have := hpn.2 h1; omega); exact h9 h2); exact hb79.2 h3)] at hrv
   refine zR ?_
   refine hK23 _ _ ?_
   refine zE fun _ hK27 => ?_
   refine zE fun _ hK28 => ?_
   refine rp0 hst9 hfr9 (.cons rfl (zG rfl) <| .cons rfl (zt rfl underlying41) <| .cons rfl (zq rfl rfl) <| .nil) fun a10 w10 m10 hst10 hle10 hk10 => ?_
   have hfr10 := hk10.fr (.o 0 <| .o 6 <| .o 7 <| .o 8 <| .o 9 <| .n 85 <| .nil)
   clear hst9 hfr9 hk10
   refine hK28 _ _ ?_
   refine zJ hfr10 rfl rfl (fun hb85 => ?_) (fun hb85 => ?_)
   ·try simp only [nqs] at hb85
    rw [if_pos (hp0.1 hb85)] at hrv
    refine zE fun _ hK29 => ?_
    refine ZE 5 (by kernel_rfl) ?_
    refine ZN (tch := []) hst10 hfr10 (by kernel_rfl) (by kernel_rfl) (by kernel_rfl) (.cons rfl (zG rfl) <| .cons rfl (zG rfl) <| .cons rfl (zG rfl) <| .cons rfl (zG rfl) <| .cons rfl (ZM (.cons rfl <| .cons rfl <| .nil) underlying43 zeroValue43 (.cons sizeOf41 <| .cons sizeOf3 <| .nil) rfl) <| .nil) fun a11 w11 m11 hst11 hle11 hk11 => ?_
    have hfr11 := hk11.fr (.o 0 <| .o 6 <| .o 7 <| .o 8 <| .o 9 <| .n 86 <| .n 87 <| .n 90 <| .nil)
    clear hst10 hfr10 hk11
    have zq6 := hle10.trans hle11
    have zq7 := hle9.trans zq6
    replace hU := hU.mono zq7
    replace hP := hP.mono zq7
    refine Zi [] [_, _] [_] hst11 hfr11 rfl (.cons rfl <| .cons rfl <| .cons rfl <| .nil) call65 (rp_R (zCx (n := pb.var) (r := ⟨p, pa.var⟩) (U := U) (e := 0) hst11.agree (hst11.loc.at_ (k := 0) rfl) hU ⟨_, _, rfl, hP, hIa⟩ hR (by show p.length ≤ _; omega))) ?_
    intro vr12 w12 m12 rs12 hst12 hle12 hp12
    obtain ⟨z9, rfl, hU9⟩ := hp12
    simp only [List.nil_append, List.cons_append] at hst12
    have hfr12 := (hfr11.sub (T' := [(0, _), (6, _), (7, _), (8, _), (9, _), (86, _), (87, _), (90, _)]) (.cons rfl <| .cons rfl <| .cons rfl <| .cons rfl <| .cons rfl <| .cons rfl <| .cons rfl <| .cons rfl <| .nil)).put (d := 91) (v := vr12) (by kernel_rfl) rfl
    clear hst11 hfr11
    refine hK29 _ _ ?_
    refine zU ?_
    repeat (with_reducible first | refine zL ?_ | refine zI ?_)
    exact zV hst12 hfr12 rfl (.nil) (⟨z9, by rw [hrv]; exact (hst12.take 1).loc, by rw [hrv]; exact hU9⟩)
   ·try simp only [nqs] at hb85
    rw [if_neg (fun h => hb85 (hp0.2 h))] at hrv
    refine zR ?_
    refine hK27 _ _ ?_
    refine zE fun _ hK31 => ?_
    refine zE fun _ hK32 => ?_
    refine rp0 hst10 hfr10 (.cons rfl (zG rfl) <| .cons rfl (zt rfl underlying41) <| .cons rfl (zq rfl rfl) <| .nil) fun a11 w11 m11 hst11 hle11 hk11 => ?_
    have hfr11 := hk11.fr (.o 0 <| .o 6 <| .o 7 <| .o 8 <| .o 9 <| .n 94 <| .nil)
    clear hst10 hfr10 hk11
    refine hK32 _ _ ?_
    refine zJ hfr11 rfl rfl (fun hb94 => ?_) (fun hb94 => ?_)
    ·try simp only [nqs] at hb94
     rw [if_pos (hp0.1 hb94)] at hrv
     refine zE fun _ hK33 => ?_
     refine ZE 5 (by kernel_rfl) ?_
     refine ZN (tch := []) hst11 hfr11 (by kernel_rfl) (by kernel_rfl) (by kernel_rfl) (.cons rfl (zG rfl) <| .cons rfl (zG rfl) <| .cons rfl (zG rfl) <| .cons rfl (zG rfl) <| .cons rfl (ZM (.cons rfl <| .cons rfl <| .nil) underlying43 zeroValue43 (.cons sizeOf41 <| .cons sizeOf3 <| .nil) rfl) <| .nil) fun a12 w12 m12 hst12 hle12 hk12 => ?_
     have hfr12 := hk12.fr (.o 0 <| .o 6 <| .o 7 <| .o 8 <| .o 9 <| .n 95 <| .n 96 <| .n 99 <| .nil)
     clear hst11 hfr11 hk12
     have zq8 := hle11.trans hle12
     have zq9 := hle10.trans zq8
     have zq10 := hle9.trans zq9
     replace hU := hU.mono zq10
     replace hK := hK.mono zq10
     refine Zi [] [_, _] [_] hst12 hfr12 rfl (.cons rfl <| .cons rfl <| .cons rfl <| .nil) call65 (rp_R (zCx (n := pa.var) (r := ⟨k, pb.var⟩) (U := U) (e := 0) hst12.agree (hst12.loc.at_ (k := 0) rfl) hU ⟨_, _, rfl, hK, hIb⟩ hR (by show k.length ≤ _; omega))) ?_
     intro vr13 w13 m13 rs13 hst13 hle13 hp13
     obtain ⟨z9, rfl, hU9⟩ := hp13
     simp only [List.nil_append, List.cons_append] at hst13
     have hfr13 := (hfr12.sub (T' := [(0, _), (6, _), (7, _), (8, _), (9, _), (95, _), (96, _), (99, _)]) (.cons rfl <| .cons rfl <| .cons rfl <| .cons rfl <| .cons rfl <| .cons rfl <| .cons rfl <| .cons rfl <| .nil)).put (d := 100) (v := vr13) (by kernel_rfl) rfl
     clear hst12 hfr12
     refine hK33 _ _ ?_
     refine zU ?_
     repeat (with_reducible first | refine zL ?_ | refine zI ?_)
     exact zV hst13 hfr13 rfl (.nil) (⟨z9, by rw [hrv]; exact (hst13.take 1).loc, by rw [hrv]; exact hU9⟩)
    ·try simp only [nqs] at hb94
     rw [if_neg (fun h => hb94 (hp0.2 h))] at hrv
     refine zR ?_
     refine hK31 _ _ ?_
     refine zE fun _ hK35 => ?_
     refine rp0 hst11 hfr11 (.cons rfl (zG rfl) <| .cons rfl (zg rfl) <| .cons rfl (zF (off := 4) rfl underlying39 rfl rfl sizeOf3 rfl) <| .cons rfl (zW (j := 0) rfl rfl isAgg3 rfl) <| .cons rfl (zH rfl) <| .nil) fun a12 w12 m12 hst12 hle12 hk12 => ?_
     have hfr12 := hk12.fr (.o 0 <| .o 6 <| .o 7 <| .o 8 <| .o 9 <| .n 10 <| .nil)
     clear hst11 hfr11 hk12
     refine hK35 _ _ ?_
     refine zE fun _ hK36 => ?_
     refine ra0 (tch := [(7, 0, (fun _ => .blk _ _))]) hst12 hfr12 (.cons rfl (zG rfl) <| .cons rfl (zg rfl) <| .cons rfl (zF (off := 4) rfl underlying39 rfl rfl sizeOf3 rfl) <| .cons rfl (zW (j := 0) rfl rfl isAgg3 rfl) <| .cons rfl (zy rfl rfl ⟨by omega, by omega⟩) <| .cons rfl (zg rfl) <| .cons rfl (zF (off := 4) rfl underlying39 rfl rfl sizeOf3 rfl) <| .consT rfl rfl (fun _ => rfl) rfl (zAH rfl rfl rfl sizeOf3 rfl rfl rfl) <| .nil) fun a13 w13 m13 hst13 hle13 hk13 => ?_
     have hfr13 := hk13.fr (.o 0 <| .o 6 <| .o 7 <| .o 8 <| .o 9 <| .o 10 <| .nil)
     replace hst13 := hst13.fin (L' := [_, _, _]) (.cons rfl <| .nil)
     try simp only [List.take_succ_cons, List.take_zero, List.drop_succ_cons, List.drop_zero, List.cons_append, List.nil_append, List.append_nil, List.length_cons, List.length_nil, Nat.zero_add, Nat.reduceAdd] at hst13
     clear hst12 hfr12 hk13
     have hst13 : St [g] w m [RB g U.s (((zA, za), zB, zb), (zC, zc), zD, zd) (U.nx + 1) 0, _, _] w13 m13 := hst13
     have hIn : Zg U.nx := ⟨by omega, by omega⟩
     refine hK36 _ _ ?_
     refine zE fun _ hK37 => ?_
     refine ZE 5 (by kernel_rfl) ?_
     refine ZN (tch := []) hst13 hfr13 (by kernel_rfl) (by kernel_rfl) (by kernel_rfl) (.cons rfl (zG rfl) <| .cons rfl (zG rfl) <| .cons rfl (zG rfl) <| .cons rfl (zG rfl) <| .cons rfl (ZM (.cons rfl <| .cons rfl <| .nil) underlying43 zeroValue43 (.cons sizeOf41 <| .cons sizeOf3 <| .nil) rfl) <| .nil) fun a14 w14 m14 hst14 hle14 hk14 => ?_
     have hfr14 := hk14.fr (.o 0 <| .o 6 <| .o 7 <| .o 8 <| .o 9 <| .o 10 <| .n 112 <| .n 113 <| .n 116 <| .nil)
     clear hst13 hfr13 hk14
     have zq11 := hle13.trans hle14
     have zq12 := hle12.trans zq11
     have zq13 := hle11.trans zq12
     have zq14 := hle10.trans zq13
     have zq15 := hle9.trans zq14
     replace hU := hU.mono zq15
     replace hK := hK.mono zq15
     refine Zi [] [_, _] [_] hst14 hfr14 rfl (.cons rfl <| .cons rfl <| .cons rfl <| .nil) call65 (rp_R (zCx (n := pa.var) (r := ⟨k, U.nx⟩) (U := ⟨U.s, U.nx + 1⟩) (e := 0) hst14.agree (hst14.loc.at_ (k := 0) rfl) hU ⟨_, _, rfl, hK, hIn⟩ hR (by show k.length ≤ _; omega))) ?_
     intro vr15 w15 m15 rs15 hst15 hle15 hp15
     obtain ⟨z9, rfl, hU9⟩ := hp15
     simp only [List.nil_append, List.cons_append] at hst15
     have hfr15 := (hfr14.sub (T' := [(0, _), (6, _), (7, _), (8, _), (9, _), (10, _), (112, _), (113, _), (116, _)]) (.cons rfl <| .cons rfl <| .cons rfl <| .cons rfl <| .cons rfl <| .cons rfl <| .cons rfl <| .cons rfl <| .cons rfl <| .nil)).put (d := 117) (v := vr15) (by kernel_rfl) rfl
     clear hst14 hfr14
     have hR2 := hok.ref1 hap (n := pa.var) (rest := U.nx) (ls := k) (by omega)
     refine hK37 _ _ ?_
     refine ZE 5 (by kernel_rfl) ?_
     refine ZN (tch := []) hst15 hfr15 (by kernel_rfl) (by kernel_rfl) (by kernel_rfl) (.cons rfl (zG rfl) <| .cons rfl (zG rfl) <| .cons rfl (zG rfl) <| .cons rfl (zG rfl) <| .cons rfl (ZM (.cons rfl <| .cons rfl <| .nil) underlying43 zeroValue43 (.cons sizeOf41 <| .cons sizeOf3 <| .nil) rfl) <| .nil) fun a16 w16 m16 hst16 hle16 hk16 => ?_
     have hfr16 := hk16.fr (.o 0 <| .o 6 <| .o 7 <| .o 8 <| .o 9 <| .o 10 <| .o 112 <| .o 113 <| .o 116 <| .n 118 <| .n 119 <| .n 122 <| .nil)
     clear hst15 hfr15 hk16
     have zq16 := hle15.trans hle16
     have zq17 := zq15.trans zq16
     replace hP := hP.mono zq17
     replace hU9 := hU9.mono hle16
     refine Zi [] [_, _] [_] hst16 hfr16 rfl (.cons rfl <| .cons rfl <| .cons rfl <| .nil) call65 (rp_R (zCx (n := pb.var) (r := ⟨p, U.nx⟩) (U := ⟨Z8 pa.var k U.nx U.s, U.nx + 1⟩) (e := 0) hst16.agree (hst16.loc.at_ (k := 0) rfl) hU9 ⟨_, _, rfl, hP, hIn⟩ hR2 (by show p.length ≤ _; omega))) ?_
     intro vr17 w17 m17 rs17 hst17 hle17 hp17
     obtain ⟨z10, rfl, hU10⟩ := hp17
     simp only [List.nil_append, List.cons_append] at hst17
     have hfr17 := (hfr16.sub (T' := [(0, _), (6, _), (7, _), (8, _), (9, _), (10, _), (112, _), (113, _), (116, _), (118, _), (119, _), (122, _)]) (.cons rfl <| .cons rfl <| .cons rfl <| .cons rfl <| .cons rfl <| .cons rfl <| .cons rfl <| .cons rfl <| .cons rfl <| .cons rfl <| .cons rfl <| .cons rfl <| .nil)).put (d := 123) (v := vr17) (by kernel_rfl) rfl
     clear hst16 hfr16
     repeat (with_reducible first | refine Zx ?_ | refine Zk ?_ | refine Zc ?_)
     exact zEJ hst17 hfr17 rfl (.nil) (⟨z10, by rw [hrv]; exact (hst17.take 1).loc, by rw [hrv]; exact hU10⟩)
end Go.Proofs.YtlidonjpgigocaaGreat
namespace Go.Proofs.YtlidonjpgigocaaGreat
open Go.Proofs.Tryz
set_option linter.all false
set_option maxRecDepth 4000
open Go.RowKit
abbrev RTG (k : Nat) : Prop := ∀ (a b : Ty) (c r : Int × USt), (c.1 ≠ 0 → r = c) → (c.1 = 0 → ZX k a b c.2 = some r) → Gd7 c.2 → zz a = true → zz b = true → ∀ (w : World) (m : Mem) (g : Nat) (z : ZZ) (va vb : List Value), Agree w m → (RB g c.2.s z c.2.nx c.1).holds w m → RSubR m c.2.s (rsV c.2.s z) → TyR m a va → TyR m b vb →
  FnG Tryz.prog 15 #[.pointer (some ⟨g, 0, none⟩), .agg va.toArray, .agg vb.toArray] [g] w m (fun w' m' v => zGj g w.heap.size r w' m')
set_option maxHeartbeats 6400000 in
theorem rtypes_s {w : World} {m : Mem} {g : Nat} {z : ZZ} {e : Int} {U : USt} {a : Ty} {vs_a : List Value} {b : Ty} {vs_b : List Value} {k : Nat} {R : Int × USt} (hA : Agree w m) (hr : (RB g U.s z U.nx e).holds w m) (hU : RSubR m U.s (rsV U.s z)) (h_a : TyR m a vs_a) (h_b : TyR m b vs_b) (ih : e = 0 → RTG k) (hrun : e = 0 → ZX (k + 1) a b U = some R) (hstp : e ≠ 0 → R = (e, U)) (hgd : Gd7 U) (ra : zz a = true) (rb : zz b = true) : FnG Tryz.prog 15 #[.pointer (some ⟨g, 0, none⟩), .agg vs_a.toArray, .agg vs_b.toArray] [g] w m (fun w' m' v => zGj g w.heap.size (R) w' m') := by
 obtain ⟨o_a, c_a, oL_a, cL_a, rfl, hk_a, hs_a, hi_a, hj_a, hr_a⟩ := h_a.open_
 have hbg_a := hk_a.big; have hcp_a := hk_a.cap; have hbs_a := hs_a.big; have hcs_a := hs_a.cap
 have hrw_a : RwR _ ⟨a.labels, a.rv⟩ _ := ⟨_, _, rfl, hs_a, hr_a⟩
 obtain ⟨o_b, c_b, oL_b, cL_b, rfl, hk_b, hs_b, hi_b, hj_b, hr_b⟩ := h_b.open_
 have hbg_b := hk_b.big; have hcp_b := hk_b.cap; have hbs_b := hs_b.big; have hcs_b := hs_b.cap
 have hrw_b : RwR _ ⟨b.labels, b.rv⟩ _ := ⟨_, _, rfl, hs_b, hr_b⟩
 refine zY (vs := [_, _, _]) func15 rfl rfl rfl fun a0 hfr0 => ?_
 have hst0 := zX hA (zBC hr (by simp [Res.blocks, ZB]))
 have hM : MLe m m := MLe.refl m
 refine zE fun _ hK1 => ?_
 replace hst0 := hst0.more (r := .free) trivial List.nodup_nil (by simp [Res.blocks])
 replace hst0 := hst0.more (r := .free) trivial List.nodup_nil (by simp [Res.blocks])
 refine ra0 (tch := [(0, 1, (fun v => .blk v _)), (1, 2, (fun v => .blk v _))]) hst0 hfr0 (.consT rfl rfl (fun _ => rfl) rfl (zAR rfl rfl) <| .consT rfl rfl (fun _ => rfl) rfl (zAR rfl rfl) <| .nil) fun a1 w1 m1 hst1 hle1 hk1 => ?_
 have hfr1 := hk1.fr (.o 0 <| .nil)
 obtain ⟨gA, e2, _⟩ := hk1.ex 4 rfl
 replace hfr1 := hfr1.cons e2
 obtain ⟨gB, e3, _⟩ := hk1.ex 5 rfl
 replace hfr1 := hfr1.cons e3
 replace hst1 := hst1.fin (L' := [_, _, _]) (.cons e2 <| .cons e3 <| .nil)
 replace h_a := h_a.mono hle1
 replace hk_a := hk_a.mono hle1
 replace hs_a := hs_a.mono hle1
 replace hrw_a := hrw_a.mono hle1
 replace h_b := h_b.mono hle1
 replace hk_b := hk_b.mono hle1
 replace hs_b := hs_b.mono hle1
 replace hrw_b := hrw_b.mono hle1
 replace hU := hU.mono hle1
 replace hM := hM.trans hle1
 clear hst0 hfr0 hk1
 refine hK1 _ _ ?_
 refine zE fun _ hK4 => ?_
 refine zE fun _ hK5 => ?_
 refine rp0 hst1 hfr1 (.cons rfl (zG rfl) <| .cons rfl (zg rfl) <| .cons rfl (zF (off := 5) rfl underlying39 rfl rfl sizeOf37 rfl) <| .cons rfl (zW (j := 0) rfl rfl isAgg37 rfl) <| .cons rfl (Z6 rfl rfl) <| .nil) fun a2 w2 m2 hst2 hle2 hk2 => ?_
 have hfr2 := hk2.fr (.o 0 <| .o 4 <| .o 5 <| .n 11 <| .nil)
 replace h_a := h_a.mono hle2
 replace hk_a := hk_a.mono hle2
 replace hs_a := hs_a.mono hle2
 replace hrw_a := hrw_a.mono hle2
 replace h_b := h_b.mono hle2
 replace hk_b := hk_b.mono hle2
 replace hs_b := hs_b.mono hle2
 replace hrw_b := hrw_b.mono hle2
 replace hU := hU.mono hle2
 replace hM := hM.trans hle2
 clear hst1 hfr1 hk2
 refine hK5 _ _ ?_
 refine zJ hfr2 rfl rfl (fun hb11 => ?_) (fun hb11 => ?_)
 ·try simp only [nqs] at hb11
  have hRe := hstp hb11
  subst hRe
  refine zU ?_
  repeat (with_reducible first | refine zL ?_ | refine zI ?_)
  exact zV hst2 hfr2 rfl (.nil) (⟨z, (hst2.take 1).loc, hU⟩)
 ·try simp only [nqs] at hb11
  have he0 : e = 0 := by omega
  subst he0
  have hih := ih rfl
  obtain ⟨⟨hok, hoa, hob⟩, hB⟩ := zCO (hrun rfl)
  have hww := hok.w
  have hwa := hoa.w
  have hwb := hob.w
  have hca := hoa.c
  have hcb := hob.c
  have hda := zBa hww a
  have hdb := zBa hww b
  have pra := zAL hgd.ok ra
  have prb := zAL hgd.ok rb
  obtain ⟨pa, hpa⟩ : ∃ x, x = zM U.s a := ⟨_, rfl⟩
  obtain ⟨pb, hpb⟩ : ∃ x, x = zM U.s b := ⟨_, rfl⟩
  rw [← hpa, ← hpb] at hB
  rw [← hpa] at hda hca pra
  rw [← hpb] at hdb hcb prb
  have hsm := zFC pa pb
  refine zR ?_
  refine hK4 _ _ ?_
  refine zE fun _ hK7 => ?_
  refine zn (tch := [(6, 1, (fun _ => .blkx _ _ _))]) (fun _ => mixed) hst2 hfr2 (by kernel_rfl) (by kernel_rfl) (by kernel_rfl) (.cons rfl (zG rfl) <| .cons rfl (zg rfl) <| .cons rfl (zF (off := 0) rfl underlying39 rfl rfl sizeOf36 rfl) <| .cons rfl (Za (j := 0) rfl rfl isAgg36 sizeOf36 rfl rfl) <| .cons rfl (zh (j := 1) rfl rfl isAgg45 sizeOf45 rfl) <| .cons rfl (zZ (φ := MP.ty pa) rfl (.cons rfl <| .cons rfl <| .nil) call19 (fun w m hK => by have hle_ := KC.le hK; have hA := KC.agree hK; have h_a := h_a.mono hle_; have hU := hU.mono hle_; exact FnG.mono ((by rw [hpa]; exact zCn a hA hU h_a (hww.up (by omega)) (by omega))) fun _ _ _ _ h => h)) <| .consT rfl rfl (fun _ => rfl) rfl (ZL 17 rfl rfl rfl fun y17 => zm rfl rfl rfl sizeOf45 rfl rfl rfl) <| .nil) fun a3 w3 m3 hst3 hle3 hk3 => ?_
  have hfr3 := hk3.fr (.o 0 <| .o 4 <| .o 5 <| .nil)
  replace hst3 := hst3.fin (L' := [_, _, _]) (.cons rfl <| .nil)
  try simp only [List.take_succ_cons, List.take_zero, List.drop_succ_cons, List.drop_zero, List.cons_append, List.nil_append, List.append_nil, List.length_cons, List.length_nil, Nat.zero_add, Nat.reduceAdd] at hst3
  obtain ⟨⟨⟨oa1, ca1⟩, oa2, ca2⟩, hTa, hst3⟩ := hst3.unx (k := 1) rfl (fun _ => rfl)
  clear hst2 hfr2 hk3
  obtain ⟨hkpa, hspa, hva9, hra9⟩ := zED hTa
  refine hK7 _ _ ?_
  refine zE fun _ hK9 => ?_
  replace h_b := h_b.mono hle3
  replace hU := hU.mono hle3
  refine zn (tch := [(6, 2, (fun _ => .blkx _ _ _))]) (fun _ => mixed) hst3 hfr3 (by kernel_rfl) (by kernel_rfl) (by kernel_rfl) (.cons rfl (zG rfl) <| .cons rfl (zg rfl) <| .cons rfl (zF (off := 0) rfl underlying39 rfl rfl sizeOf36 rfl) <| .cons rfl (Za (j := 0) rfl rfl isAgg36 sizeOf36 rfl rfl) <| .cons rfl (zh (j := 2) rfl rfl isAgg45 sizeOf45 rfl) <| .cons rfl (zZ (φ := MP.ty pb) rfl (.cons rfl <| .cons rfl <| .nil) call19 (fun w m hK => by have hle_ := KC.le hK; have hA := KC.agree hK; have h_b := h_b.mono hle_; have hU := hU.mono hle_; exact FnG.mono ((by rw [hpb]; exact zCn b hA hU h_b (hww.up (by omega)) (by omega))) fun _ _ _ _ h => h)) <| .consT rfl rfl (fun _ => rfl) rfl (ZL 23 rfl rfl rfl fun y23 => zm rfl rfl rfl sizeOf45 rfl rfl rfl) <| .nil) fun a4 w4 m4 hst4 hle4 hk4 => ?_
  have hfr4 := hk4.fr (.o 0 <| .o 4 <| .o 5 <| .nil)
  replace hst4 := hst4.fin (L' := [_, _, _]) (.cons rfl <| .nil)
  try simp only [List.take_succ_cons, List.take_zero, List.drop_succ_cons, List.drop_zero, List.cons_append, List.nil_append, List.append_nil, List.length_cons, List.length_nil, Nat.zero_add, Nat.reduceAdd] at hst4
  obtain ⟨⟨⟨ob1, cb1⟩, ob2, cb2⟩, hTb, hst4⟩ := hst4.unx (k := 2) rfl (fun _ => rfl)
  clear hst3 hfr3 hk4
  obtain ⟨hkpb, hspb, hvb9, hrb9⟩ := zED hTb
  refine hK9 _ _ ?_
  refine zE fun _ hK11 => ?_
  refine zE fun _ hK12 => ?_
  replace hTa := hTa.mono hle4
  refine rp0 hst4 hfr4 (.cons rfl (zh (j := 1) rfl rfl isAgg45 sizeOf45 rfl) <| .cons rfl (zh (j := 2) rfl rfl isAgg45 sizeOf45 rfl) <| .cons rfl (zp rfl (.cons rfl <| .cons rfl <| .nil) call16 (fun w m hK => by have hle_ := KC.le hK; have hA := KC.agree hK; have hTa := hTa.mono hle_; have hTb := hTb.mono hle_; exact sameR_c pa (u := pb) hA hTa hTb)) <| .nil) fun a5 w5 m5 hst5 hle5 hk5 => ?_
  have hfr5 := hk5.fr (.o 0 <| .o 4 <| .o 5 <| .n 26 <| .nil)
  clear hst4 hfr4 hk5
  refine hK12 _ _ ?_
  refine zJ hfr5 rfl rfl (fun hb26 => ?_) (fun hb26 => ?_)
  ·try simp only [nqs] at hb26
   have he9 := hsm.1 hb26
   rw [Zp, if_pos he9] at hB
   injection hB with hB
   subst hB
   refine zU ?_
   repeat (with_reducible first | refine zL ?_ | refine zI ?_)
   have zq1 := hle4.trans hle5
   replace hU := hU.mono zq1
   exact zV hst5 hfr5 rfl (.nil) (⟨z, (hst5.take 1).loc, hU⟩)
  ·try simp only [nqs] at hb26
   have he9 : ¬ pa = pb := fun h => by rw [hsm.2 h] at hb26; cases hb26
   refine zR ?_
   refine hK11 _ _ ?_
   refine zE fun _ hK14 => ?_
   refine zE fun _ hK15 => ?_
   refine rp0 hst5 hfr5 (.cons rfl (zF (off := 0) rfl underlying45 rfl rfl sizeOf3 rfl) <| .cons rfl (zW (j := 1) rfl rfl isAgg3 rfl) <| .cons rfl (zq rfl rfl) <| .nil) fun a6 w6 m6 hst6 hle6 hk6 => ?_
   have hfr6 := hk6.fr (.o 0 <| .o 4 <| .o 5 <| .n 29 <| .nil)
   clear hst5 hfr5 hk6
   refine hK15 _ _ ?_
   refine zJ hfr6 rfl rfl (fun hb29 => ?_) (fun hb29 => ?_)
   ·try simp only [nqs] at hb29
    rw [Zp, if_neg he9, if_pos hb29] at hB
    injection hB with hB
    subst hB
    refine zE fun _ hK16 => ?_
    refine ZE 4 (by kernel_rfl) ?_
    refine ZN (tch := []) hst6 hfr6 (by kernel_rfl) (by kernel_rfl) (by kernel_rfl) (.cons rfl (zG rfl) <| .cons rfl (zF (off := 2) rfl underlying45 rfl rfl sizeOf3 rfl) <| .cons rfl (zW (j := 1) rfl rfl isAgg3 rfl) <| .cons rfl (zh (j := 2) rfl rfl isAgg45 sizeOf45 rfl) <| .nil) fun a7 w7 m7 hst7 hle7 hk7 => ?_
    have hfr7 := hk7.fr (.o 0 <| .o 4 <| .o 5 <| .n 30 <| .n 32 <| .n 33 <| .nil)
    clear hst6 hfr6 hk7
    have zq2 := hle6.trans hle7
    have zq3 := hle5.trans zq2
    have zq4 := hle4.trans zq3
    replace hU := hU.mono zq4
    replace hTb := hTb.mono zq3
    refine Zi [] [_, _] [_] hst7 hfr7 rfl (.cons rfl <| .cons rfl <| .cons rfl <| .nil) call39 (rp_R (rbeType_g (n := pa.var) (t := pb) hst7.agree (hst7.loc.at_ (k := 0) rfl) hU hTb hok hgd.ap hgd.ok (by omega) (by omega))) ?_
    intro vr8 w8 m8 rs8 hst8 hle8 hp8
    obtain ⟨z3, rfl, hU3⟩ := hp8
    simp only [List.nil_append, List.cons_append] at hst8
    have hfr8 := (hfr7.sub (T' := [(0, _), (4, _), (5, _), (30, _), (32, _), (33, _)]) (.cons rfl <| .cons rfl <| .cons rfl <| .cons rfl <| .cons rfl <| .cons rfl <| .nil)).put (d := 34) (v := vr8) (by kernel_rfl) rfl
    clear hst7 hfr7
    refine hK16 _ _ ?_
    refine zU ?_
    repeat (with_reducible first | refine zL ?_ | refine zI ?_)
    exact zV hst8 hfr8 rfl (.nil) (⟨z3, (hst8.take 1).loc, hU3⟩)
   ·try simp only [nqs] at hb29
    have h7a : ¬ pa.kind = 7 := hb29
    refine zR ?_
    refine hK14 _ _ ?_
    refine zE fun _ hK18 => ?_
    refine zE fun _ hK19 => ?_
    refine rp0 hst6 hfr6 (.cons rfl (zF (off := 0) rfl underlying45 rfl rfl sizeOf3 rfl) <| .cons rfl (zW (j := 2) rfl rfl isAgg3 rfl) <| .cons rfl (zq rfl rfl) <| .nil) fun a7 w7 m7 hst7 hle7 hk7 => ?_
    have hfr7 := hk7.fr (.o 0 <| .o 4 <| .o 5 <| .n 37 <| .nil)
    clear hst6 hfr6 hk7
    refine hK19 _ _ ?_
    refine zJ hfr7 rfl rfl (fun hb37 => ?_) (fun hb37 => ?_)
    ·try simp only [nqs] at hb37
     rw [Zp, if_neg he9, if_neg h7a, if_pos hb37] at hB
     injection hB with hB
     subst hB
     refine zE fun _ hK20 => ?_
     refine ZE 4 (by kernel_rfl) ?_
     refine ZN (tch := []) hst7 hfr7 (by kernel_rfl) (by kernel_rfl) (by kernel_rfl) (.cons rfl (zG rfl) <| .cons rfl (zF (off := 2) rfl underlying45 rfl rfl sizeOf3 rfl) <| .cons rfl (zW (j := 2) rfl rfl isAgg3 rfl) <| .cons rfl (zh (j := 1) rfl rfl isAgg45 sizeOf45 rfl) <| .nil) fun a8 w8 m8 hst8 hle8 hk8 => ?_
     have hfr8 := hk8.fr (.o 0 <| .o 4 <| .o 5 <| .n 38 <| .n 40 <| .n 41 <| .nil)
     clear hst7 hfr7 hk8
     have zq5 := hle7.trans hle8
     have zq6 := hle6.trans zq5
     have zq7 := hle5.trans zq6
     have zq8 := hle4.trans zq7
     replace hU := hU.mono zq8
     replace hTa := hTa.mono zq7
     refine Zi [] [_, _] [_] hst8 hfr8 rfl (.cons rfl <| .cons rfl <| .cons rfl <| .nil) call39 (rp_R (rbeType_g (n := pb.var) (t := pa) hst8.agree (hst8.loc.at_ (k := 0) rfl) hU hTa hok hgd.ap hgd.ok (by omega) (by omega))) ?_
     intro vr9 w9 m9 rs9 hst9 hle9 hp9
     obtain ⟨z3, rfl, hU3⟩ := hp9
     simp only [List.nil_append, List.cons_append] at hst9
     have hfr9 := (hfr8.sub (T' := [(0, _), (4, _), (5, _), (38, _), (40, _), (41, _)]) (.cons rfl <| .cons rfl <| .cons rfl <| .cons rfl <| .cons rfl <| .cons rfl <| .nil)).put (d := 42) (v := vr9) (by kernel_rfl) rfl
     clear hst8 hfr8
     refine hK20 _ _ ?_
     refine zU ?_
     repeat (with_reducible first | refine zL ?_ | refine zI ?_)
     exact zV hst9 hfr9 rfl (.nil) (⟨z3, (hst9.take 1).loc, hU3⟩)
    ·try simp only [nqs] at hb37
     have h7b : ¬ pb.kind = 7 := hb37
     refine zR ?_
     refine hK18 _ _ ?_
     refine zE fun _ hK22 => ?_
     refine zE fun _ hK23 => ?_
     refine rp0 hst7 hfr7 (.cons rfl (zF (off := 0) rfl underlying45 rfl rfl sizeOf3 rfl) <| .cons rfl (zW (j := 1) rfl rfl isAgg3 rfl) <| .cons rfl (zF (off := 0) rfl underlying45 rfl rfl sizeOf3 rfl) <| .cons rfl (zW (j := 2) rfl rfl isAgg3 rfl) <| .cons rfl (Z6 rfl rfl) <| .cons rfl (zG rfl) <| .cons rfl (zF (off := 0) rfl underlying45 rfl rfl sizeOf3 rfl) <| .cons rfl (zW (j := 1) rfl rfl isAgg3 rfl) <| .cons rfl (Z6 rfl rfl) <| .cons rfl (zG rfl) <| .cons rfl (zF (off := 0) rfl underlying45 rfl rfl sizeOf3 rfl) <| .cons rfl (zW (j := 1) rfl rfl isAgg3 rfl) <| .cons rfl (Z6 rfl rfl) <| .cons rfl (z8 rfl rfl rfl) <| .cons rfl (zAq rfl rfl rfl) <| .cons rfl (zG rfl) <| .cons rfl (zF (off := 3) rfl underlying45 rfl rfl sizeOf33 rfl) <| .cons rfl (zW (j := 1) rfl rfl isAgg33 rfl) <| .cons rfl (zt rfl underlying33) <| .cons rfl (zF (off := 3) rfl underlying45 rfl rfl sizeOf33 rfl) <| .cons rfl (zW (j := 2) rfl rfl isAgg33 rfl) <| .cons rfl (zt rfl underlying33) <| .cons rfl (Z6 rfl rfl) <| .cons rfl (zAq rfl rfl rfl) <| .nil) fun a8 w8 m8 hst8 hle8 hk8 => ?_
     have hfr8 := hk8.fr (.o 0 <| .o 4 <| .o 5 <| .n 66 <| .nil)
     clear hst7 hfr7 hk8
     refine hK23 _ _ ?_
     refine zJ hfr8 rfl rfl (fun hb66 => ?_) (fun hb66 => ?_)
     ·try simp only [nqs] at hb66
      have hc66 : (pa.kind ≠ pb.kind ∨ (pa.kind ≠ 5 ∧ pa.kind ≠ 6)) ∨ pa.args.length ≠ pb.args.length := by rcases hb66 with (h | h) | h; (exact .inl (.inl h)); (exact .inl (.inr h)); exact .inr (by omega)
      have hRe := typesB_else hB he9 h7a h7b hc66
      subst hRe
      refine zE fun _ hK24 => ?_
      refine ra0 (tch := [(3, 0, (fun _ => .blk _ _))]) hst8 hfr8 (.cons rfl (zG rfl) <| .cons rfl (zg rfl) <| .cons rfl (zF (off := 5) rfl underlying39 rfl rfl sizeOf37 rfl) <| .consT rfl rfl (fun _ => rfl) rfl (zAH rfl rfl rfl sizeOf37 rfl rfl rfl) <| .nil) fun a9 w9 m9 hst9 hle9 hk9 => ?_
      have hfr9 := hk9.fr (.nil)
      replace hst9 := hst9.fin (L' := [_, _, _]) (.cons rfl <| .nil)
      try simp only [List.take_succ_cons, List.take_zero, List.drop_succ_cons, List.drop_zero, List.cons_append, List.nil_append, List.append_nil, List.length_cons, List.length_nil, Nat.zero_add, Nat.reduceAdd] at hst9
      clear hst8 hfr8 hk9
      refine hK24 _ _ ?_
      refine zU ?_
      repeat (with_reducible first | refine zL ?_ | refine zI ?_)
      have zq9 := hle8.trans hle9
      have zq10 := hle7.trans zq9
      have zq11 := hle6.trans zq10
      have zq12 := hle5.trans zq11
      have zq13 := hle4.trans zq12
      replace hU := hU.mono zq13
      exact zV hst9 hfr9 rfl (.nil) (⟨z, (hst9.take 1).loc, hU⟩)
     ·try simp only [nqs] at hb66
      have hk9 : pa.kind = pb.kind := hb66.1.1
      have h56 : pa.kind = 5 ∨ pa.kind = 6 := by rcases hb66.1.2 with h | h; (exact .inl h); exact .inr h
      obtain ⟨cs, hcs⟩ := steps_of hB hgd pra prb he9 h7a h7b hk9 h56
      have hln9 := hcs.ln
      have hbg9 : pa.args.length ≤ 9223372036854775806 := by have h9 := zAt pa; omega
      refine zR ?_
      refine hK22 _ _ ?_
      refine zE fun _ hK26 => ?_
      refine rp0 hst8 hfr8 (.cons rfl (zH rfl) <| .nil) fun a9 w9 m9 hst9 hle9 hk9 => ?_
      have hfr9 := hk9.fr (.o 0 <| .o 4 <| .o 5 <| .n 6 <| .nil)
      clear hst8 hfr8 hk9
      have hst9 := st_re hst9 (r2 := RB g (cs 0).2.s z (cs 0).2.nx (cs 0).1) (by rw [hcs.h0])
      have zq14 := hle8.trans hle9
      have zq15 := hle7.trans zq14
      have zq16 := hle6.trans zq15
      have zq17 := hle5.trans zq16
      have zq18 := hle4.trans zq17
      replace hU := hU.mono zq18
      have hU0 : RSubR m9 (cs 0).2.s (rsV (cs 0).2.s z) := by rw [hcs.h0]; exact hU
      refine hK26 _ _ ?_
      refine zT ?_
      refine z6 (T := [(0, _), (4, _), (5, _)]) (fun (y : Nat × ZZ) => ([(6, .int .i64 (y.1 : Int))] : List (Nat × Value))) (fun y => [RB g (cs y.1).2.s y.2 (cs y.1).2.nx (cs y.1).1, _, _]) (fun (y : Nat × ZZ) m => (fun (y : Nat) (z2 : ZZ) => (y ≤ pa.args.length) ∧ (RSubR m (cs y).2.s (rsV (cs y).2.s z2))) y.1 y.2) (fun y => pa.args.length - y.1) ((0, z)) ⟨hst9, MLe.refl _, hfr9.sub (.c <| .c <| .c <| .c <| .nil), ⟨Nat.zero_le _, hU0⟩⟩ fun y a10 w10 m10 hh10 => ?_
      have hst10 := hh10.st; have hle10 := hh10.le; have hfr10 := hh10.fr; have hrel := hh10.rel; clear hh10
      clear hst9 hfr9
      obtain ⟨y, z2⟩ := y
      dsimp only at hrel hfr10 hst10
      obtain ⟨hyn, hJz⟩ := hrel
      have hlh10 := hle10
      refine zE fun _ hK28 => ?_
      refine zE fun _ hK29 => ?_
      refine rp0 hst10 hfr10 (.cons rfl (zG rfl) <| .cons rfl (zF (off := 3) rfl underlying45 rfl rfl sizeOf33 rfl) <| .cons rfl (zW (j := 1) rfl rfl isAgg33 rfl) <| .cons rfl (zt rfl underlying33) <| .cons rfl (ZG rfl rfl) <| .nil) fun a11 w11 m11 hst11 hle11 hk11 => ?_
      have hfr11 := hk11.fr (.o 6 <| .o 0 <| .o 4 <| .o 5 <| .n 74 <| .nil)
      clear hst10 hfr10 hk11
      refine hK29 _ _ ?_
      refine zJ hfr11 rfl rfl (fun hb74 => ?_) (fun hb74 => ?_)
      ·try simp only [nqs] at hb74
       refine zR ?_
       refine hK28 _ _ ?_
       refine zE fun _ hK30 => ?_
       refine zT ?_
       refine zE fun _ hK31 => ?_
       obtain ⟨⟨e9, U9⟩, hr1, hr2, hg9, hnx9⟩ := hcs.st y (by omega)
       have hra8 := hcs.ra y (by omega)
       have zq19 := hle10.trans hle11
       have zq20 := zq18.trans zq19
       replace hkpa := hkpa.mono zq20
       obtain ⟨p32, vs32, x32, ho32, hd32, hm_x32, ht32, hcv32, hl32, hv32⟩ := hkpa.nth (k := y) (by omega)
       cases ho32
       obtain ⟨o32, c32, oL32, cL32, rfl, hkd32, hs32, hi32, hj32, hr32⟩ := hv32.open_
       have hbg32 := hkd32.big; have hcp32 := hkd32.cap; have hbs32 := hs32.big; have hcs32 := hs32.cap
       have hrw32 : RwR _ ⟨x32.labels, x32.rv⟩ _ := ⟨_, _, rfl, hs32, hr32⟩
       have e1 := zCd hd32
       have zq21 := zq17.trans zq19
       replace hkpb := hkpb.mono zq21
       obtain ⟨p33, vs33, x33, ho33, hd33, hm_x33, ht33, hcv33, hl33, hv33⟩ := hkpb.nth (k := y) (by omega)
       cases ho33
       obtain ⟨o33, c33, oL33, cL33, rfl, hkd33, hs33, hi33, hj33, hr33⟩ := hv33.open_
       have hbg33 := hkd33.big; have hcp33 := hkd33.cap; have hbs33 := hs33.big; have hcs33 := hs33.cap
       have hrw33 : RwR _ ⟨x33.labels, x33.rv⟩ _ := ⟨_, _, rfl, hs33, hr33⟩
       have e2 := zCd hd33
       rw [e1, e2] at hr2 hra8
       have zq22 := hle3.trans zq20
       replace h_a := h_a.mono zq22
       replace hk_a := hk_a.mono zq22
       replace hs_a := hs_a.mono zq22
       replace hrw_a := hrw_a.mono zq22
       replace hk_b := hk_b.mono zq22
       replace hs_b := hs_b.mono zq22
       replace hrw_b := hrw_b.mono zq22
       replace hM := hM.trans zq22
       replace h_b := h_b.mono zq20
       replace hspa := hspa.mono zq20
       replace hTa := hTa.mono zq21
       replace hTb := hTb.mono zq21
       replace hspb := hspb.mono zq21
       replace hU := hU.mono zq19
       replace hU0 := hU0.mono zq19
       replace hJz := hJz.mono hle11
       refine zn (tch := [(11, 0, (fun _ => RK g (e9, U9)))]) (fun _ => mixed) hst11 hfr11 (by kernel_rfl) (by kernel_rfl) (by kernel_rfl) (.cons rfl (zG rfl) <| .cons rfl (zF (off := 3) rfl underlying45 rfl rfl sizeOf33 rfl) <| .cons rfl (zW (j := 1) rfl rfl isAgg33 rfl) <| .cons rfl (zG rfl) <| .cons rfl (zN (k := y) rfl rfl underlying33 sizeOf45 rfl (by omega)) <| .cons rfl (zS rfl hcv32 isAgg45 sizeOf45 rfl rfl) <| .cons rfl (zF (off := 3) rfl underlying45 rfl rfl sizeOf33 rfl) <| .cons rfl (zW (j := 2) rfl rfl isAgg33 rfl) <| .cons rfl (zG rfl) <| .cons rfl (zN (k := y) rfl rfl underlying33 sizeOf45 rfl (by omega)) <| .cons rfl (zS rfl hcv33 isAgg45 sizeOf45 rfl rfl) <| .consT rfl rfl (fun _ => rfl) rfl (ZV rfl (.cons rfl <| .cons rfl <| .cons rfl <| .nil) call15 (κ := .ex (MP.anyV)) (fun σ w m hK hr hkn => by have hle_ := KC.le hK; have hA := KC.agree hK; have hM := hM.trans hle_; have h_a := h_a.mono hle_; have hk_a := hk_a.mono hle_; have hs_a := hs_a.mono hle_; have hrw_a := hrw_a.mono hle_; have h_b := h_b.mono hle_; have hk_b := hk_b.mono hle_; have hs_b := hs_b.mono hle_; have hrw_b := hrw_b.mono hle_; have hU := hU.mono hle_; have hTa := hTa.mono hle_; have hkpa := hkpa.mono hle_; have hspa := hspa.mono hle_; have hTb := hTb.mono hle_; have hkpb := hkpb.mono hle_; have hspb := hspb.mono hle_; have hU0 := hU0.mono hle_; have hJz := hJz.mono hle_; have hcv32 := hcv32.mono hle_; have hv32 := hv32.mono hle_; have hkd32 := hkd32.mono hle_; have hs32 := hs32.mono hle_; have hrw32 := hrw32.mono hle_; have hcv33 := hcv33.mono hle_; have hv33 := hv33.mono hle_; have hkd33 := hkd33.mono hle_; have hs33 := hs33.mono hle_; have hrw33 := hrw33.mono hle_; exact rp_T (hih _ _ (cs y) (e9, U9) hr1 hr2 hg9 hra8.1 hra8.2 _ _ g z2 _ _ hA hr hJz hv32 hv33))) <| .nil) fun a12 w12 m12 hst12 hle12 hk12 => ?_
       have hfr12 := hk12.fr (.o 6 <| .o 0 <| .o 4 <| .o 5 <| .nil)
       obtain ⟨y34, e34, hy34⟩ := hk12.ex 88 rfl
       replace hst12 := hst12.fin (L' := [_, _, _]) (.cons e34 <| .nil)
       clear hst11 hfr11 hk12
       obtain ⟨z3, hst12, hU3⟩ := rp_open (k := 0) hst12 rfl
       simp only [List.set_cons_zero] at hst12
       refine hK31 _ _ ?_
       refine zE fun _ hK35 => ?_
       refine rp0 hst12 hfr12 (.cons rfl (zG rfl) <| .cons rfl (zq rfl rfl) <| .cons rfl (zG rfl) <| .cons rfl (zF (off := 0) rfl underlying45 rfl rfl sizeOf3 rfl) <| .cons rfl (zW (j := 1) rfl rfl isAgg3 rfl) <| .cons rfl (zq rfl rfl) <| .cons rfl (z8 rfl rfl rfl) <| .cons rfl (zG rfl) <| .cons rfl (zG rfl) <| .cons rfl (zg rfl) <| .cons rfl (zF (off := 5) rfl underlying39 rfl rfl sizeOf37 rfl) <| .cons rfl (zW (j := 0) rfl rfl isAgg37 rfl) <| .cons rfl (zq rfl rfl) <| .cons rfl (z8 rfl rfl rfl) <| .nil) fun a13 w13 m13 hst13 hle13 hk13 => ?_
       have hfr13 := hk13.fr (.o 6 <| .o 0 <| .o 4 <| .o 5 <| .n 102 <| .nil)
       clear hst12 hfr12 hk13
       refine hK35 _ _ ?_
       refine zJ hfr13 rfl rfl (fun hb102 => ?_) (fun hb102 => ?_)
       ·try simp only [nqs] at hb102
        have hq0 : y = 0 := by omega
        have hq1 : pa.kind = 5 := hb102.1.2
        have hq2 : e9 = 0 := hb102.2
        subst hq2
        have hcz : (cs y).1 = 0 := by rw [hq0, hcs.h0]
        have hgd2 := zGe k _ _ _ _ (hr2 hcz) hg9 hra8.1 hra8.2
        rw [if_pos ⟨hq0, hq1, rfl⟩] at hnx9
        obtain ⟨⟨hok2, hl2, hl3⟩, hcn⟩ := hnx9
        refine ZE 5 (by kernel_rfl) ?_
        refine ZN (tch := []) hst13 hfr13 (by kernel_rfl) (by kernel_rfl) (by kernel_rfl) (.cons rfl (zG rfl) <| .cons rfl (zF (off := 4) rfl underlying45 rfl rfl sizeOf43 rfl) <| .cons rfl (Za (j := 1) rfl rfl isAgg43 sizeOf43 rfl rfl) <| .cons rfl (zF (off := 4) rfl underlying45 rfl rfl sizeOf43 rfl) <| .cons rfl (Za (j := 2) rfl rfl isAgg43 sizeOf43 rfl rfl) <| .nil) fun a14 w14 m14 hst14 hle14 hk14 => ?_
        have hfr14 := hk14.fr (.o 6 <| .o 0 <| .o 4 <| .o 5 <| .n 103 <| .n 105 <| .n 107 <| .nil)
        clear hst13 hfr13 hk14
        have zq23 := hle13.trans hle14
        have zq24 := hle12.trans zq23
        replace hspa := hspa.mono zq24
        replace hspb := hspb.mono zq24
        replace hU3 := hU3.mono zq23
        refine Zi [] [_, _] [_] hst14 hfr14 rfl (.cons rfl <| .cons rfl <| .cons rfl <| .nil) call40 (rp_R (rrows_g (U := U9) (a := ⟨pa.labels, pa.rv⟩) (b := ⟨pb.labels, pb.rv⟩) hst14.agree (hst14.loc.at_ (k := 0) rfl) hU3 ⟨_, _, rfl, hspa, hra9⟩ ⟨_, _, rfl, hspb, hrb9⟩ hok2 hgd2.ap hl2 hl3)) ?_
        intro vr15 w15 m15 rs15 hst15 hle15 hp15
        obtain ⟨z4, rfl, hU4⟩ := hp15
        simp only [List.nil_append, List.cons_append] at hst15
        rw [← hcn] at hU4 hst15
        have hfr15 := (hfr14.sub (T' := [(6, _), (0, _), (4, _), (5, _), (103, _), (105, _), (107, _)]) (.cons rfl <| .cons rfl <| .cons rfl <| .cons rfl <| .cons rfl <| .cons rfl <| .cons rfl <| .nil)).put (d := 108) (v := vr15) (by kernel_rfl) rfl
        clear hst14 hfr14
        refine hK30 _ _ ?_
        refine rp0 hst15 hfr15 (.cons rfl (zG rfl) <| .cons rfl (zy rfl rfl ⟨by omega, by omega⟩) <| .cons rfl (zH rfl) <| .nil) fun a16 w16 m16 hst16 hle16 hk16 => ?_
        have hfr16 := hk16.fr (.o 0 <| .o 4 <| .o 5 <| .n 6 <| .nil)
        clear hst15 hfr15 hk16
        replace hU4 := hU4.mono hle16
        have zq25 := hle15.trans hle16
        have zq26 := zq24.trans zq25
        have zq27 := hle11.trans zq26
        have hlh16 := hlh10.trans zq27
        exact ⟨(y + 1, z4), m16, by show pa.args.length - (y + 1) < pa.args.length - y; omega, ⟨hst16, hlh16, hfr16.sub (.c <| .c <| .c <| .c <| .nil), ⟨by show y + 1 ≤ pa.args.length; omega, hU4⟩⟩⟩
       ·try simp only [nqs] at hb102
        rw [if_neg (fun h => by rcases hb102 with (h9 | h9) | h9; (exact h9 (by omega)); (exact h9 h.2.1); exact h9 h.2.2)] at hnx9
        have hst13 := st_re hst13 (r2 := RB g (cs (y + 1)).2.s z3 (cs (y + 1)).2.nx (cs (y + 1)).1) (by rw [hnx9])
        replace hU3 := hU3.mono hle13
        have hU4 : RSubR m13 (cs (y + 1)).2.s (rsV (cs (y + 1)).2.s z3) := by rw [hnx9]; exact hU3
        refine zR ?_
        refine hK30 _ _ ?_
        refine rp0 hst13 hfr13 (.cons rfl (zG rfl) <| .cons rfl (zy rfl rfl ⟨by omega, by omega⟩) <| .cons rfl (zH rfl) <| .nil) fun a14 w14 m14 hst14 hle14 hk14 => ?_
        have hfr14 := hk14.fr (.o 0 <| .o 4 <| .o 5 <| .n 6 <| .nil)
        clear hst13 hfr13 hk14
        replace hU4 := hU4.mono hle14
        have zq28 := hle13.trans hle14
        have zq29 := hle12.trans zq28
        have zq30 := hle11.trans zq29
        have hlh14 := hlh10.trans zq30
        exact ⟨(y + 1, z3), m14, by show pa.args.length - (y + 1) < pa.args.length - y; omega, ⟨hst14, hlh14, hfr14.sub (.c <| .c <| .c <| .c <| .nil), ⟨by show y + 1 ≤ pa.args.length; omega, hU4⟩⟩⟩
      ·try simp only [nqs] at hb74
       have hge : y = pa.args.length := by omega
       have hce : cs y = R := by rw [hge]; exact hcs.hn
       replace hJz := hJz.mono hle11
       have hJR : RSubR m11 R.2.s (rsV R.2.s z2) := by rw [← hce]; exact hJz
       refine z7 ?_
       repeat (with_reducible first | refine Zx ?_ | refine Zk ?_ | refine Zc ?_)
       exact zEJ hst11 hfr11 rfl (.nil) (⟨z2, by rw [← hce]; exact (hst11.take 1).loc, hJR⟩)
theorem rtypes_t : ∀ k, RTG k
 | 0 => fun a b c r h1 h2 hg ra rb w m g z va vb hA hr hU ha hb => by
  have hne : ¬ c.1 = 0 := fun h => by have := h2 h; rw [ZX] at this; cases this
  obtain ⟨e, U⟩ := c
  exact rtypes_s (k := 0) hA hr hU ha hb (fun h => absurd h hne) (fun h => absurd h hne) h1 hg ra rb
 | k + 1 => fun a b c r h1 h2 hg ra rb w m g z va vb hA hr hU ha hb => by
  obtain ⟨e, U⟩ := c
  exact rtypes_s (k := k) hA hr hU ha hb (fun _ => rtypes_t k) h2 h1 hg ra rb
end Go.Proofs.YtlidonjpgigocaaGreat
