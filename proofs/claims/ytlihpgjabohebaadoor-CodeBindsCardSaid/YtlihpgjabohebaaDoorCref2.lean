/-
  Code: what is free, how many pieces, as the document's answer says it. Conditions: those of each theorem.
-/
import Derived.Test.YtlihpgjabohebaaDoorCref
import Derived.Test.YtlihpgjabohebaaDoorCshown
namespace Go.Proofs.YtlihpgjabohebaaDoor
set_option linter.all false
set_option maxRecDepth 4000
open Go.RowKit
def insM : List Str → Str → List Str
  | [], s => [s]
  | x :: l, s => if Op.bytesLess x s = true then x :: insM l s else if x = s then x :: l else s :: x :: l
def joinM (a b : List Str) : List Str := b.foldl insM a
theorem insM_len : ∀ (l : List Str) (s : Str), (insM l s).length ≤ l.length + 1
  | [], s => by simp [insM]
  | x :: l, s => by rw [insM]; have := insM_len l s; split; (simp only [List.length_cons]; omega); split <;> simp
theorem joinM_len : ∀ (b a : List Str), (joinM a b).length ≤ a.length + b.length
  | [], a => by simp [joinM]
  | x :: b, a => by have := joinM_len b (insM a x); have := insM_len a x; unfold joinM at *; rw [List.foldl_cons, List.length_cons]; omega
theorem insM_new {d : List Str} {s : Str} (h : ∀ x r, d = x :: r → Op.bytesLess x s = false ∧ x ≠ s) : insM d s = s :: d := by
  cases d with
  | nil => rfl
  | cons x r => obtain ⟨h1, h2⟩ := h x r rfl; rw [insM, if_neg (by rw [h1]; decide), if_neg h2]
theorem insM_old {d r : List Str} {s x : Str} (hd : d = x :: r) (h1 : Op.bytesLess x s = false) (h2 : x = s) : insM d s = d := by
  subst hd; rw [insM, if_neg (by rw [h1]; decide), if_pos h2]
theorem insM_sorted : ∀ {l : List Str} {s : Str}, (l.Pairwise (· < ·)) → (insM l s).Pairwise (· < ·) ∧ ∀ x, x ∈ insM l s ↔ x ∈ l ∨ x = s
  | [], s, _ => by simp [insM]
  | y :: l, s, h => by
    rw [List.pairwise_cons] at h
    obtain ⟨h1, h2⟩ := insM_sorted (s := s) h.2
    rw [insM]
    by_cases hl : Op.bytesLess y s = true
    · rw [if_pos hl]
      rw [bytesLess_eq, decide_eq_true_eq] at hl
      refine ⟨List.pairwise_cons.2 ⟨fun x hx => ?_, h1⟩, fun x => by rw [List.mem_cons, h2, List.mem_cons]; exact ⟨fun h => h.elim (fun e => .inl (.inl e)) (fun h => h.elim (fun e => .inl (.inr e)) .inr), fun h => h.elim (fun h => h.elim .inl (fun h => .inr (.inl h))) (fun h => .inr (.inr h))⟩⟩
      rcases (h2 x).1 hx with hx | rfl
      · exact h.1 x hx
      · exact hl
    · rw [if_neg hl]
      by_cases he : y = s
      · rw [if_pos he]; subst he
        exact ⟨List.pairwise_cons.2 h, fun x => ⟨.inl, fun h => h.elim id (fun e => by subst e; exact .head _)⟩⟩
      · rw [if_neg he]
        have hlt : s < y := by
          have hn : ¬ y < s := fun hh => hl (by rw [bytesLess_eq]; exact decide_eq_true hh)
          have := List.not_lt.1 hn
          rcases List.le_iff_lt_or_eq.1 this with h | h
          · exact h
          · exact absurd h.symm he
        refine ⟨List.pairwise_cons.2 ⟨fun x hx => ?_, List.pairwise_cons.2 h⟩, fun x => by simp only [List.mem_cons]; exact ⟨fun h => h.elim .inr .inl, fun h => h.elim .inr .inl⟩⟩
        rcases List.mem_cons.1 hx with rfl | hx
        · exact hlt
        · exact List.lt_trans hlt (h.1 x hx)
def withM (l : List Str) (s : Str) : List Str := if s ∈ l then l else insM l s
theorem withM_len (l : List Str) (s : Str) : (withM l s).length ≤ l.length + 1 := by unfold withM; have := insM_len l s; split <;> omega
def boundR (l m : List Str) : List Str := l ++ m.filter fun s => decide (¬ s = uS)
theorem boundR_len (l m : List Str) : (boundR l m).length ≤ l.length + m.length := by unfold boundR; rw [List.length_append]; have := List.length_filter_le (fun s => decide (¬ s = uS)) m; omega
def bindsR (k : Int) (s p : Str) (i : Nat) : List Str := if k = 5 then [s] else if k = 7 ∨ k = 8 then (if i = 1 then [s] else []) else if k = 9 then (if i = 0 then [s, p] else [s]) else []
theorem bindsR_len (k : Int) (s p : Str) (i : Nat) : (bindsR k s p i).length ≤ 2 := by
  unfold bindsR
  repeat' split
  all_goals simp
mutual
def frR : Cd → List Str → List Str → List Str
  | ⟨k, s, p, _, ks, az⟩, l, q => frAs l az (frKs (bindsR k s p) l 0 ks (if k = 1 ∧ ¬ s ∈ l then withM q s else q))
def frKs (f : Nat → List Str) (l : List Str) : Nat → List Cd → List Str → List Str
  | _, [], q => q
  | i, t :: ts, q => frKs f l (i + 1) ts (frR t (boundR l (f i)) q)
def frAs (l : List Str) : List Ca → List Str → List Str
  | [], q => q
  | ⟨_, v, _, b⟩ :: ts, q => frAs l ts (frR b (boundR l v) q)
end
def frH (t : Cd) (l q : List Str) : List Str := if t.kind = 1 ∧ ¬ t.name ∈ l then withM q t.name else q
def bR (t : Cd) (i : Nat) : List Str := bindsR t.kind t.name t.param i
theorem frR_eq (t : Cd) (l q : List Str) : frR t l q = frAs l t.arms (frKs (bR t) l 0 t.kids (frH t l q)) := by obtain ⟨k, s, p, n, ks, az⟩ := t; rw [frR]; rfl
theorem frAs_cons (l : List Str) (a : Ca) (ts : List Ca) (q : List Str) : frAs l (a :: ts) q = frAs l ts (frR a.body (boundR l a.vars) q) := by obtain ⟨s, v, tl, b⟩ := a; rw [frAs]; rfl
mutual
def occR : Cd → List Str → List Str
  | ⟨k, s, p, _, ks, az⟩, l => (if k = 1 ∧ ¬ s ∈ l then [s] else []) ++ occRKs (bindsR k s p) l 0 ks ++ occRAs l az
def occRKs (f : Nat → List Str) (l : List Str) : Nat → List Cd → List Str
  | _, [] => []
  | i, t :: ts => occR t (boundR l (f i)) ++ occRKs f l (i + 1) ts
def occRAs (l : List Str) : List Ca → List Str
  | [] => []
  | ⟨_, v, _, b⟩ :: ts => occR b (boundR l v) ++ occRAs l ts
end
theorem occR_eq (t : Cd) (l : List Str) : occR t l = (if t.kind = 1 ∧ ¬ t.name ∈ l then [t.name] else []) ++ occRKs (bR t) l 0 t.kids ++ occRAs l t.arms := by obtain ⟨k, s, p, n, ks, az⟩ := t; rw [occR]; rfl
theorem occRAs_cons (l : List Str) (a : Ca) (ts : List Ca) : occRAs l (a :: ts) = occR a.body (boundR l a.vars) ++ occRAs l ts := by obtain ⟨s, v, tl, b⟩ := a; rw [occRAs]; rfl
theorem frR_fold (t : Cd) : ∀ l q, frR t l q = (occR t l).foldl withM q := by
  induction t using Cd.rec_ with
  | h t ihk iha =>
    intro l q
    have hk : ∀ (ks : List Cd), (∀ u ∈ ks, u ∈ t.kids) → ∀ f i q, frKs f l i ks q = (occRKs f l i ks).foldl withM q := by
      intro ks
      induction ks with
      | nil => intro _ f i q; rw [frKs, occRKs]; rfl
      | cons u ks ih => intro h f i q; rw [frKs, occRKs, List.foldl_append, ihk u (h u (.head _)), ih (fun v hv => h v (.tail _ hv))]
    have hr : ∀ (az : List Ca), (∀ u ∈ az, u ∈ t.arms) → ∀ q, frAs l az q = (occRAs l az).foldl withM q := by
      intro az
      induction az with
      | nil => intro _ q; rw [frAs, occRAs]; rfl
      | cons u az ih => intro h q; rw [frAs_cons, occRAs_cons, List.foldl_append, iha u (h u (.head _)), ih (fun v hv => h v (.tail _ hv))]
    rw [frR_eq, occR_eq, List.foldl_append, List.foldl_append, hr t.arms (fun _ h => h), hk t.kids (fun _ h => h)]
    congr 2
    unfold frH
    split <;> rfl
theorem filter_bound (bd ns : List Str) : boundR (bd.filter fun s => decide (¬ s = uS)) ns = (bd ++ ns).filter fun s => decide (¬ s = uS) := by unfold boundR; rw [List.filter_append]
theorem occ_same {t : Cd} : rightC t = true → ∀ bd, occR t (bd.filter fun s => decide (¬ s = uS)) = occP t bd := by
  induction t using Cd.rec_ with
  | h t ihk iha =>
    intro hr bd
    have hh := hr
    rw [rightC_eq] at hh
    simp only [Bool.and_eq_true, List.all_eq_true] at hh
    obtain ⟨⟨⟨hhd, _⟩, hkr⟩, har⟩ := hh
    have hkn : (t.kind = 1 → t.kids.length = 0) ∧ (t.kind = 5 → t.kids.length = 1) ∧ (t.kind = 7 ∨ t.kind = 8 → t.kids.length = 2) ∧ (t.kind = 9 → t.kids.length = 2) := by
      refine ⟨fun h => ?_, fun h => ?_, fun h => ?_, fun h => ?_⟩
      · unfold headC at hhd; simp [h] at hhd; simp [hhd]
      · unfold headC at hhd; simp [h] at hhd; exact hhd.1.1.1.1
      · unfold headC at hhd; rcases h with h | h <;> (simp [h] at hhd; exact hhd.1.1.1.1)
      · unfold headC at hhd; simp [h] at hhd; exact hhd.1.1.1.1
    have hk : ∀ (ks : List Cd) (i : Nat), (∀ u ∈ ks, u ∈ t.kids) → i + ks.length = t.kids.length → occRKs (bR t) (bd.filter fun s => decide (¬ s = uS)) i ks = occKs (bindP t.kind t.name t.param) bd i ks := by
      intro ks
      induction ks with
      | nil => intro i _ _; rw [occRKs, occKs]
      | cons u ks ih =>
        intro i h hl
        rw [List.length_cons] at hl
        rw [occRKs, occKs, filter_bound, ihk u (h u (.head _)) (hkr u (h u (.head _))), ih (i + 1) (fun v hv => h v (.tail _ hv)) (by omega)]
        congr 1
        have hb : bindP t.kind t.name t.param i = some (bR t i) := by
          unfold bindP bR bindsR
          by_cases h1 : t.kind = 1
          · have := hkn.1 h1; omega
          rw [if_neg h1]
          by_cases h5 : t.kind = 5
          · have := hkn.2.1 h5; rw [if_pos h5, if_pos h5, if_pos (by omega)]
          rw [if_neg h5, if_neg h5]
          by_cases h7 : t.kind = 7 ∨ t.kind = 8
          · have := hkn.2.2.1 h7; rw [if_pos h7, if_pos h7]
            by_cases hi : i = 0
            · subst hi; rfl
            · rw [if_neg hi, if_pos (show i = 1 by omega), if_pos (show i = 1 by omega)]
          rw [if_neg h7, if_neg h7]
          by_cases h9 : t.kind = 9
          · have := hkn.2.2.2 h9; rw [if_pos h9, if_pos h9]
            by_cases hi : i = 0
            · subst hi; rfl
            · rw [if_neg hi, if_pos (show i = 1 by omega), if_neg hi]
          rw [if_neg h9, if_neg h9]
        rw [hb]
    have ha : ∀ (az : List Ca), (∀ u ∈ az, u ∈ t.arms) → occRAs (bd.filter fun s => decide (¬ s = uS)) az = occAs bd az := by
      intro az
      induction az with
      | nil => intro _; rw [occRAs, occAs]
      | cons u az ih => intro h; rw [occRAs_cons, occAs_cons, filter_bound, iha u (h u (.head _)) (har u (h u (.head _))), ih (fun v hv => h v (.tail _ hv))]
    rw [occR_eq, occP_eq, hk t.kids 0 (fun _ h => h) (by omega), ha t.arms (fun _ h => h)]
    congr 2
    unfold headO
    by_cases h1 : t.kind = 1
    · rw [if_pos h1]
      by_cases hn : t.name = uS ∨ ¬ t.name ∈ bd
      · rw [if_pos hn, if_pos ⟨h1, by simp only [List.mem_filter, decide_eq_true_eq, not_and]; intro hm hu; exact hn.elim hu (fun h => h hm)⟩]
      · rw [if_neg hn, if_neg]
        rintro ⟨-, h⟩
        refine h (List.mem_filter.2 ⟨?_, ?_⟩)
        · exact Classical.not_not.1 fun h => hn (.inr h)
        · exact decide_eq_true fun h => hn (.inl h)
    · rw [if_neg h1, if_neg (fun h => h1 h.1)]
theorem withM_sorted {l : List Str} {s : Str} (h : l.Pairwise (· < ·)) : (withM l s).Pairwise (· < ·) ∧ ∀ x, x ∈ withM l s ↔ x ∈ l ∨ x = s := by
  unfold withM
  split
  · rename_i hs; exact ⟨h, fun x => ⟨.inl, fun h => h.elim id (fun e => by subst e; exact hs)⟩⟩
  · exact insM_sorted h
theorem fold_sorted : ∀ (q l : List Str), l.Pairwise (· < ·) → (q.foldl withM l).Pairwise (· < ·) ∧ ∀ x, x ∈ q.foldl withM l ↔ x ∈ l ∨ x ∈ q
  | [], l, h => ⟨h, fun x => by simp⟩
  | s :: q, l, h => by
    obtain ⟨h1, h2⟩ := withM_sorted (s := s) h
    obtain ⟨h3, h4⟩ := fold_sorted q (withM l s) h1
    refine ⟨h3, fun x => ?_⟩
    show x ∈ q.foldl withM (withM l s) ↔ _
    rw [h4, h2, List.mem_cons, or_assoc]
theorem lt_unique {a b : List Str} (ha : a.Pairwise (· < ·)) (hb : b.Pairwise (· < ·)) (h : ∀ x, x ∈ a ↔ x ∈ b) : a = b := by
  refine perm_sorted ((List.perm_ext_iff_of_nodup (ha.imp fun {x y} h (e : x = y) => by subst e; exact List.lt_irrefl _ h) (hb.imp fun {x y} h (e : x = y) => by subst e; exact List.lt_irrefl _ h)).2 h) ?_ ?_
  · exact (sorted_iff a).2 (ha.imp fun h => List.le_of_lt h)
  · exact (sorted_iff b).2 (hb.imp fun h => List.le_of_lt h)
theorem free_same {t : Cd} (h : rightC t = true) : frR t [] [] = freeP t := by
  obtain ⟨h1, h2⟩ := fold_sorted (occR t []) [] .nil
  refine lt_unique (by rw [frR_fold]; exact h1) (freeP_lt t) fun x => ?_
  rw [frR_fold, h2, freeP_mem, ← occ_same h []]; simp
theorem frR_len (t : Cd) (l q : List Str) : (frR t l q).length ≤ q.length + (occR t l).length := by
  rw [frR_fold]
  have : ∀ (o q : List Str), (o.foldl withM q).length ≤ q.length + o.length := by
    intro o
    induction o with
    | nil => intro q; simp
    | cons x o ih => intro q; have h1 := ih (withM q x); have h2 := withM_len q x; rw [List.foldl_cons, List.length_cons]; omega
  exact this _ _
theorem occR_len (t : Cd) : ∀ l, (occR t l).length ≤ cntC t := by
  induction t using Cd.rec_ with
  | h t ihk iha =>
    intro l
    have hk : ∀ (ks : List Cd), (∀ u ∈ ks, u ∈ t.kids) → ∀ f i, (occRKs f l i ks).length ≤ cntKs ks := by
      intro ks
      induction ks with
      | nil => intro _ f i; simp [occRKs]
      | cons u ks ih => intro h f i; rw [occRKs, cntKs, List.length_append]; have h1 := ih (fun v hv => h v (.tail _ hv)) f (i + 1); have h2 := ihk u (h u (.head _)) (boundR l (f i)); omega
    have hr : ∀ (az : List Ca), (∀ u ∈ az, u ∈ t.arms) → (occRAs l az).length ≤ cntAs az := by
      intro az
      induction az with
      | nil => intro _; simp [occRAs]
      | cons u az ih => intro h; rw [occRAs_cons, cntAs_cons, List.length_append]; have h1 := ih (fun v hv => h v (.tail _ hv)); have h2 := iha u (h u (.head _)) (boundR l u.vars); omega
    rw [occR_eq, cntC_eq, List.length_append, List.length_append]
    have h1 := hk t.kids (fun _ h => h) (bR t) 0
    have h2 := hr t.arms (fun _ h => h)
    have h3 : (if t.kind = 1 ∧ ¬ t.name ∈ l then [t.name] else []).length ≤ 1 := by split <;> simp
    omega

end Go.Proofs.YtlihpgjabohebaaDoor
