/-
  Unlike right codes with plain names have unlike texts: nothing but lists. Conditions: those of each theorem.
-/
import Derived.Test.YtlihpgjabohebaaDoorCref4
namespace Go.Proofs.YtlihpgjabohebaaDoor
set_option linter.all false
open Go.RowKit
open Go.Lib (itoa decDigits formatBool)
/-- A byte of a number. -/
def digB (b : UInt8) : Prop := 48 ≤ b.toNat ∧ b.toNat ≤ 57
theorem byte_nat {k : Nat} (h : k < 10) : (UInt8.ofNat (48 + k)).toNat = 48 + k := by
  rw [UInt8.toNat_ofNat']; omega
theorem dec_dig (n : Nat) : ∀ b ∈ decDigits n, digB b := by
  induction n using Nat.strongRecOn with
  | ind n ih =>
    intro b hb
    rw [dec_eq] at hb
    split at hb
    · rename_i h
      rw [List.mem_singleton] at hb; subst hb
      have := byte_nat h
      exact ⟨by omega, by omega⟩
    · rw [List.mem_append, List.mem_singleton] at hb
      rcases hb with hb | hb
      · exact ih (n / 10) (by omega) b hb
      · subst hb
        have := byte_nat (k := n % 10) (by omega)
        exact ⟨by omega, by omega⟩
theorem dec_ne (n : Nat) : decDigits n ≠ [] := by rw [dec_eq]; split <;> simp
theorem byte_inj {j k : Nat} (hj : j < 10) (hk : k < 10) (h : UInt8.ofNat (48 + j) = UInt8.ofNat (48 + k)) : j = k := by
  have h1 := byte_nat hj; have h2 := byte_nat hk; rw [h] at h1; omega
theorem dec_inj (n : Nat) : ∀ m, decDigits n = decDigits m → n = m := by
  induction n using Nat.strongRecOn with
  | ind n ih =>
    intro m h
    rw [dec_eq n, dec_eq m] at h
    split at h <;> split at h
    · simp only [List.cons.injEq, and_true] at h; exact byte_inj (by omega) (by omega) h
    · have := congrArg List.length h
      simp only [List.length_append, List.length_cons, List.length_nil] at this
      have h2 := dec_ne (m / 10)
      have := List.length_pos_iff.2 h2; omega
    · have := congrArg List.length h
      simp only [List.length_append, List.length_cons, List.length_nil] at this
      have h2 := dec_ne (n / 10)
      have := List.length_pos_iff.2 h2; omega
    · obtain ⟨h1, h2⟩ := List.append_inj' h rfl
      have e1 := ih (n / 10) (by omega) _ h1
      simp only [List.cons.injEq, and_true] at h2
      have e2 := byte_inj (by omega) (by omega) h2
      omega
theorem itoa_inj {n m : Int} (h : itoa n = itoa m) : n = m := by
  unfold itoa at h
  have hh : ∀ (k : Nat) (l : List UInt8), 45 :: l ≠ decDigits k := fun k l e => by
    have := dec_dig k 45 (by rw [← e]; exact .head _)
    have h1 := this.1
    have : (45 : UInt8).toNat = 45 := rfl
    omega
  split at h <;> split at h
  · simp only [List.cons.injEq, true_and] at h; have := dec_inj _ _ h; omega
  · exact absurd h (hh _ _)
  · exact absurd h.symm (hh _ _)
  · have := dec_inj _ _ h; omega
theorem itoa_byte {n : Int} {b : UInt8} (h : b ∈ itoa n) : b.toNat = 45 ∨ digB b := by
  unfold itoa at h
  split at h
  · rcases List.mem_cons.1 h with rfl | h
    · exact .inl rfl
    · exact .inr (dec_dig _ b h)
  · exact .inr (dec_dig _ b h)
theorem itoa_ne (n : Int) : itoa n ≠ [] := by
  unfold itoa
  split
  · simp
  · exact dec_ne _
theorem span (p : UInt8 → Bool) : ∀ (a b r s : Str), a.all p = true → b.all p = true → (∀ c ∈ r.head?, p c = false) → (∀ c ∈ s.head?, p c = false) → a ++ r = b ++ s → a = b ∧ r = s
  | [], [], r, s, _, _, _, _, h => ⟨rfl, h⟩
  | [], c :: b, r, s, _, hb, hr, _, h => by
    simp only [List.all_cons, Bool.and_eq_true] at hb
    simp only [List.nil_append] at h
    subst h
    have := hr c rfl
    rw [hb.1] at this; cases this
  | c :: a, [], r, s, ha, _, _, hs, h => by
    simp only [List.all_cons, Bool.and_eq_true] at ha
    simp only [List.nil_append] at h
    subst h
    have := hs c rfl
    rw [ha.1] at this; cases this
  | c :: a, d :: b, r, s, ha, hb, hr, hs, h => by
    simp only [List.all_cons, Bool.and_eq_true] at ha hb
    simp only [List.cons_append, List.cons.injEq] at h
    obtain ⟨h1, h2⟩ := span p a b r s ha.2 hb.2 hr hs h.2
    exact ⟨by rw [h.1, h1], h2⟩
-- words
def letB (b : UInt8) : Bool := decide (b.toNat = 95) || (decide (65 ≤ b.toNat) && decide (b.toNat ≤ 90)) || (decide (97 ≤ b.toNat) && decide (b.toNat ≤ 122))
def resv : List Str := [[116, 114, 117, 101], [102, 97, 108, 115, 101], [117, 110, 105, 116], [102, 117, 110], [99, 97, 108, 108], [108, 101, 116], [98, 105, 110, 100], [114, 101, 99], [105, 102], [111, 112], [99, 111, 110], [109, 97, 116, 99, 104], [121, 105, 101, 108, 100], [112, 114, 111, 109, 112, 116], [116, 97, 105, 108]]
/-- May a name stand in a text so that it is told from all else? -/
def wordB (s : Str) : Bool := s.all letB && !decide (s ∈ resv)
mutual
def cleanC : Cd → Bool
  | ⟨k, s, p, _, ks, az⟩ => (decide (k = 11) || wordB s) && wordB p && cleanKs ks && cleanAs az
def cleanKs : List Cd → Bool
  | [] => true
  | t :: ts => cleanC t && cleanKs ts
def cleanAs : List Ca → Bool
  | [] => true
  | ⟨s, l, _, b⟩ :: ts => (wordB s && cleanC b && l.all wordB) && cleanAs ts
end
def cleanA (a : Ca) : Bool := wordB a.name && cleanC a.body && a.vars.all wordB
theorem cleanKs_all : ∀ l : List Cd, cleanKs l = l.all cleanC
  | [] => by simp [cleanKs]
  | t :: ts => by simp [cleanKs, cleanKs_all ts]
theorem cleanAs_all : ∀ l : List Ca, cleanAs l = l.all cleanA
  | [] => by simp [cleanAs]
  | ⟨s, l, tl, b⟩ :: ts => by simp [cleanAs, cleanAs_all ts, cleanA, Ca.name, Ca.vars, Ca.body]
theorem cleanC_eq (t : Cd) : cleanC t = ((decide (t.kind = 11) || wordB t.name) && wordB t.param && t.kids.all cleanC && t.arms.all cleanA) := by
  obtain ⟨k, s, p, n, ks, az⟩ := t
  rw [cleanC, cleanKs_all, cleanAs_all]; rfl
-- tokens
def lbS : Str := [123]
def rbS : Str := [125]
def barS : Str := [124]
def tailS : Str := [116, 97, 105, 108]
mutual
def tokC : Cd → List Str
  | ⟨k, s, p, n, ks, az⟩ => if k = 1 then [s] else if k = 2 then [itoa n] else if k = 3 then [formatBool (decide (n = 1))] else if k = 4 then [[117, 110, 105, 116]] else headW k s p ++ (tokKs (fromC k ks.length) 0 ks ++ tokAs az)
def tokKs (fr : Nat) : Nat → List Cd → List Str
  | _, [] => []
  | i, t :: ts => (if i < fr ∧ ¬ t.kind = 5 then tokC t else lbS :: (tokC t ++ [rbS])) ++ tokKs fr (i + 1) ts
def tokAs : List Ca → List Str
  | [] => []
  | ⟨s, l, tl, b⟩ :: ts => (barS :: ((if tl then [tailS] else []) ++ s :: (l ++ lbS :: (tokC b ++ [rbS])))) ++ tokAs ts
end
def kidT (fr i : Nat) (t : Cd) : List Str := if i < fr ∧ ¬ t.kind = 5 then tokC t else lbS :: (tokC t ++ [rbS])
def armT2 (a : Ca) : List Str := barS :: ((if a.tail then [tailS] else []) ++ a.name :: (a.vars ++ lbS :: (tokC a.body ++ [rbS])))
theorem tokC_eq (t : Cd) : tokC t = if t.kind = 1 then [t.name] else if t.kind = 2 then [itoa t.n] else if t.kind = 3 then [formatBool (decide (t.n = 1))] else if t.kind = 4 then [[117, 110, 105, 116]] else headW t.kind t.name t.param ++ (tokKs (fromC t.kind t.kids.length) 0 t.kids ++ tokAs t.arms) := by obtain ⟨k, s, p, n, ks, az⟩ := t; rw [tokC]; rfl
theorem tokKs_cons (fr i : Nat) (t : Cd) (ts : List Cd) : tokKs fr i (t :: ts) = kidT fr i t ++ tokKs fr (i + 1) ts := by rw [tokKs]; rfl
theorem tokAs_cons (a : Ca) (ts : List Ca) : tokAs (a :: ts) = armT2 a ++ tokAs ts := by obtain ⟨s, l, tl, b⟩ := a; rw [tokAs]; rfl
theorem spc_join {x : Str} {l : List Str} : spc [joinW (x :: l)] = spc (x :: l) := by rw [spc_cons, spc_cons, join_spc]; simp [spc]
theorem tok_ne {t : Cd} (h : rightC t = true) : ∃ x l, tokC t = x :: l := by
  have hk := right_kindT h
  rw [tokC_eq]
  by_cases h4 : 4 < t.kind
  · rw [if_neg (by omega), if_neg (by omega), if_neg (by omega), if_neg (by omega)]
    have := headW_some (s := t.name) (p := t.param) ⟨h4, hk.2⟩
    cases e : headW t.kind t.name t.param with
    | nil => exact absurd e this
    | cons x l => exact ⟨x, _, rfl⟩
  · repeat' split
    all_goals first | exact ⟨_, _, rfl⟩ | omega
theorem right_kids {t : Cd} (h : rightC t = true) : (∀ u ∈ t.kids, rightC u = true) ∧ ∀ a ∈ t.arms, rightC a.body = true := by
  rw [rightC_eq] at h
  simp only [Bool.and_eq_true] at h
  exact ⟨fun u hu => List.all_eq_true.1 h.1.2 u hu, fun a ha => List.all_eq_true.1 h.2 a ha⟩
theorem text_tok (t : Cd) : rightC t = true → textC t = joinW (tokC t) := by
  induction t using Cd.rec_ with
  | h t ihk iha =>
    intro h
    have hk := right_kindT h
    obtain ⟨hkr, har⟩ := right_kids h
    by_cases h4 : 4 < t.kind
    · have hb : ∀ u, rightC u = true → textC u = joinW (tokC u) → spc [bracesC u] = spc (lbS :: (tokC u ++ [rbS])) := fun u hr e => by
        obtain ⟨x, l, hx⟩ := tok_ne hr
        unfold bracesC
        rw [e, hx, join_spc]
        simp [spc, lbS, rbS]
      have h1 : ∀ (l : List Cd), (∀ u ∈ l, u ∈ t.kids) → ∀ fr i, spc (kidsW fr i l) = spc (tokKs fr i l) := by
        intro l
        induction l with
        | nil => intro _ fr i; rw [kidsW, tokKs]
        | cons u l ih =>
          intro hl fr i
          have hu := hl u (.head _)
          have e := ihk u hu (hkr u hu)
          rw [kidsW_cons, tokKs_cons, spc_app, ← ih (fun v hv => hl v (.tail _ hv)) fr (i + 1), show kidW fr i u :: kidsW fr (i + 1) l = [kidW fr i u] ++ kidsW fr (i + 1) l from rfl, spc_app]
          congr 1
          unfold kidW kidT plainC
          by_cases hi : i < fr
          · by_cases h5 : u.kind = 5
            · rw [if_pos hi, if_pos h5, if_neg (fun h => h.2 h5)]; exact hb u (hkr u hu) e
            · rw [if_pos hi, if_neg h5, if_pos ⟨hi, h5⟩, e]
              obtain ⟨x, q, hx⟩ := tok_ne (hkr u hu)
              rw [hx, spc_join]
          · rw [if_neg hi, if_neg (fun h => hi h.1)]; exact hb u (hkr u hu) e
      have h2 : ∀ (l : List Ca), (∀ u ∈ l, u ∈ t.arms) → spc (armsW l) = spc (tokAs l) := by
        intro l
        induction l with
        | nil => intro _; rw [armsW, tokAs]
        | cons a l ih =>
          intro hl
          have ha := hl a (.head _)
          have e := hb a.body (har a ha) (iha a ha (har a ha))
          rw [armsW_cons, tokAs_cons, spc_app, spc_app, ih (fun v hv => hl v (.tail _ hv))]
          congr 1
          unfold armW armT2
          have e2 : spc (a.name :: a.vars ++ [bracesC a.body]) = spc (a.name :: (a.vars ++ lbS :: (tokC a.body ++ [rbS]))) := by
            rw [spc_app, e, ← spc_app]; rfl
          rw [List.cons_append, spc_cons, spc_app, e2, ← spc_app, ← spc_cons]; rfl
      rw [text_words ⟨h4, hk.2⟩, h1 t.kids (fun _ h => h), h2 t.arms (fun _ h => h), tokC_eq, if_neg (by omega), if_neg (by omega), if_neg (by omega), if_neg (by omega), join_more (headW_some ⟨h4, hk.2⟩), spc_app, List.append_assoc]
    · rw [textC_eq, tokC_eq]
      repeat' split
      all_goals first | omega | simp [joinW, Go.Lib.join]
/-- A token: not empty, no space in it. -/
def tokB (w : Str) : Bool := !decide (w = []) && w.all fun b => decide (¬ b = 32)
theorem letB_32 {b : UInt8} (h : letB b = true) : ¬ b = 32 := by rintro rfl; revert h; decide
theorem word_tok {w : Str} (h : wordB w = true) (hn : ¬ w = []) : tokB w = true := by
  unfold wordB at h; unfold tokB
  simp only [Bool.and_eq_true, List.all_eq_true] at h ⊢
  exact ⟨by simp [hn], fun b hb => decide_eq_true (letB_32 (h.1 b hb))⟩
theorem itoa_tok (n : Int) : tokB (itoa n) = true := by
  unfold tokB
  simp only [Bool.and_eq_true, List.all_eq_true]
  refine ⟨by simp [itoa_ne], fun b hb => decide_eq_true ?_⟩
  rintro rfl
  have h := itoa_byte hb
  have e : (32 : UInt8).toNat = 32 := rfl
  unfold digB at h
  omega
theorem prim_tok {s : Str} (h : 0 ≤ primN s) : tokB s = true := by
  unfold primN at h
  by_cases h1 : s = [43] ∨ s = [45] ∨ s = [42] ∨ s = [47] ∨ s = [60] ∨ s = [61] ∨ s = [58, 61]
  · rcases h1 with rfl | rfl | rfl | rfl | rfl | rfl | rfl <;> decide
  · rw [if_neg h1] at h
    by_cases h2 : s = [112, 114, 105, 110, 116] ∨ s = [114, 101, 102] ∨ s = [33]
    · rcases h2 with rfl | rfl | rfl <;> decide
    · rw [if_neg h2] at h
      by_cases h3 : s = [114, 101, 97, 100]
      · subst h3; decide
      · rw [if_neg h3] at h; omega
theorem joinW_inj : ∀ (a b : List Str), (∀ w ∈ a, tokB w = true) → (∀ w ∈ b, tokB w = true) → spc a = spc b → a = b
  | [], [], _, _, _ => rfl
  | [], y :: b, _, _, h => by rw [spc_cons] at h; cases h
  | x :: a, [], _, _, h => by rw [spc_cons] at h; cases h
  | x :: a, y :: b, ha, hb, h => by
    rw [spc_cons, spc_cons] at h
    simp only [List.cons_append, List.cons.injEq, true_and] at h
    have hx := ha x (.head _); have hy := hb y (.head _)
    unfold tokB at hx hy
    simp only [Bool.and_eq_true] at hx hy
    have hs : ∀ l : List Str, ∀ c ∈ (spc l).head?, (decide (¬ c = (32 : UInt8))) = false := by
      intro l c hc
      cases l with
      | nil => cases hc
      | cons w l => rw [spc_cons] at hc; simp at hc; subst hc; decide
    obtain ⟨h1, h2⟩ := span _ x y _ _ hx.2 hy.2 (hs a) (hs b) h
    rw [h1, joinW_inj a b (fun w hw => ha w (.tail _ hw)) (fun w hw => hb w (.tail _ hw)) h2]
theorem join_inj {a b : List Str} (hna : a ≠ []) (hnb : b ≠ []) (ha : ∀ w ∈ a, tokB w = true) (hb : ∀ w ∈ b, tokB w = true) (h : joinW a = joinW b) : a = b := by
  refine joinW_inj a b ha hb ?_
  cases a with
  | nil => exact absurd rfl hna
  | cons x a =>
    cases b with
    | nil => exact absurd rfl hnb
    | cons y b => rw [← spc_join, ← spc_join (x := y), h]
/-- What right code's fields may be. -/
structure Flds (t : Cd) : Prop where
  nm : (t.kind = 2 ∨ t.kind = 3 ∨ t.kind = 4 ∨ t.kind = 6 ∨ t.kind = 10 ∨ t.kind = 13 → t.name = []) ∧ (t.kind = 1 ∨ t.kind = 5 ∨ t.kind = 7 ∨ t.kind = 8 ∨ t.kind = 9 ∨ t.kind = 11 ∨ t.kind = 12 ∨ t.kind = 14 ∨ t.kind = 15 → ¬ t.name = [])
  pm : (¬ t.kind = 9 → t.param = []) ∧ (t.kind = 9 → ¬ t.param = [])
  nn : (¬ t.kind = 2 ∧ ¬ t.kind = 3 → t.n = 0) ∧ (t.kind = 3 → t.n = 0 ∨ t.n = 1)
  ar : ¬ t.kind = 13 ∧ ¬ t.kind = 15 → t.arms = []
  kd : (t.kind ≤ 4 → t.kids.length = 0) ∧ (t.kind = 5 ∨ t.kind = 13 ∨ t.kind = 14 ∨ t.kind = 15 → t.kids.length = 1) ∧ (6 ≤ t.kind ∧ t.kind ≤ 9 → t.kids.length = 2) ∧ (t.kind = 10 → t.kids.length = 3) ∧ (t.kind = 11 → (t.kids.length : Int) = primN t.name)
  at_ : atomsC t (fromC t.kind t.kids.length) = true
theorem flds {t : Cd} (h : rightC t = true) : Flds t := by
  have hk := right_kindT h
  rw [rightC_eq] at h
  simp only [Bool.and_eq_true] at h
  have hd := h.1.1.1
  clear h
  have hz : atomsC t 0 = true := by simp [atomsC]
  unfold headC at hd
  rcases (show t.kind = 1 ∨ t.kind = 2 ∨ t.kind = 3 ∨ t.kind = 4 ∨ t.kind = 5 ∨ t.kind = 6 ∨ t.kind = 7 ∨ t.kind = 8 ∨ t.kind = 9 ∨ t.kind = 10 ∨ t.kind = 11 ∨ t.kind = 12 ∨ t.kind = 13 ∨ t.kind = 14 ∨ t.kind = 15 by omega) with e | e | e | e | e | e | e | e | e | e | e | e | e | e | e
  all_goals
    simp [e] at hd
    refine ⟨?_, ?_, ?_, ?_, ?_, ?_⟩ <;> simp [e, fromC, hd, hz]
/-- Plain and right. -/
def OkC (t : Cd) : Prop := rightC t = true ∧ cleanC t = true
structure Cln (t : Cd) : Prop where
  nm : ¬ t.kind = 11 → wordB t.name = true
  pm : wordB t.param = true
  kd : ∀ u ∈ t.kids, OkC u
  ar : ∀ a ∈ t.arms, wordB a.name = true ∧ (∀ v ∈ a.vars, wordB v = true) ∧ OkC a.body
theorem cln {t : Cd} (h : OkC t) : Cln t := by
  obtain ⟨hr, hc⟩ := h
  obtain ⟨h1, h2⟩ := right_kids hr
  rw [cleanC_eq] at hc
  simp only [Bool.and_eq_true, Bool.or_eq_true, decide_eq_true_eq, List.all_eq_true] at hc
  refine ⟨fun hk => hc.1.1.1.resolve_left hk, hc.1.1.2, fun u hu => ⟨h1 u hu, hc.1.2 u hu⟩, fun a ha => ?_⟩
  have := hc.2 a ha
  unfold cleanA at this
  simp only [Bool.and_eq_true, List.all_eq_true] at this
  exact ⟨this.1.1, this.2, h2 a ha, this.1.2⟩
theorem ok_arm {t : Cd} (h : rightC t = true) : ∀ a ∈ t.arms, ¬ a.name = [] ∧ ∀ v ∈ a.vars, ¬ v = [] := by
  rw [rightC_eq] at h
  simp only [Bool.and_eq_true] at h
  have ha := h.1.1.2
  have key : ∀ (l : List Ca) (i : Nat), armsOk t.kind i l = true → ∀ a ∈ l, ¬ a.name = [] ∧ ∀ v ∈ a.vars, ¬ v = [] := by
    intro l
    induction l with
    | nil => intro _ _ a ha; cases ha
    | cons b l ih =>
      intro i h a ha
      rw [armsOk, Bool.and_eq_true] at h
      rcases List.mem_cons.1 ha with rfl | ha
      · have h1 := h.1
        unfold armOk nameOk at h1
        simp only [Bool.and_eq_true, Bool.not_eq_true', decide_eq_false_iff_not] at h1
        exact ⟨h1.1.2, fun v hv e => h1.1.1 (by rw [← e]; exact hv)⟩
      · exact ih (i + 1) h.2 a ha
  exact key t.arms 0 ha
theorem head_tok {t : Cd} (h : OkC t) : ∀ w ∈ headW t.kind t.name t.param, tokB w = true := by
  have hf := flds h.1
  have hc := cln h
  have hn : (t.kind = 1 ∨ t.kind = 5 ∨ t.kind = 7 ∨ t.kind = 8 ∨ t.kind = 9 ∨ t.kind = 11 ∨ t.kind = 12 ∨ t.kind = 14 ∨ t.kind = 15) → tokB t.name = true := fun hk => by
    by_cases h11 : t.kind = 11
    · exact prim_tok (by rw [← hf.kd.2.2.2.2 h11]; omega)
    · exact word_tok (hc.nm h11) (hf.nm.2 hk)
  have hp : t.kind = 9 → tokB t.param = true := fun hk => word_tok hc.pm (hf.pm.2 hk)
  intro w hw
  unfold headW at hw
  repeat' split at hw
  all_goals
    simp only [List.mem_cons, List.not_mem_nil, or_false] at hw
    try (rcases hw with rfl | rfl | rfl)
    try (rcases hw with rfl | rfl)
    try subst hw
    all_goals first | decide | exact hn (by omega) | exact hp (by omega)
theorem tok_toks (t : Cd) : OkC t → ∀ w ∈ tokC t, tokB w = true := by
  induction t using Cd.rec_ with
  | h t ihk iha =>
    intro h
    have hc := cln h
    have hf := flds h.1
    have hk := right_kindT h.1
    have hao := ok_arm h.1
    have h1 : ∀ (l : List Cd), (∀ u ∈ l, u ∈ t.kids) → ∀ fr i, ∀ w ∈ tokKs fr i l, tokB w = true := by
      intro l
      induction l with
      | nil => intro _ fr i w hw; rw [tokKs] at hw; cases hw
      | cons u l ih =>
        intro hl fr i w hw
        rw [tokKs_cons, List.mem_append] at hw
        rcases hw with hw | hw
        · have hu := ihk u (hl u (.head _)) (hc.kd u (hl u (.head _)))
          unfold kidT at hw
          split at hw
          · exact hu w hw
          · rcases List.mem_cons.1 hw with rfl | hw
            · decide
            · rcases List.mem_append.1 hw with hw | hw
              · exact hu w hw
              · rw [List.mem_singleton] at hw; subst hw; decide
        · exact ih (fun v hv => hl v (.tail _ hv)) fr (i + 1) w hw
    have h2 : ∀ (l : List Ca), (∀ a ∈ l, a ∈ t.arms) → ∀ w ∈ tokAs l, tokB w = true := by
      intro l
      induction l with
      | nil => intro _ w hw; rw [tokAs] at hw; cases hw
      | cons a l ih =>
        intro hl w hw
        have ha := hl a (.head _)
        obtain ⟨ha1, ha2, ha3⟩ := hc.ar a ha
        obtain ⟨hb1, hb2⟩ := hao a ha
        rw [tokAs_cons, List.mem_append] at hw
        rcases hw with hw | hw
        · unfold armT2 at hw
          rcases List.mem_cons.1 hw with rfl | hw
          · decide
          rcases List.mem_append.1 hw with hw | hw
          · split at hw
            · rw [List.mem_singleton] at hw; subst hw; decide
            · cases hw
          rcases List.mem_cons.1 hw with rfl | hw
          · exact word_tok ha1 hb1
          rcases List.mem_append.1 hw with hw | hw
          · exact word_tok (ha2 w hw) (hb2 w hw)
          rcases List.mem_cons.1 hw with rfl | hw
          · decide
          rcases List.mem_append.1 hw with hw | hw
          · exact iha a ha ha3 w hw
          · rw [List.mem_singleton] at hw; subst hw; decide
        · exact ih (fun v hv => hl v (.tail _ hv)) w hw
    intro w hw
    rw [tokC_eq] at hw
    split at hw
    · rename_i e; rw [List.mem_singleton] at hw; subst hw; exact word_tok (hc.nm (by omega)) (hf.nm.2 (by omega))
    split at hw
    · rw [List.mem_singleton] at hw; subst hw; exact itoa_tok _
    split at hw
    · rw [List.mem_singleton] at hw; subst hw; cases decide (t.n = 1) <;> decide
    split at hw
    · rw [List.mem_singleton] at hw; subst hw; decide
    rcases List.mem_append.1 hw with hw | hw
    · exact head_tok h w hw
    rcases List.mem_append.1 hw with hw | hw
    · exact h1 t.kids (fun _ h => h) _ _ w hw
    · exact h2 t.arms (fun _ h => h) w hw
/-- Of which kind is code that begins so? -/
def kindW (w : Str) : Int :=
  if w = [102, 117, 110] then 5 else if w = [99, 97, 108, 108] then 6 else if w = [108, 101, 116] then 7 else if w = [98, 105, 110, 100] then 8 else if w = [114, 101, 99] then 9 else if w = [105, 102] then 10 else if w = [111, 112] then 11
  else if w = [99, 111, 110] then 12 else if w = [109, 97, 116, 99, 104] then 13 else if w = [121, 105, 101, 108, 100] then 14 else if w = [112, 114, 111, 109, 112, 116] then 15 else if w = [117, 110, 105, 116] then 4 else if w = [116, 114, 117, 101] ∨ w = [102, 97, 108, 115, 101] then 3
  else if w.all letB = true then 1 else 2
theorem kindW_word {s : Str} (h : wordB s = true) : kindW s = 1 := by
  unfold wordB at h
  simp only [Bool.and_eq_true, Bool.not_eq_true', decide_eq_false_iff_not] at h
  have hr := h.2
  simp only [resv, List.mem_cons, List.not_mem_nil, or_false, not_or] at hr
  unfold kindW
  simp [hr, h.1]
theorem kindW_itoa (n : Int) : kindW (itoa n) = 2 := by
  have hb : ¬ (itoa n).all letB = true := by
    intro h
    cases e : itoa n with
    | nil => exact itoa_ne n e
    | cons b l =>
      rw [e] at h
      simp only [List.all_cons, Bool.and_eq_true] at h
      have h1 := h.1
      have h2 := itoa_byte (n := n) (b := b) (by rw [e]; exact .head _)
      unfold letB at h1
      simp only [Bool.or_eq_true, Bool.and_eq_true, decide_eq_true_eq] at h1
      unfold digB at h2
      omega
  have hne : ∀ w : Str, w.all letB = true → ¬ itoa n = w := fun w hw e => hb (by rw [e]; exact hw)
  unfold kindW
  rw [if_neg (hne _ (by decide)), if_neg (hne _ (by decide)), if_neg (hne _ (by decide)), if_neg (hne _ (by decide)), if_neg (hne _ (by decide)), if_neg (hne _ (by decide)), if_neg (hne _ (by decide)), if_neg (hne _ (by decide)), if_neg (hne _ (by decide)), if_neg (hne _ (by decide)), if_neg (hne _ (by decide)), if_neg (hne _ (by decide)),
    if_neg (fun h => h.elim (hne _ (by decide)) (hne _ (by decide))), if_neg hb]
/-- The first token tells the kind. -/
theorem tok_kind {t : Cd} (h : OkC t) : ∃ w l, tokC t = w :: l ∧ kindW w = t.kind ∧ ¬ w = lbS ∧ ¬ w = rbS ∧ ¬ w = barS := by
  have hf := flds h.1
  have hc := cln h
  have hk := right_kindT h.1
  have hw : ∀ {w : Str}, w.all letB = true → ¬ w = lbS ∧ ¬ w = rbS ∧ ¬ w = barS := fun hw => ⟨by rintro rfl; revert hw; decide, by rintro rfl; revert hw; decide, by rintro rfl; revert hw; decide⟩
  have hi : ∀ {b : UInt8}, (¬ b.toNat = 45 ∧ (b.toNat < 48 ∨ 57 < b.toNat)) → ¬ itoa t.n = [b] := fun {b} hb e => by
    have := itoa_byte (n := t.n) (b := b) (by rw [e]; exact .head _)
    unfold digB at this
    omega
  rw [tokC_eq]
  rcases (show t.kind = 1 ∨ t.kind = 2 ∨ t.kind = 3 ∨ t.kind = 4 ∨ t.kind = 5 ∨ t.kind = 6 ∨ t.kind = 7 ∨ t.kind = 8 ∨ t.kind = 9 ∨ t.kind = 10 ∨ t.kind = 11 ∨ t.kind = 12 ∨ t.kind = 13 ∨ t.kind = 14 ∨ t.kind = 15 by omega) with e | e | e | e | e | e | e | e | e | e | e | e | e | e | e
  · have hwn := hc.nm (by omega)
    refine ⟨_, _, by rw [if_pos e], by rw [e]; exact kindW_word hwn, hw ?_⟩
    unfold wordB at hwn; simp only [Bool.and_eq_true] at hwn; exact hwn.1
  · exact ⟨_, _, by rw [if_neg (by omega), if_pos e], by rw [e]; exact kindW_itoa _, hi (by decide), hi (by decide), hi (by decide)⟩
  · refine ⟨_, _, by rw [if_neg (by omega), if_neg (by omega), if_pos e], ?_, ?_⟩
    · rw [e]; cases decide (t.n = 1) <;> rfl
    · cases decide (t.n = 1) <;> decide
  · exact ⟨_, _, by rw [if_neg (by omega), if_neg (by omega), if_neg (by omega), if_pos e], by rw [e]; decide, by decide⟩
  all_goals
    refine ⟨_, _, by rw [if_neg (by omega), if_neg (by omega), if_neg (by omega), if_neg (by omega)]; unfold headW; simp only [e]; rfl, by rw [e]; decide, by decide⟩
theorem lead_inj {t u : Cd} {r r' : List Str} (ht : OkC t) (hu : OkC u) (h : tokC t ++ r = tokC u ++ r') : t.kind = u.kind := by
  obtain ⟨w, l, e, hk, -⟩ := tok_kind ht
  obtain ⟨w', l', e', hk', -⟩ := tok_kind hu
  rw [e, e'] at h
  injection h with h1 _
  rw [← hk, ← hk', h1]
theorem atom_inj {t u : Cd} {r r' : List Str} (ht : OkC t) (hu : OkC u) (h4 : t.kind ≤ 4) (h : tokC t ++ r = tokC u ++ r') : t = u ∧ r = r' := by
  have hk := lead_inj ht hu h
  have hf := flds ht.1; have hg := flds hu.1
  have hr := right_kindT ht.1
  have h1 : t.kids = [] := List.eq_nil_of_length_eq_zero (hf.kd.1 h4)
  have h2 : u.kids = [] := List.eq_nil_of_length_eq_zero (hg.kd.1 (by omega))
  have h3 := hf.ar (by omega); have h5 := hg.ar (by omega)
  have h6 := hf.pm.1 (by omega); have h7 := hg.pm.1 (by omega)
  rw [t.eta, u.eta, h1, h2, h3, h5, h6, h7]
  rw [tokC_eq, tokC_eq u, ← hk] at h
  rcases (show t.kind = 1 ∨ t.kind = 2 ∨ t.kind = 3 ∨ t.kind = 4 by omega) with e | e | e | e
  · rw [if_pos e, if_pos e] at h
    injection h with h8 h9
    exact ⟨by rw [h8, hk, hf.nn.1 (by omega), hg.nn.1 (by omega)], h9⟩
  · rw [if_neg (by omega), if_pos e, if_neg (by omega), if_pos e] at h
    injection h with h8 h9
    exact ⟨by rw [itoa_inj h8, hk, hf.nm.1 (by omega), hg.nm.1 (by omega)], h9⟩
  · rw [if_neg (by omega), if_neg (by omega), if_pos e, if_neg (by omega), if_neg (by omega), if_pos e] at h
    injection h with h8 h9
    have hn : t.n = u.n := by
      rcases hf.nn.2 e with a | a <;> rcases hg.nn.2 (by omega) with b | b <;> rw [a, b] at h8 ⊢ <;> exact absurd h8 (by decide)
    exact ⟨by rw [hn, hk, hf.nm.1 (by omega), hg.nm.1 (by omega)], h9⟩
  · rw [if_neg (by omega), if_neg (by omega), if_neg (by omega), if_pos e, if_neg (by omega), if_neg (by omega), if_neg (by omega), if_pos e] at h
    injection h with h8 h9
    exact ⟨by rw [hk, hf.nm.1 (by omega), hg.nm.1 (by omega), hf.nn.1 (by omega), hg.nn.1 (by omega)], h9⟩
/-- What may stand behind code: nothing, or a brace. -/
def Fol (r : List Str) : Prop := r = [] ∨ ∃ q, r = rbS :: q
def TInj (t : Cd) : Prop := ∀ u r r', OkC t → OkC u → Fol r → Fol r' → tokC t ++ r = tokC u ++ r' → t = u ∧ r = r'
theorem kid_inj {t u : Cd} {fr i : Nat} {r r' : List Str} (hT : TInj t) (ht : OkC t) (hu : OkC u) (ha : i < fr → t.kind ≤ 5 ∧ u.kind ≤ 5) (h : kidT fr i t ++ r = kidT fr i u ++ r') : t = u ∧ r = r' := by
  have hb : ∀ {x y : List Str}, (lbS :: (x ++ [rbS])) ++ r = (lbS :: (y ++ [rbS])) ++ r' → x ++ (rbS :: r) = y ++ (rbS :: r') := fun h => by simpa using h
  unfold kidT at h
  by_cases h1 : i < fr ∧ ¬ t.kind = 5
  · rw [if_pos h1] at h
    by_cases h2 : i < fr ∧ ¬ u.kind = 5
    · rw [if_pos h2] at h
      exact atom_inj ht hu (by have := (ha h1.1).1; omega) h
    · rw [if_neg h2] at h
      obtain ⟨w, l, e, _, hl, _⟩ := tok_kind ht
      rw [e] at h; injection h with h3 _; exact absurd h3 hl
  · rw [if_neg h1] at h
    by_cases h2 : i < fr ∧ ¬ u.kind = 5
    · rw [if_pos h2] at h
      obtain ⟨w, l, e, _, hl, _⟩ := tok_kind hu
      rw [e] at h; injection h with h3 _; exact absurd h3.symm hl
    · rw [if_neg h2] at h
      obtain ⟨h3, h4⟩ := hT u _ _ ht hu (.inr ⟨r, rfl⟩) (.inr ⟨r', rfl⟩) (hb h)
      injection h4 with _ h5
      exact ⟨h3, h5⟩
theorem kids_inj {fr : Nat} : ∀ (ks us : List Cd) (i : Nat) (r r' : List Str), ks.length = us.length → (∀ t ∈ ks, TInj t ∧ OkC t) → (∀ u ∈ us, OkC u) → (∀ j, (hj : j < ks.length) → (hj2 : j < us.length) → i + j < fr → ks[j].kind ≤ 5 ∧ us[j].kind ≤ 5) →
    tokKs fr i ks ++ r = tokKs fr i us ++ r' → ks = us ∧ r = r'
  | [], [], i, r, r', _, _, _, _, h => by rw [tokKs] at h; exact ⟨rfl, by simpa using h⟩
  | [], _ :: _, _, _, _, hl, _, _, _, _ => by simp at hl
  | _ :: _, [], _, _, _, hl, _, _, _, _ => by simp at hl
  | t :: ks, u :: us, i, r, r', hl, hk, hu, ha, h => by
    rw [tokKs_cons, tokKs_cons, List.append_assoc, List.append_assoc] at h
    obtain ⟨h1, h2⟩ := kid_inj (hk t (.head _)).1 (hk t (.head _)).2 (hu u (.head _)) (fun hi => ha 0 (by simp) (by simp) (by simpa using hi)) h
    obtain ⟨h3, h4⟩ := kids_inj ks us (i + 1) r r' (by simpa using hl) (fun t ht => hk t (.tail _ ht)) (fun u hu' => hu u (.tail _ hu')) (fun j hj hj2 hi => by
      have := ha (j + 1) (by simpa using hj) (by simpa using hj2) (by omega)
      simpa using this) h2
    exact ⟨by rw [h1, h3], h4⟩
theorem kid_lead {t : Cd} (fr i : Nat) (h : OkC t) : ∃ w l, kidT fr i t = w :: l ∧ ¬ w = rbS ∧ ¬ w = barS := by
  unfold kidT
  split
  · obtain ⟨w, l, e, _, _, h2, h3⟩ := tok_kind h
    exact ⟨w, l, e, h2, h3⟩
  · exact ⟨_, _, rfl, by decide, by decide⟩
/-- Any number of atoms, behind which nothing more of the kind comes. -/
theorem many_inj : ∀ (ks us : List Cd) (r r' : List Str), Fol r → Fol r' → (∀ t ∈ ks, TInj t ∧ OkC t ∧ t.kind ≤ 5) → (∀ u ∈ us, OkC u ∧ u.kind ≤ 5) → ks.flatMap (kidT 1 0) ++ r = us.flatMap (kidT 1 0) ++ r' → ks = us ∧ r = r'
  | [], [], r, r', _, _, _, _, h => ⟨rfl, by simpa using h⟩
  | [], u :: us, r, r', hr, _, _, hu, h => by
    exfalso
    obtain ⟨w, l, e, h2, _⟩ := kid_lead 1 0 (hu u (.head _)).1
    rw [List.flatMap_cons, e] at h
    rcases hr with rfl | ⟨q, rfl⟩
    · simp at h
    · simp only [List.flatMap_nil, List.nil_append, List.cons_append, List.cons.injEq] at h
      exact h2 h.1.symm
  | t :: ks, [], r, r', _, hr, hk, _, h => by
    exfalso
    obtain ⟨w, l, e, h2, _⟩ := kid_lead 1 0 (hk t (.head _)).2.1
    rw [List.flatMap_cons, e] at h
    rcases hr with rfl | ⟨q, rfl⟩
    · simp at h
    · simp only [List.flatMap_nil, List.nil_append, List.cons_append, List.cons.injEq] at h
      exact h2 h.1
  | t :: ks, u :: us, r, r', hr, hr', hk, hu, h => by
    rw [List.flatMap_cons, List.flatMap_cons, List.append_assoc, List.append_assoc] at h
    obtain ⟨h1, h2⟩ := kid_inj (hk t (.head _)).1 (hk t (.head _)).2.1 (hu u (.head _)).1 (fun _ => ⟨(hk t (.head _)).2.2, (hu u (.head _)).2⟩) h
    obtain ⟨h3, h4⟩ := many_inj ks us r r' hr hr' (fun t ht => hk t (.tail _ ht)) (fun u hu' => hu u (.tail _ hu')) h2
    exact ⟨by rw [h1, h3], h4⟩
theorem toks_many : ∀ (ks : List Cd) (fr i : Nat), i + ks.length ≤ fr → tokKs fr i ks = ks.flatMap (kidT 1 0)
  | [], _, _, _ => by rw [tokKs]; rfl
  | t :: ks, fr, i, h => by
    rw [List.length_cons] at h
    rw [tokKs_cons, toks_many ks fr (i + 1) (by omega), List.flatMap_cons]
    congr 1
    unfold kidT
    by_cases h5 : t.kind = 5
    · rw [if_neg (fun h => h.2 h5), if_neg (fun h => h.2 h5)]
    · rw [if_pos ⟨by omega, h5⟩, if_pos ⟨by omega, h5⟩]
theorem word_lb {w : Str} (h : wordB w = true) : ¬ w = lbS := by rintro rfl; revert h; decide
theorem vars_inj : ∀ (l k : List Str) (x y : List Str), (∀ v ∈ l, wordB v = true) → (∀ v ∈ k, wordB v = true) → l ++ lbS :: x = k ++ lbS :: y → l = k ∧ x = y
  | [], [], x, y, _, _, h => by injection h with _ h; exact ⟨rfl, h⟩
  | [], v :: k, x, y, _, hk, h => by injection h with h1 _; exact absurd h1.symm (word_lb (hk v (.head _)))
  | v :: l, [], x, y, hl, _, h => by injection h with h1 _; exact absurd h1 (word_lb (hl v (.head _)))
  | v :: l, w :: k, x, y, hl, hk, h => by
    simp only [List.cons_append, List.cons.injEq] at h
    obtain ⟨h1, h2⟩ := vars_inj l k x y (fun v hv => hl v (.tail _ hv)) (fun v hv => hk v (.tail _ hv)) h.2
    exact ⟨by rw [h.1, h1], h2⟩
def OkA (a : Ca) : Prop := wordB a.name = true ∧ (∀ v ∈ a.vars, wordB v = true) ∧ OkC a.body
theorem word_tail : ¬ wordB tailS = true := by decide
theorem arm_inj {a b : Ca} {r r' : List Str} (hT : TInj a.body) (ha : OkA a) (hb : OkA b) (h : armT2 a ++ r = armT2 b ++ r') : a = b ∧ r = r' := by
  obtain ⟨ha1, ha2, ha3⟩ := ha
  obtain ⟨hb1, hb2, hb3⟩ := hb
  obtain ⟨s, l, tl, t⟩ := a
  obtain ⟨s', l', tl', u⟩ := b
  simp only [Ca.name, Ca.vars, Ca.body] at ha1 ha2 ha3 hb1 hb2 hb3 hT
  unfold armT2 at h
  simp only [Ca.name, Ca.vars, Ca.body, Ca.tail, List.cons_append, List.cons.injEq, true_and] at h
  have key : s :: (l ++ lbS :: (tokC t ++ [rbS])) ++ r = s' :: (l' ++ lbS :: (tokC u ++ [rbS])) ++ r' → (⟨s, l, tl, t⟩ : Ca) = ⟨s', l', tl, u⟩ ∧ r = r' := fun h => by
    simp only [List.cons_append, List.cons.injEq, List.append_assoc] at h
    obtain ⟨h1, h2⟩ := h
    obtain ⟨h3, h4⟩ := vars_inj l l' _ _ ha2 hb2 h2
    obtain ⟨h5, h6⟩ := hT u _ _ ha3 hb3 (.inr ⟨r, rfl⟩) (.inr ⟨r', rfl⟩) (by simpa using h4)
    injection h6 with _ h7
    exact ⟨by rw [h1, h3, h5], h7⟩
  cases tl <;> cases tl'
  · exact key (by simpa using h)
  · exfalso
    simp at h
    exact word_tail (h.1 ▸ ha1)
  · exfalso
    simp at h
    exact word_tail (h.1 ▸ hb1)
  · exact key (by simpa using h)
theorem arms_inj : ∀ (az bz : List Ca) (r r' : List Str), Fol r → Fol r' → (∀ a ∈ az, TInj a.body ∧ OkA a) → (∀ b ∈ bz, OkA b) → tokAs az ++ r = tokAs bz ++ r' → az = bz ∧ r = r'
  | [], [], r, r', _, _, _, _, h => by rw [tokAs] at h; exact ⟨rfl, by simpa using h⟩
  | [], b :: bz, r, r', hr, _, _, _, h => by
    exfalso
    rw [tokAs, tokAs_cons] at h
    unfold armT2 at h
    rcases hr with rfl | ⟨q, rfl⟩
    · simp at h
    · simp only [List.nil_append, List.cons_append, List.cons.injEq] at h
      exact absurd h.1 (by decide)
  | a :: az, [], r, r', _, hr, _, _, h => by
    exfalso
    rw [tokAs, tokAs_cons] at h
    unfold armT2 at h
    rcases hr with rfl | ⟨q, rfl⟩
    · simp at h
    · simp only [List.nil_append, List.cons_append, List.cons.injEq] at h
      exact absurd h.1 (by decide)
  | a :: az, b :: bz, r, r', hr, hr', ha, hb, h => by
    rw [tokAs_cons, tokAs_cons, List.append_assoc, List.append_assoc] at h
    obtain ⟨h1, h2⟩ := arm_inj (ha a (.head _)).1 (ha a (.head _)).2 (hb b (.head _)) h
    obtain ⟨h3, h4⟩ := arms_inj az bz r r' hr hr' (fun a h => ha a (.tail _ h)) (fun b h => hb b (.tail _ h)) h2
    exact ⟨by rw [h1, h3], h4⟩
theorem head_split {k : Int} {s p s' p' : Str} {x y : List Str} (hk : 4 < k ∧ k ≤ 15) (h : headW k s p ++ x = headW k s' p' ++ y) : x = y ∧ ((k = 5 ∨ k = 7 ∨ k = 8 ∨ k = 9 ∨ k = 11 ∨ k = 12 ∨ k = 14 ∨ k = 15) → s = s') ∧ (k = 9 → p = p') := by
  rcases (show k = 5 ∨ k = 6 ∨ k = 7 ∨ k = 8 ∨ k = 9 ∨ k = 10 ∨ k = 11 ∨ k = 12 ∨ k = 13 ∨ k = 14 ∨ k = 15 by omega) with e | e | e | e | e | e | e | e | e | e | e
  all_goals
    subst e
    simp [headW] at h
    simp [h]
theorem atoms_at {t : Cd} {n : Nat} (h : atomsC t n = true) {j : Nat} (hj : j < t.kids.length) (hn : j < n) : t.kids[j].kind ≤ 5 := by
  unfold atomsC at h
  rw [List.all_eq_true] at h
  have := h t.kids[j] (by
    refine List.mem_of_getElem? (i := j) ?_
    rw [List.getElem?_take_of_lt hn, List.getElem?_eq_getElem hj])
  unfold atomC at this
  simp only [Bool.and_eq_true, decide_eq_true_eq] at this
  exact this.2
theorem tinj (t : Cd) : TInj t := by
  induction t using Cd.rec_ with
  | h t ihk iha =>
    intro u r r' ht hu hr hr' h
    have hk := lead_inj ht hu h
    by_cases h4 : t.kind ≤ 4
    · exact atom_inj ht hu h4 h
    have hf := flds ht.1; have hg := flds hu.1
    have hc := cln ht; have hd := cln hu
    have hr15 := right_kindT ht.1
    rw [tokC_eq, tokC_eq u, if_neg (by omega), if_neg (by omega), if_neg (by omega), if_neg (by omega), if_neg (by omega), if_neg (by omega), if_neg (by omega), if_neg (by omega), ← hk] at h
    simp only [List.append_assoc] at h
    obtain ⟨h1, hs, hp⟩ := head_split ⟨by omega, hr15.2⟩ h
    have hnm : t.name = u.name := by
      by_cases e : t.kind = 6 ∨ t.kind = 10 ∨ t.kind = 13
      · rw [hf.nm.1 (by omega), hg.nm.1 (by omega)]
      · exact hs (by omega)
    have hpm : t.param = u.param := by
      by_cases e : t.kind = 9
      · exact hp e
      · rw [hf.pm.1 e, hg.pm.1 (by omega)]
    have hnn : t.n = u.n := by rw [hf.nn.1 (by omega), hg.nn.1 (by omega)]
    have hb : t.kids = u.kids ∧ tokAs t.arms ++ r = tokAs u.arms ++ r' := by
      by_cases e : t.kind = 12
      · have h7 := hf.ar (by omega); have h8 := hg.ar (by omega)
        have e1 : fromC t.kind t.kids.length = t.kids.length := by rw [e]; rfl
        have e2 : fromC t.kind u.kids.length = u.kids.length := by rw [e]; rfl
        have ha1 := hf.at_; have ha2 := hg.at_
        rw [e1] at ha1 h1; rw [← hk, e2] at ha2; rw [e2] at h1
        rw [toks_many t.kids _ 0 (by omega), toks_many u.kids _ 0 (by omega), h7, h8, tokAs, List.nil_append, List.nil_append] at h1
        rw [h7, h8, tokAs, List.nil_append, List.nil_append]
        refine many_inj t.kids u.kids r r' hr hr' (fun x hx => ⟨ihk x hx, hc.kd x hx, ?_⟩) (fun x hx => ⟨hd.kd x hx, ?_⟩) h1
        · obtain ⟨j, hj, rfl⟩ := List.mem_iff_getElem.1 hx
          exact atoms_at ha1 hj hj
        · obtain ⟨j, hj, rfl⟩ := List.mem_iff_getElem.1 hx
          exact atoms_at ha2 hj hj
      · have hl : t.kids.length = u.kids.length := by
          have a1 := hf.kd; have a2 := hg.kd
          rw [← hk, ← hnm] at a2
          by_cases c1 : t.kind = 11
          · have b1 := a1.2.2.2.2 c1; have b2 := a2.2.2.2.2 c1; omega
          by_cases c2 : t.kind = 10
          · rw [a1.2.2.2.1 c2, a2.2.2.2.1 c2]
          by_cases c3 : 6 ≤ t.kind ∧ t.kind ≤ 9
          · rw [a1.2.2.1 c3, a2.2.2.1 c3]
          · rw [a1.2.1 (by omega), a2.2.1 (by omega)]
        have ha2 := hg.at_
        rw [← hk, ← hl] at ha2
        rw [← hl] at h1
        exact kids_inj t.kids u.kids 0 _ _ hl (fun x hx => ⟨ihk x hx, hc.kd x hx⟩) (fun x hx => hd.kd x hx) (fun j hj hj2 hi => ⟨atoms_at hf.at_ hj (by omega), atoms_at ha2 hj2 (by omega)⟩) h1
    obtain ⟨hkk, h2⟩ := hb
    obtain ⟨haa, h3⟩ := arms_inj t.arms u.arms r r' hr hr' (fun a ha => ⟨iha a ha, hc.ar a ha⟩) (fun a ha => hd.ar a ha) h2
    exact ⟨by rw [t.eta, u.eta, hk, hnm, hpm, hnn, hkk, haa], h3⟩
/-- Unlike codes have unlike texts. -/
theorem text_inj {t u : Cd} (ht : OkC t) (hu : OkC u) (h : textC t = textC u) : t = u := by
  rw [text_tok t ht.1, text_tok u hu.1] at h
  obtain ⟨x, l, e⟩ := tok_ne ht.1
  obtain ⟨y, k, e'⟩ := tok_ne hu.1
  have h1 := join_inj (by rw [e]; simp) (by rw [e']; simp) (tok_toks t ht) (tok_toks u hu) h
  exact (tinj t u [] [] ht hu (.inl rfl) (.inl rfl) (by rw [h1])).1
end Go.Proofs.YtlihpgjabohebaaDoor
