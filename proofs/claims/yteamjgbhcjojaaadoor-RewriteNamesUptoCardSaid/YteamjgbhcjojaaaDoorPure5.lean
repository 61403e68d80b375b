/-
  Renaming, the plain laws: terms whose names are apart. Conditions: those of each theorem.
-/
import Derived.Test.YteamjgbhcjojaaaDoorPure4
namespace Go.Proofs.YteamjgbhcjojaaaDoor
set_option linter.all false
set_option maxRecDepth 4000
open Go.RowKit
theorem nextN_nodup : ∀ (l : List Str) (n : Nat), (nextN n l).Nodup
  | [], _ => List.nodup_nil
  | x :: l, n => by
    rw [nextN]
    refine List.nodup_cons.2 ⟨fun h => ?_, nextN_nodup l (n + 1)⟩
    obtain ⟨y, k, e, h1, _⟩ := next_new l (n + 1) _ h
    have := (num_inj e).2
    omega
theorem name_noQ {t : Tm} (s : Str) : quotesM t = false → s ∈ nameT t → noQ s := by
  induction t using Tm.rec_ with
  | h t ihk iha =>
    intro hq
    rw [quotesM_eq] at hq
    simp only [Bool.or_eq_false_iff] at hq
    obtain ⟨⟨⟨hn, hp⟩, hks⟩, has⟩ := hq
    have hk : ∀ (l : List Tm), (∀ u ∈ l, u ∈ t.kids) → quotesKs l = false → ∀ a, (∀ x ∈ a, x = s → noQ s) → ∀ x ∈ nameKs a l, x = s → noQ s := by
      intro l
      induction l with
      | nil => intro _ _ a h; rw [nameKs]; exact h
      | cons u l ih =>
        intro hl hq a h
        rw [quotesKs, Bool.or_eq_false_iff] at hq
        rw [nameKs]
        refine ih (fun u hu => hl u (.tail _ hu)) hq.2 _ fun x hx e => ?_
        rcases (joinM_mem _ _ _).1 hx with hx | hx
        · exact h x hx e
        · subst e; exact ihk u (hl u (.head _)) hq.1 hx
    have ha : ∀ (l : List Ar), (∀ u ∈ l, u ∈ t.arms) → quotesAs l = false → ∀ a, (∀ x ∈ a, x = s → noQ s) → ∀ x ∈ nameAs a l, x = s → noQ s := by
      intro l
      induction l with
      | nil => intro _ _ a h; rw [nameAs]; exact h
      | cons u l ih =>
        intro hl hq a h
        rw [quotesAs_cons, Bool.or_eq_false_iff, Bool.or_eq_false_iff] at hq
        rw [nameAs_cons]
        refine ih (fun u hu => hl u (.tail _ hu)) hq.2 _ fun x hx e => ?_
        rcases (joinM_mem _ _ _).1 hx with hx | hx
        · exact h x hx e
        · subst e; exact iha u (hl u (.head _)) hq.1.1 hx
    rw [nameT_eq]
    split
    · intro h; rw [List.mem_singleton] at h; subst h; unfold quoteM at hn; exact of_decide_eq_false hn
    · intro h; exact ha _ (fun _ h => h) has _ (hk _ (fun _ h => h) hks [] (fun x hx => nomatch hx)) s h rfl
theorem ok_noQ {t : Tm} : ∀ (l : List Str), quotesM t = false → OkT t l := by
  induction t using Tm.rec_ with
  | h t ihk iha =>
    intro l hq
    rw [quotesM_eq] at hq
    simp only [Bool.or_eq_false_iff] at hq
    obtain ⟨⟨⟨hn, hp⟩, hks⟩, has⟩ := hq
    have hk : ∀ (l : List Tm), quotesKs l = false → ∀ u ∈ l, quotesM u = false := by
      intro l
      induction l with
      | nil => intro _ u hu; cases hu
      | cons v l ih => intro h u hu; rw [quotesKs, Bool.or_eq_false_iff] at h; cases hu with
        | head => exact h.1
        | tail _ hu => exact ih h.2 u hu
    have ha : ∀ (l : List Ar), quotesAs l = false → ∀ u ∈ l, quotesM u.body = false := by
      intro l
      induction l with
      | nil => intro _ u hu; cases hu
      | cons v l ih => intro h u hu; rw [quotesAs_cons, Bool.or_eq_false_iff, Bool.or_eq_false_iff] at h; cases hu with
        | head => exact h.1.1
        | tail _ hu => exact ih h.2 u hu
    refine .mk (fun _ _ => ?_) (fun i u hu => ?_) (fun a h => ?_)
    · unfold quoteM at hn; exact of_decide_eq_false hn
    · have hm := List.mem_of_getElem? hu; exact ihk u hm _ (hk _ hks u hm)
    · exact iha a h _ (ha _ has a h)
/-- What Apart answers. -/
def apartM (t : Tm) : Tm := (renT t [] 0).1
theorem apart_once {t : Tm} : bndT (apartM t) = nextN 0 (bndT t) := (bnd_ren t [] 0).2
theorem apart_nodup {t : Tm} : (bndT (apartM t)).Nodup := by rw [apart_once]; exact nextN_nodup _ _
theorem apart_len {t : Tm} : (bndT (apartM t)).length = (bndT t).length := by rw [apart_once, nextN_len]
theorem free_noQ {t : Tm} (hq : quotesM t = false) {s : Str} (h : s ∈ freeT t) : noQ s := name_noQ s hq ((uses_name s t) ((freeT_mem t s).1 h))
theorem bnd_apart_q {t : Tm} {s : Str} (h : s ∈ bndT (apartM t)) : ¬ noQ s := by
  rw [apart_once] at h
  obtain ⟨x, k, rfl, h1, h2⟩ := next_new _ _ _ h
  exact New.quote (n := k) ⟨x, k, rfl, by omega, Nat.le_refl _⟩
theorem apart_main {t : Tm} (hs : ShT t) (ho : OkT t []) : skT (apartM t) [] = skT t [] ∧ OkT (apartM t) [] ∧ ShT (apartM t) := (ren_main t hs ho Ivn.nil).2
/-- RewriteAlike, without the program. -/
theorem alike_law {t : Tm} (hs : ShT t) (hq : quotesM t = false) :
    alikeT t [] [] (apartM t) = true ∧ alikeT (apartM t) [] [] t = true ∧ alikeT (apartM t) [] [] (apartM (apartM t)) = true ∧ alikeT t [] [] t = true ∧ freeT (apartM t) = freeT t := by
  obtain ⟨h1, h2, h3⟩ := apart_main hs (ok_noQ [] hq)
  obtain ⟨g1, _, _⟩ := apart_main h3 h2
  exact ⟨(alike_dec _ _).2 h1.symm, (alike_dec _ _).2 h1, (alike_dec _ _).2 g1.symm, (alike_dec _ _).2 rfl, free_alike h3 hs h1⟩
/-- RewriteOnce, without the program. -/
theorem once_law {t : Tm} (hs : ShT t) (hq : quotesM t = false) :
    (bndT (apartM t)).Nodup ∧ (∀ s ∈ bndT (apartM t), ¬ s ∈ freeT (apartM t)) ∧ (bndT (apartM t)).length = (bndT t).length := by
  obtain ⟨h1, _, h3⟩ := apart_main hs (ok_noQ [] hq)
  refine ⟨apart_nodup, fun s h hf => ?_, apart_len⟩
  rw [free_alike h3 hs h1] at hf
  exact bnd_apart_q h (free_noQ hq hf)
mutual
def cntSk : Sk → Nat
  | ⟨_, _, _, _, ks, az⟩ => 1 + cntSkKs ks + cntSkAs az
def cntSkKs : List Sk → Nat
  | [] => 0
  | t :: ts => cntSk t + cntSkKs ts
def cntSkAs : List SkA → Nat
  | [] => 0
  | ⟨_, _, b⟩ :: ts => cntSk b + cntSkAs ts
end
theorem cnt_sk (t : Tm) : ∀ l, cntSk (skT t l) = countM t := by
  induction t using Tm.rec_ with
  | h t ihk iha =>
    intro l
    have hk : ∀ (ts : List Tm), (∀ u ∈ ts, u ∈ t.kids) → ∀ (f : Nat → List Str) (i : Nat), cntSkKs (skKs f i l ts) = countKs ts := by
      intro ts
      induction ts with
      | nil => intro _ f i; simp [skKs, cntSkKs, countKs]
      | cons u ts ih => intro hm f i; rw [skKs, cntSkKs, countKs, ihk u (hm u (.head _)), ih fun v hv => hm v (.tail _ hv)]
    have ha : ∀ (ts : List Ar), (∀ u ∈ ts, u ∈ t.arms) → cntSkAs (skAs l ts) = countAs ts := by
      intro ts
      induction ts with
      | nil => intro _; simp [skAs, cntSkAs, countAs]
      | cons u ts ih =>
        intro hm
        have h1 := iha u (hm u (.head _)); have h2 := ih fun v hv => hm v (.tail _ hv)
        obtain ⟨nm, vs, b⟩ := u
        rw [skAs, cntSkAs, countAs, h2]
        simp only [Ar.body] at h1
        rw [h1]
    rw [skT_eq, cntSk, countM_eq, hk _ (fun _ h => h), ha _ fun _ h => h]
/-- RewriteEqual, without the program. -/
theorem equal_law {a b c : Tm} (ha : ShT a) (hb : ShT b) :
    alikeT a [] [] a = true ∧ (alikeT a [] [] b = alikeT b [] [] a) ∧ (alikeT a [] [] b = true → alikeT b [] [] c = true → alikeT a [] [] c = true) ∧ (alikeT a [] [] b = true → freeT a = freeT b ∧ countM a = countM b) := by
  refine ⟨(alike_dec _ _).2 rfl, ?_, fun h1 h2 => (alike_dec _ _).2 (((alike_dec _ _).1 h1).trans ((alike_dec _ _).1 h2)), fun h => ⟨free_alike ha hb ((alike_dec _ _).1 h), by rw [← cnt_sk a [], ← cnt_sk b [], (alike_dec _ _).1 h]⟩⟩
  rw [Bool.eq_iff_iff, alike_dec, alike_dec]
  exact eq_comm

end Go.Proofs.YteamjgbhcjojaaaDoor
