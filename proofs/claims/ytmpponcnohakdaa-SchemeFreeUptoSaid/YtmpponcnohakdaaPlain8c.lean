/-
  Package scheme: the matcher goes through types. Conditions: those of each theorem.
-/
import Derived.Test.YtmpponcnohakdaaPlain8a
namespace Go.Proofs.Ytmpponcnohakdaa
set_option linter.all false
set_option maxRecDepth 4000
open Go.RowKit
-- what is free stays
theorem lessI_nil (l : List Int) : lessI l [] = l := by unfold lessI; simp
theorem lessI_self (l : List Int) : lessI l l = [] := by unfold lessI; rw [List.filter_eq_nil_iff]; intro x hx; simp [hx]
theorem freeI_bare (t : Ty) : freeI ⟨[], [], t⟩ = varsT t := by unfold freeI; rw [lessI_nil, lessI_nil]
theorem lessI_lessI (l a b : List Int) : lessI (lessI l a) b = l.filter fun x => !decide (x ∈ a) && !decide (x ∈ b) := by unfold lessI; rw [List.filter_filter]; congr 1; funext x; rw [Bool.and_comm]
theorem genI_filter : ∀ (env : List Sch) (p : List Int × List Int), genI env p = (p.1.filter fun x => !env.any fun e => decide (x ∈ (freeI e).1), p.2.filter fun x => !env.any fun e => decide (x ∈ (freeI e).2))
  | [], p => by
    exact Prod.ext (List.filter_eq_self.2 (by simp)).symm (List.filter_eq_self.2 (by simp)).symm
  | e :: env, p => by
    show genI env _ = _
    rw [genI_filter env]
    unfold lessI
    simp only [List.filter_filter, List.any_cons, Bool.not_or]
    refine Prod.ext ?_ ?_ <;> dsimp only <;> congr 1 <;> funext x <;> rw [Bool.and_comm]
theorem filter_parts (p : Int → Bool) : ∀ l : List Int, (l.filter fun x => !p x).length + (l.filter p).length = l.length
  | [] => rfl
  | x :: l => by
    have := filter_parts p l
    cases h : p x <;> simp [h] <;> omega
theorem less_parts (p : Int → Bool) (l : List Int) : (lessI l (l.filter p)).length + (l.filter p).length = l.length := by
  have e : lessI l (l.filter p) = l.filter fun x => !p x := by
    unfold lessI
    refine List.filter_congr fun x hx => ?_
    cases h : p x <;> simp [hx, h]
  rw [e]; exact filter_parts p l
theorem gen_parts (env : List Sch) (t : Ty) : (freeI (genT env t)).1.length + (genT env t).ts.length = (varsT t).1.length ∧ (freeI (genT env t)).2.length + (genT env t).rs.length = (varsT t).2.length := by
  unfold freeI genT
  dsimp only
  rw [genI_filter]
  exact ⟨less_parts _ _, less_parts _ _⟩
theorem gen_apart {env : List Sch} {e : Sch} (he : e ∈ env) (t : Ty) : (∀ x ∈ (freeI e).1, ¬ x ∈ (genT env t).ts) ∧ (∀ x ∈ (freeI e).2, ¬ x ∈ (genT env t).rs) := by
  unfold genT
  dsimp only
  rw [genI_filter]
  constructor
  · intro x hx hm
    rw [List.mem_filter] at hm
    have h9 : env.any (fun e => decide (x ∈ (freeI e).1)) = true := List.any_eq_true.2 ⟨e, he, by simpa using hx⟩
    rw [h9] at hm; exact absurd hm.2 (by simp)
  · intro x hx hm
    rw [List.mem_filter] at hm
    have h9 : env.any (fun e => decide (x ∈ (freeI e).2)) = true := List.any_eq_true.2 ⟨e, he, by simpa using hx⟩
    rw [h9] at hm; exact absurd hm.2 (by simp)
theorem gen_self (t : Ty) : genT [⟨[], [], t⟩] t = ⟨[], [], t⟩ := by
  have e : genI [⟨[], [], t⟩] (varsT t) = ([], []) := by
    show (lessI (varsT t).1 (freeI ⟨[], [], t⟩).1, lessI (varsT t).2 (freeI ⟨[], [], t⟩).2) = _
    rw [freeI_bare, lessI_self, lessI_self]
  unfold genT
  rw [show genI [⟨[], [], t⟩] (walkT t ([], [])) = ([], []) from e]
theorem right_bare {t : Ty} (h : rightT t = true) (h5 : ¬ t.kind = 5) : t.labels = [] ∧ t.rv = 0 := by
  rw [rightR_eq, Bool.and_eq_true] at h
  have h1 := h.1
  unfold hdT at h1
  have hb : bareT t = true → t.labels = [] ∧ t.rv = 0 := fun hb => by
    unfold bareT at hb
    simp only [Bool.and_eq_true, decide_eq_true_eq] at hb
    exact ⟨List.eq_nil_of_length_eq_zero (by omega), hb.2⟩
  refine hb ?_
  split at h1
  · simp only [Bool.and_eq_true] at h1; exact h1.1.1.2
  · split at h1
    · simp only [Bool.and_eq_true] at h1; exact h1.1.1.2
    · split at h1
      · simp only [Bool.and_eq_true] at h1; exact h1.1.1.2
      · split at h1
        · simp only [Bool.and_eq_true] at h1; exact h1.1.1.2
        · cases h1
theorem matT_none (a : Ty) : ∀ (b : Ty) (u : Sub), rightT a = true → rightT b = true → matT [] [] a b u = (u, sameT a b) := by
  induction a using Ty.rec_ with
  | h a ih =>
    intro b u ha hb
    have key : ∀ (l k : List Ty) (u : Sub), (∀ x ∈ l, x ∈ a.args) → (∀ x ∈ k, rightT x = true) → l.length = k.length → matTs [] [] l k u = (u, sameTs l k) := by
      intro l
      induction l with
      | nil =>
        intro k u _ _ hlk
        obtain rfl : k = [] := List.eq_nil_of_length_eq_zero (by simpa using hlk.symm)
        rw [matTs, sameTs]
      | cons x l ihl =>
        intro k u hl hk hlk
        cases k with
        | nil => simp at hlk
        | cons z k =>
          rw [matTs, ih x (hl x (.head _)) z u (right_arg ha (hl x (.head _))) (hk z (.head _)), sameTs]
          dsimp only
          cases hs : sameT x z with
          | false => simp
          | true => rw [if_pos rfl, ihl k u (fun v hv => hl v (.tail _ hv)) (fun v hv => hk v (.tail _ hv)) (by simpa using hlk)]; simp
    have hse := sameT_eq a b
    rw [matT_eq, if_neg (fun h => absurd h.2 (by simp))]
    by_cases hq : a.kind = b.kind ∧ a.name = b.name ∧ a.var = b.var ∧ a.args.length = b.args.length
    · rw [if_pos hq, key a.args b.args u (fun x h => h) (fun x h => right_arg hb h) hq.2.2.2]
      obtain ⟨q1, q2, q3, q4⟩ := hq
      rw [decide_eq_true q1, decide_eq_true q2, decide_eq_true q3] at hse
      simp only [Bool.true_and] at hse
      dsimp only
      rw [hse]
      cases hs : sameTs a.args b.args with
      | false => simp
      | true =>
        rw [if_pos rfl]
        by_cases h5 : a.kind = 5
        · rw [if_pos h5]
          unfold matR
          rw [if_pos (.inr (by simp))]
          dsimp only
          rw [(rowOk_sort (right_fun_row ha h5).1).1]
          simp
        · rw [if_neg h5]
          obtain ⟨l1, l2⟩ := right_bare ha h5
          obtain ⟨l3, l4⟩ := right_bare hb (by rw [← q1]; exact h5)
          rw [l1, l2, l3, l4]; simp
    · rw [if_neg hq]
      refine Prod.ext rfl ?_
      dsimp only
      rw [hse]
      by_cases h4 : a.args.length = b.args.length
      · by_cases h1 : a.kind = b.kind
        · by_cases h2 : a.name = b.name
          · by_cases h3 : a.var = b.var
            · exact absurd ⟨h1, h2, h3, h4⟩ hq
            · simp [h3]
          · simp [h2]
        · simp [h1]
      · have hlen : ∀ (l k : List Ty), l.length ≠ k.length → sameTs l k = false := by
          intro l
          induction l with
          | nil => intro k h; cases k with
            | nil => exact absurd rfl h
            | cons z k => rw [sameTs]
          | cons x l ihl => intro k h; cases k with
            | nil => rw [sameTs]
            | cons z k => rw [sameTs, ihl k (by simpa using h), Bool.and_false]
        rw [hlen _ _ h4, Bool.and_false]
theorem inst_none {t o : Ty} (ht : rightT t = true) (ho : rightT o = true) : instM ⟨[], [], t⟩ o = sameT t o := by unfold instM; rw [matT_none t o noneS ht ho]

end Go.Proofs.Ytmpponcnohakdaa
