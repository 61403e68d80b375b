/-
  Renaming, the plain laws: a free variable that is another one. Conditions: those of each theorem.
-/
import Derived.Test.YteamjgbhcjojaaaDoorPure6
import Derived.Test.YteamjgbhcjojaaaDoorTurned1
namespace Go.Proofs.YteamjgbhcjojaaaDoor
set_option linter.all false
set_option maxRecDepth 4000
open Go.RowKit
theorem atM_app_in : ∀ (b : List Str) {l k : List Str} {s : Str}, l.length = k.length → s ∈ b → atM (l ++ b) s = atM (k ++ b) s
  | x :: b, l, k, s, hl, h => by
    rw [show l ++ x :: b = (l ++ [x]) ++ b by simp, show k ++ x :: b = (k ++ [x]) ++ b by simp]
    by_cases hb : s ∈ b
    · exact atM_app_in b (by simp [hl]) hb
    · have hx : x = s := by rcases List.mem_cons.1 h with e | e; exact e.symm; exact absurd e hb
      by_cases hu : s = us
      · exact atM_app b (by simp [hl]) (by unfold atM; rw [if_pos hu, if_pos hu])
      · exact atM_app b (by simp [hl]) (by rw [atM_snoc, atM_snoc, if_pos ⟨hx, hu⟩, if_pos ⟨hx, hu⟩, hl])
theorem atM_app_out : ∀ (b : List Str) {l : List Str} {s : Str}, ¬ s ∈ b → atM (l ++ b) s = atM l s
  | [], l, s, _ => by simp
  | x :: b, l, s, h => by
    rw [show l ++ x :: b = (l ++ [x]) ++ b by simp, atM_app_out b fun e => h (.tail _ e), atM_snoc, if_neg fun e => h (by rw [e.1]; exact .head _)]
theorem boundM_hd {k : Int} {n p s : Str} {i : Nat} (h : s ∈ boundM k n p i) : s ∈ hdB k n p := by
  unfold boundM at h; unfold hdB
  split at h
  · rename_i hk; rw [if_pos (by omega)]; simp at h; simp [h]
  · split at h
    · rename_i h8; rw [if_pos (by omega), if_pos h8]; simpa using h
    · cases h
theorem boundM_turn (sx sy : Str) (t : Tm) : boundM t.kind (turnS sx sy t) t.param = boundM t.kind t.name t.param := by
  by_cases h1 : t.kind = 1
  · funext i; unfold boundM; rw [h1]; simp
  · unfold turnS; rw [if_neg fun h => h1 h.1]
theorem bndKs_mem {s : Str} : ∀ {l : List Tm} {u : Tm}, u ∈ l → s ∈ bndT u → s ∈ bndKs l
  | v :: l, u, h, hs => by
    rw [bndKs, List.mem_append]
    cases h with
    | head => exact .inl hs
    | tail _ h => exact .inr (bndKs_mem h hs)
theorem turn_sk {sx sy : Str} (t : Tm) : ∀ (l k : List Str), ShT t → ¬ VarIn sy t → ¬ sy ∈ bndT t → l.length = k.length → (∀ s, s ≠ sx → s ≠ sy → atM l s = atM k s) → 0 ≤ atM l sx → atM k sy = atM l sx → skT t l = skT (turnT sx sy t) k := by
  induction t using Tm.rec_ with
  | h t ihk iha =>
    intro l k hsh hv hb hl h h0 hxy
    rw [bndT_hd, List.mem_append, List.mem_append, not_or, not_or] at hb
    obtain ⟨⟨hb1, hb2⟩, hb3⟩ := hb
    have hks : ∀ (ts : List Tm) (i : Nat), (∀ j u, ts[j]? = some u → t.kids[i + j]? = some u) →
        skKs (boundM t.kind t.name t.param) i l ts = skKs (boundM t.kind t.name t.param) i k (turnKs sx sy (boundR t.kind t.name t.param) i ts) := by
      intro ts
      induction ts with
      | nil => intro i _; simp [skKs, turnKs]
      | cons u ts ih =>
        intro i hm
        have hu : t.kids[i]? = some u := by simpa using hm 0 u rfl
        have hmem := List.mem_of_getElem? hu
        have hil : i < t.kids.length := (List.getElem?_eq_some_iff.1 hu).1
        have hbr := boundR_M (s := t.name) (p := t.param) hsh.here hil
        have hyi : ¬ sy ∈ boundM t.kind t.name t.param i := fun e => hb1 (boundM_hd e)
        rw [turnKs, skKs, skKs, hbr, ih (i + 1) (fun j v hj => by have := hm (j + 1) v (by simpa using hj); rw [show i + 1 + j = i + (j + 1) by omega]; exact this)]
        congr 1
        by_cases hx : sx ∈ boundM t.kind t.name t.param i
        · rw [if_pos hx]
          refine sk_congr u _ _ (by simp [hl]) fun s hs => ?_
          by_cases hsx : s = sx
          · subst hsx; exact atM_app_in _ hl hx
          · exact atM_app _ hl (h s hsx fun e => hv (by subst e; exact .kid hmem hs))
        · rw [if_neg hx]
          refine ihk u hmem _ _ (hsh.kid hmem) (fun e => hv (.kid hmem e)) (fun e => hb2 (bndKs_mem hmem e)) (by simp [hl]) (fun s h1 h2 => atM_app _ hl (h s h1 h2)) ?_ ?_
          · rw [atM_app_out _ hx]; exact h0
          · rw [atM_app_out _ hx, atM_app_out _ hyi]; exact hxy
    have has : ∀ (ts : List Ar), (∀ a ∈ ts, a ∈ t.arms) → ¬ sy ∈ bndAs ts → skAs l ts = skAs k (turnAs sx sy ts) := by
      intro ts
      induction ts with
      | nil => intro _ _; simp [skAs, turnAs]
      | cons a ts ih =>
        intro hm hbs
        have hmem := hm a (.head _)
        rw [bndAs_cons, List.mem_append, List.mem_append, not_or, not_or] at hbs
        obtain ⟨⟨c1, c2⟩, c3⟩ := hbs
        have g := fun (hx : ¬ sx ∈ a.vars) => iha a hmem (l ++ a.vars) (k ++ a.vars) (hsh.arm hmem) (fun e => hv (.arm hmem e)) c2 (by simp [hl]) (fun s h1 h2 => atM_app _ hl (h s h1 h2)) (by rw [atM_app_out _ hx]; exact h0) (by rw [atM_app_out _ hx, atM_app_out _ c1]; exact hxy)
        have g2 := fun (hx : sx ∈ a.vars) => sk_congr a.body (l ++ a.vars) (k ++ a.vars) (by simp [hl]) fun s hs => by
          by_cases hsx : s = sx
          · subst hsx; exact atM_app_in _ hl hx
          · exact atM_app _ hl (h s hsx fun e => hv (by subst e; exact .arm hmem hs))
        have q := ih (fun v hv => hm v (.tail _ hv)) c3
        obtain ⟨nm, vs, b⟩ := a
        simp only [Ar.vars, Ar.body] at g g2
        rw [turnAs, skAs, skAs, q]
        by_cases hx : sx ∈ vs
        · rw [if_pos hx, g2 hx]
        · rw [if_neg hx, g hx]
    have e1 := hks t.kids 0 (fun j u hj => by rw [Nat.zero_add]; exact hj)
    have e2 := has t.arms (fun _ h => h) hb3
    have e3 : skT (turnT sx sy t) k = ⟨t.kind, t.n, if t.kind = 1 then atM k (turnS sx sy t) else 0, if t.kind = 1 then (if 0 ≤ atM k (turnS sx sy t) then [] else turnS sx sy t) else if t.kind = 5 ∨ t.kind = 7 ∨ t.kind = 8 then [] else turnS sx sy t,
        skKs (boundM t.kind (turnS sx sy t) t.param) 0 k (turnKs sx sy (boundR t.kind t.name t.param) 0 t.kids), skAs k (turnAs sx sy t.arms)⟩ := by rw [turnT_eq, skT_eq]; rfl
    rw [e3, skT_eq t l, boundM_turn, e1, e2]
    by_cases h1 : t.kind = 1
    · by_cases hn : t.name = sx
      · have ht : turnS sx sy t = sy := by unfold turnS; rw [if_pos ⟨h1, hn⟩]
        rw [ht, hn, hxy]
        simp only [h1, if_true, if_pos h0]
      · have ht : turnS sx sy t = t.name := by unfold turnS; rw [if_neg fun e => hn e.2]
        have e : atM l t.name = atM k t.name := h t.name hn fun e => hv (.here h1 e)
        rw [ht, e]
    · have ht : turnS sx sy t = t.name := by unfold turnS; rw [if_neg fun e => h1 e.1]
      rw [ht]
      simp only [h1, if_false]
/-- RewriteNames, without the program. -/
theorem names_law {sx sy : Str} {t : Tm} (hx : sx ≠ us) (hy : sy ≠ us) (hsh : ShT t) (hv : ¬ VarIn sy t) (hb : ¬ sy ∈ bndT t) : alikeT (funT sx t) [] [] (funT sy (turnT sx sy t)) = true := by
  rw [alike_dec]
  have h := turn_sk (sx := sx) (sy := sy) t [sx] [sy] hsh hv hb rfl (fun s h1 h2 => by
      rw [atM_out (by simpa using h1), atM_out (by simpa using h2)]) (by rw [atM_mem]; exact ⟨by simp, hx⟩) (by
      have e1 := atM_snoc [] sx sx; have e2 := atM_snoc [] sy sy
      rw [if_pos ⟨rfl, hx⟩] at e1; rw [if_pos ⟨rfl, hy⟩] at e2
      exact e2.trans e1.symm)
  rw [skT_eq, skT_eq]
  show Sk.mk 5 0 _ _ [skT t ([] ++ boundM 5 sx [] 0)] [] = Sk.mk 5 0 _ _ [skT (turnT sx sy t) ([] ++ boundM 5 sy [] 0)] []
  rw [show [] ++ boundM 5 sx [] 0 = [sx] from rfl, show [] ++ boundM 5 sy [] 0 = [sy] from rfl, h]
  rfl

end Go.Proofs.YteamjgbhcjojaaaDoor
