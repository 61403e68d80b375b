/-
  What must be in any case; how much a renamed term is. Conditions: those of each theorem.
-/
import Derived.Test.YteamjgbhcjojaaaDoorRen3
namespace Go.Proofs.YteamjgbhcjojaaaDoor
set_option linter.all false
set_option maxRecDepth 4000
open Go.RowKit
theorem num1 : numT 1 = [39, 49] := by unfold numT; rw [Go.Lib.decDigits]; rfl
theorem num2 : numT 2 = [39, 50] := by unfold numT; rw [Go.Lib.decDigits]; rfl
def shT3 : Tm := varT [120, 39, 50]
def shT2 : Tm := funT [120, 39, 50] shT3
def shT1 : Tm := funT [120, 39, 49] shT2
theorem apart_shown : apartM (funT [120] (funT [120] (varT [120]))) = shT1 := by
  unfold apartM shT1 shT2 shT3
  simp [funT, varT, renT, renKs, renAs, headM, boundM, withM, aput, aget, us, num1, num2]
theorem alike_sh1 : alikeT (funT [120] (varT [120])) [] [] (funT [121] (varT [121])) = true := by
  simp [funT, varT, alikeT, alikeKs, alikeAs, namesM, boundM, atM, lastI, us, Tm.kind, Tm.n, Tm.kids, Tm.arms, Tm.name, Tm.param]
theorem alike_var (x y : Str) : alikeT (varT x) [] [] (varT y) = decide (x = y) := by
  simp [varT, alikeT, alikeKs, alikeAs, namesM, boundM, Tm.kind, Tm.n, Tm.kids, Tm.arms, Tm.name, Tm.param, atM_nil]; try exact decide_eq_decide.2 Iff.rfl
theorem bulk_fun (s : Str) (t : Tm) : bulkM (funT s t) = 3 + s.length + bulkM t := by rw [bulkM_eq]; simp [funT, Tm.name, Tm.param, Tm.kids, Tm.arms, bulkKs, bulkAs]
theorem bulk_var (s : Str) : bulkM (varT s) = 3 + s.length := by rw [bulkM_eq]; simp [varT, Tm.name, Tm.param, Tm.kids, Tm.arms, bulkKs, bulkAs]
theorem shOk_no {k : Int} {n : Nat} (h5 : k ≠ 5) (h8 : k ≠ 8) : shOk k n := ⟨fun h => absurd h h5, fun h => absurd h h8⟩
theorem ShT.var (s : Str) : ShT (varT s) := .mk (shOk_no (show (1 : Int) ≠ 5 by decide) (show (1 : Int) ≠ 8 by decide)) (fun _ h => nomatch h) (fun _ h => nomatch h)
theorem ShT.fun_ (s : Str) {t : Tm} (h : ShT t) : ShT (funT s t) := .mk ⟨fun _ => Nat.le_refl _, fun h => by cases h⟩ (fun u hu => by rw [show (funT s t).kids = [t] from rfl, List.mem_singleton] at hu; rw [hu]; exact h) (fun _ h => nomatch h)
theorem dec_len : ∀ (d n : Nat), n < 10 ^ (d + 1) → (Go.Lib.decDigits n).length ≤ d + 1
  | 0, n, h => by rw [Go.Lib.decDigits, dif_pos (by simpa using h)]; exact Nat.le_refl _
  | d + 1, n, h => by
    rw [Go.Lib.decDigits]
    split
    · simp
    · have := dec_len d (n / 10) (Nat.div_lt_of_lt_mul (by rw [Nat.pow_succ] at h; omega))
      rw [List.length_append]; simp only [List.length_cons, List.length_nil]; omega
theorem num_len {k : Nat} (h : k ≤ 1000000000) : (numT k).length ≤ 11 := by
  have := dec_len 9 k (by omega)
  unfold numT
  rw [List.length_cons]; omega
/-- What names became is not much longer. -/
def Short (es : List (Str × Str)) : Prop := ∀ s v, aget s es = some v → v.length ≤ s.length + 11
theorem Short.put {es : List (Str × Str)} (h : Short es) {x v : Str} (hv : v.length ≤ x.length + 11) : Short (aput x v es) := fun s u hu => by
  rw [aget_aput] at hu
  split at hu
  · rename_i e; subst e; injection hu with hu; subst hu; exact hv
  · exact h s u hu
theorem Short.withM {es : List (Str × Str)} (h : Short es) : ∀ (old now : List Str), (∀ (i : Nat) (x y : Str), old[i]? = some x → now[i]? = some y → y.length ≤ x.length + 11) → Short (withM es old now) := by
  intro old
  induction old generalizing es with
  | nil => intro now _; cases now <;> (simp only [Go.Proofs.YteamjgbhcjojaaaDoor.withM]; exact h)
  | cons x old ih =>
    intro now hn
    cases now with
    | nil => simp only [Go.Proofs.YteamjgbhcjojaaaDoor.withM]; exact h
    | cons y now =>
      simp only [Go.Proofs.YteamjgbhcjojaaaDoor.withM]
      refine ih ?_ now fun i a b ha hb => hn (i + 1) a b ha hb
      split
      · exact h
      · exact h.put (hn 0 x y rfl rfl)
theorem next_short : ∀ (l : List Str) (n : Nat), n + l.length ≤ 1000000000 → ∀ (i : Nat) (x y : Str), l[i]? = some x → (nextN n l)[i]? = some y → y.length ≤ x.length + 11
  | [], _, _, i, x, y, h, _ => by simp at h
  | a :: l, n, hn, 0, x, y, h, h2 => by
    simp only [List.length_cons] at hn
    simp only [nextN, List.getElem?_cons_zero, Option.some.injEq] at h h2
    subst h; subst h2
    rw [List.length_append]; have := num_len (k := n + 1) (by omega); omega
  | a :: l, n, hn, i + 1, x, y, h, h2 => by
    simp only [List.length_cons] at hn
    simp only [nextN, List.getElem?_cons_succ] at h h2
    exact next_short l (n + 1) (by omega) i x y h h2
theorem sum_next : ∀ (l : List Str) (n : Nat), n + l.length ≤ 1000000000 → ((nextN n l).map fun x => x.length + 2).sum ≤ 12 * (l.map fun x => x.length + 2).sum
  | [], _, _ => by simp [nextN]
  | a :: l, n, hn => by
    simp only [List.length_cons] at hn
    simp only [nextN, List.map_cons, List.sum_cons, List.length_append]
    have := num_len (k := n + 1) (by omega); have := sum_next l (n + 1) (by omega); omega
theorem head_short {k : Int} {s p : Str} {es : List (Str × Str)} {n : Nat} (h : Short es) (hn : n + 2 ≤ 1000000000) : (headM k s p es n).1.length ≤ s.length + 11 ∧ (headM k s p es n).2.1.length ≤ p.length + 11 := by
  have h1 := num_len (k := n + 1) (by omega); have h2 := num_len (k := n + 2) (by omega)
  unfold headM
  split
  · refine ⟨?_, Nat.le_add_right _ _⟩
    cases he : aget s es with
    | none => exact Nat.le_add_right _ _
    | some v => exact h s v he
  · split
    · exact ⟨by rw [List.length_append]; omega, Nat.le_add_right _ _⟩
    · split
      · exact ⟨by rw [List.length_append]; omega, by rw [List.length_append]; omega⟩
      · exact ⟨Nat.le_add_right _ _, Nat.le_add_right _ _⟩
theorem bound_short {k : Int} {s p ss pp : Str} (h1 : ss.length ≤ s.length + 11) (h2 : pp.length ≤ p.length + 11) (j : Nat) : ∀ (i : Nat) (x y : Str), (boundM k s p j)[i]? = some x → (boundM k ss pp j)[i]? = some y → y.length ≤ x.length + 11 := by
  intro i x y hx hy
  unfold boundM at hx hy
  split at hx
  · rename_i hc
    rw [if_pos hc] at hy
    rcases i with _ | i
    · simp only [List.getElem?_cons_zero, Option.some.injEq] at hx hy; subst hx; subst hy; exact h1
    · simp at hx
  · rename_i hc
    rw [if_neg hc] at hy
    split at hx
    · rename_i hc2
      rw [if_pos hc2] at hy
      rcases i with _ | _ | i
      · simp only [List.getElem?_cons_zero, Option.some.injEq] at hx hy; subst hx; subst hy; exact h1
      · simp only [List.getElem?_cons_succ, List.getElem?_cons_zero, Option.some.injEq] at hx hy; subst hx; subst hy; exact h2
      · simp at hx
    · simp at hx
theorem ren_bulk (t : Tm) : ∀ {es : List (Str × Str)} {n : Nat}, Short es → n + bulkM t ≤ 1000000000 → bulkM (renT t es n).1 ≤ 12 * bulkM t := by
  induction t using Tm.rec_ with
  | h t ihk iha =>
    intro es n hs hn
    have hbe := bulkM_eq t
    have hh := head_short (k := t.kind) (s := t.name) (p := t.param) (es := es) (n := n) hs (by omega)
    have hle := head_le t.kind t.name t.param es n
    have hks : ∀ (ts : List Tm), (∀ u ∈ ts, u ∈ t.kids) → ∀ (f g : Nat → List Str) (i m : Nat), (∀ (j a : Nat) (x y : Str), (f j)[a]? = some x → (g j)[a]? = some y → y.length ≤ x.length + 11) → m + bulkKs ts ≤ 1000000000 → bulkKs (renKs f g i es ts m).1 ≤ 12 * bulkKs ts ∧ (renKs f g i es ts m).2 ≤ m + bulkKs ts := by
      intro ts
      induction ts with
      | nil => intro _ f g i m _ _; rw [renKs]; exact ⟨Nat.zero_le _, Nat.le_refl _⟩
      | cons u ts ih =>
        intro hm f g i m hfg hb
        rw [bulkKs] at hb
        have h1 := ihk u (hm u (.head _)) (es := Go.Proofs.YteamjgbhcjojaaaDoor.withM es (f i) (g i)) (n := m) (hs.withM _ _ (hfg i)) (by omega)
        have h2 := (bnd_ren u (Go.Proofs.YteamjgbhcjojaaaDoor.withM es (f i) (g i)) m).1; have h3 := bndT_len u
        have h4 := ih (fun v hv => hm v (.tail _ hv)) f g (i + 1) (renT u (Go.Proofs.YteamjgbhcjojaaaDoor.withM es (f i) (g i)) m).2 hfg (by omega)
        rw [renKs_fst, renKs_snd, bulkKs, bulkKs]
        exact ⟨by omega, by omega⟩
    have has : ∀ (ts : List Ar), (∀ u ∈ ts, u ∈ t.arms) → ∀ (m : Nat), m + bulkAs ts ≤ 1000000000 → bulkAs (renAs es ts m).1 ≤ 12 * bulkAs ts := by
      intro ts
      induction ts with
      | nil => intro _ m _; rw [renAs]; exact Nat.zero_le _
      | cons u ts ih =>
        intro hm m hb
        rw [bulkAs_cons] at hb
        have h0 := sum_len u.vars
        have h1 := iha u (hm u (.head _)) (es := Go.Proofs.YteamjgbhcjojaaaDoor.withM es u.vars (nextN m u.vars)) (n := m + u.vars.length) (hs.withM _ _ (next_short u.vars m (by omega))) (by omega)
        have h2 := (bnd_ren u.body (Go.Proofs.YteamjgbhcjojaaaDoor.withM es u.vars (nextN m u.vars)) (m + u.vars.length)).1; have h3 := bndT_len u.body
        have h4 := ih (fun v hv => hm v (.tail _ hv)) (renT u.body (Go.Proofs.YteamjgbhcjojaaaDoor.withM es u.vars (nextN m u.vars)) (m + u.vars.length)).2 (by omega)
        have h5 := sum_next u.vars m (by omega)
        rw [renAs_fst, bulkAs_cons, bulkAs_cons]
        show u.name.length + ((nextN m u.vars).map fun x => x.length + 2).sum + bulkM (renT u.body (Go.Proofs.YteamjgbhcjojaaaDoor.withM es u.vars (nextN m u.vars)) (m + u.vars.length)).1 + _ ≤ _
        omega
    obtain ⟨ss, pp, nn, hd⟩ : ∃ ss pp nn, (ss, pp, nn) = headM t.kind t.name t.param es n := ⟨_, _, _, rfl⟩
    rw [← hd] at hh hle
    obtain ⟨h1, h2⟩ := hh
    simp only at h1 h2 hle
    have hk := hks t.kids (fun _ h => h) (boundM t.kind t.name t.param) (boundM t.kind ss pp) 0 nn (fun j => bound_short h1 h2 j) (by omega)
    have ha := has t.arms (fun _ h => h) _ (show (renKs (boundM t.kind t.name t.param) (boundM t.kind ss pp) 0 es t.kids nn).2 + bulkAs t.arms ≤ 1000000000 by omega)
    rw [(renT_fst hd).1, bulkM_eq]
    simp only [Tm.name, Tm.param, Tm.kids, Tm.arms] at hbe hk ha h1 h2 ⊢
    omega
theorem apart_bulk {t : Tm} (h : bulkM t ≤ 1000000000) : bulkM (apartM t) ≤ 12 * bulkM t := ren_bulk t (fun s v h => by cases h) (by omega)
theorem nameKs_sub {s : Str} : ∀ {l : List Tm} {a : List Str}, s ∈ a → s ∈ nameKs a l
  | [], _, h => by rw [nameKs]; exact h
  | t :: l, a, h => by rw [nameKs]; exact nameKs_sub ((joinM_mem _ _ _).2 (.inl h))
theorem nameKs_mem {s : Str} {u : Tm} (hs : s ∈ nameT u) : ∀ {l : List Tm} {a : List Str}, u ∈ l → s ∈ nameKs a l
  | t :: l, a, h => by
    rw [nameKs]
    rcases List.mem_cons.1 h with rfl | h
    · exact nameKs_sub ((joinM_mem _ _ _).2 (.inr hs))
    · exact nameKs_mem hs h
theorem nameAs_sub {s : Str} : ∀ {l : List Ar} {a : List Str}, s ∈ a → s ∈ nameAs a l
  | [], _, h => by rw [nameAs]; exact h
  | t :: l, a, h => by rw [nameAs_cons]; exact nameAs_sub ((joinM_mem _ _ _).2 (.inl h))
theorem nameAs_mem {s : Str} {u : Ar} (hs : s ∈ nameT u.body) : ∀ {l : List Ar} {a : List Str}, u ∈ l → s ∈ nameAs a l
  | t :: l, a, h => by
    rw [nameAs_cons]
    rcases List.mem_cons.1 h with rfl | h
    · exact nameAs_sub ((joinM_mem _ _ _).2 (.inr hs))
    · exact nameAs_mem hs h

end Go.Proofs.YteamjgbhcjojaaaDoor
