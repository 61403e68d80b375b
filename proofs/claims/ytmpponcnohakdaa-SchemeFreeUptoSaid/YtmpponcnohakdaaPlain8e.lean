/-
  Package scheme: the matcher goes through types. Conditions: those of each theorem.
-/
import Derived.Test.YtmpponcnohakdaaPlain8d
namespace Go.Proofs.Ytmpponcnohakdaa
set_option linter.all false
set_option maxRecDepth 4000
open Go.RowKit
theorem applyT_wd {B : Nat} {s : Sub} (h : SubW B s) (t : Ty) : wdT (applyT s t) ≤ wdT t + B := by
  induction t using Ty.rec_ with
  | h t ih =>
    by_cases h7 : t.kind = 7
    · rw [applyT_var h7]
      cases hq : alook t.var s.ts with
      | none => show wdT t ≤ _; omega
      | some x => have := h.1 _ _ hq; show wdT x ≤ _; omega
    · rw [applyT_not h7, wdT_eq, wdT_eq t]
      have hl : (applyR s ⟨t.labels, t.rv⟩).labels.length ≤ t.labels.length + B := applyR_len h ⟨t.labels, t.rv⟩
      have key : ∀ l : List Ty, (∀ u ∈ l, u ∈ t.args) → wdTs (applyTs s l) ≤ wdTs l + B := by
        intro l
        induction l with
        | nil => intro _; rw [applyTs]; simp only [wdTs]; omega
        | cons x l ihl =>
          intro hl
          have h1 := ih x (hl x (.head _)); have h2 := ihl fun u hu => hl u (.tail _ hu)
          rw [applyTs]; simp only [wdTs]; omega
      have hk := key t.args fun u hu => hu
      have ha := applyTs_len s t.args
      show max (if t.kind = 5 then (applyR s ⟨t.labels, t.rv⟩).labels else t.labels).length (max (applyTs s t.args).length (wdTs (applyTs s t.args))) ≤ max t.labels.length (max t.args.length (wdTs t.args)) + B
      split <;> omega
-- which variables are bound does not matter
structure Ren (θ : Sub) (ts rs : List Int) (ρ σ : Int → Int) : Prop where
  hT : ∀ n ∈ ts, alook n θ.ts = some (varT (ρ n))
  hR : ∀ n ∈ rs, alook n θ.rs = some ⟨[], σ n⟩
  iT : ∀ a ∈ ts, ∀ b ∈ ts, ρ a = ρ b → a = b
  iR : ∀ a ∈ rs, ∀ b ∈ rs, σ a = σ b → a = b
  pR : ∀ n ∈ rs, 0 < σ n
theorem withI_map {ts l : List Int} {ρ : Int → Int} {n : Int} (hi : ∀ a ∈ ts, ∀ b ∈ ts, ρ a = ρ b → a = b) (hl : ∀ x ∈ l, x ∈ ts) (hn : n ∈ ts) : withI (l.map ρ) (ρ n) = (withI l n).map ρ := by
  by_cases h : n ∈ l
  · rw [withI_in h, withI_in (List.mem_map.2 ⟨n, h, rfl⟩)]
  · rw [withI_out h, withI_out (fun hm => by
      obtain ⟨x, hx, e⟩ := List.mem_map.1 hm
      exact h (hi x (hl x hx) n hn e ▸ hx))]
    simp
theorem walk_varT (m : Int) (s : List Int × List Int) : walkT (varT m) s = (withI s.1 m, s.2) := by
  rw [walkT_eq]; rfl
theorem applyR_ren {θ : Sub} {ts rs : List Int} {ρ σ : Int → Int} (h : Ren θ ts rs ρ σ) {ls : List Str} {rv : Int} (hr : rowOk ls rv = true) (hm : 0 < rv → rv ∈ rs) : (rv = 0 ∧ applyR θ ⟨ls, rv⟩ = ⟨ls, 0⟩) ∨ (0 < rv ∧ rv ∈ rs ∧ applyR θ ⟨ls, rv⟩ = ⟨ls, σ rv⟩) := by
  obtain ⟨hs, h0⟩ := rowOk_sort hr
  by_cases hz : rv = 0
  · left; subst hz; rw [applyR_out (.inr rfl)]; dsimp only; rw [hs]; exact ⟨rfl, rfl⟩
  · right
    have hp : 0 < rv := by omega
    have hrs := hm hp
    refine ⟨hp, hrs, ?_⟩
    rw [applyR_in (r := ⟨ls, rv⟩) (by dsimp only; rw [h.hR _ hrs]; rfl) hz]
    dsimp only
    rw [h.hR _ hrs]; dsimp only [Option.getD_some]
    rw [List.append_nil, hs]
theorem walk_ren {θ : Sub} {ts rs : List Int} {ρ σ : Int → Int} (h : Ren θ ts rs ρ σ) (x : Ty) : rightT x = true → AllV (· ∈ ts) (· ∈ rs) x → ∀ s : List Int × List Int, (∀ y ∈ s.1, y ∈ ts) ∧ (∀ y ∈ s.2, y ∈ rs) →
    walkT (applyT θ x) (s.1.map ρ, s.2.map σ) = ((walkT x s).1.map ρ, (walkT x s).2.map σ) := by
  induction x using Ty.rec_ with
  | h x ih =>
    intro hr hv s hs
    obtain ⟨v1, v2, v3⟩ := hv.here
    by_cases h7 : x.kind = 7
    · have hx := right_var hr h7
      have hm := v1 h7
      rw [applyT_var h7, h.hT _ hm]
      dsimp only [Option.getD_some]
      rw [walk_varT]
      conv => rhs; rw [hx]
      rw [walk_varT]
      dsimp only
      rw [withI_map h.iT hs.1 hm]
    · have key : ∀ (rv' : Int), (x.kind = 5 → (x.rv = 0 ∧ rv' = 0) ∨ (0 < x.rv ∧ x.rv ∈ rs ∧ rv' = σ x.rv)) → ∀ (l : List Ty), (∀ v ∈ l, v ∈ x.args) → ∀ (i : Nat) (s : List Int × List Int), (∀ y ∈ s.1, y ∈ ts) ∧ (∀ y ∈ s.2, y ∈ rs) →
          walkTs x.kind rv' i (applyTs θ l) (s.1.map ρ, s.2.map σ) = ((walkTs x.kind x.rv i l s).1.map ρ, (walkTs x.kind x.rv i l s).2.map σ) := by
        intro rv' hrv l
        induction l with
        | nil => intro _ i s _; rw [applyTs, walkTs, walkTs]
        | cons v l ihl =>
          intro hl i s hs
          have hva := hl v (.head _)
          have e := ih v hva (right_arg hr hva) (v3 v hva) s hs
          have hsub := walk_allV v (v3 v hva) s hs
          rw [applyTs, walkTs_cons, walkTs_cons, e]
          by_cases hc : i = 0 ∧ x.kind = 5 ∧ 0 < x.rv
          · have hc2 : i = 0 ∧ x.kind = 5 ∧ 0 < rv' := ⟨hc.1, hc.2.1, by
              rcases hrv hc.2.1 with h1 | h1
              · omega
              · rw [h1.2.2]; exact h.pR _ h1.2.1⟩
            have hrv2 : rv' = σ x.rv := by
              rcases hrv hc.2.1 with h1 | h1
              · omega
              · exact h1.2.2
            have hmr : x.rv ∈ rs := v2 hc.2.1 hc.2.2
            rw [if_pos hc, if_pos hc2, hrv2]
            dsimp only
            rw [withI_map h.iR hsub.2 hmr]
            have hh := ihl (fun w hw => hl w (.tail _ hw)) (i + 1) ((walkT v s).1, withI (walkT v s).2 x.rv) ⟨hsub.1, withI_all hsub.2 hmr⟩
            rw [hrv2] at hh; exact hh
          · have hc2 : ¬ (i = 0 ∧ x.kind = 5 ∧ 0 < rv') := fun h2 => hc ⟨h2.1, h2.2.1, by
              rcases hrv h2.2.1 with h1 | h1
              · omega
              · exact h1.1⟩
            rw [if_neg hc, if_neg hc2]
            exact ihl (fun w hw => hl w (.tail _ hw)) (i + 1) (walkT v s) hsub
      rw [applyT_not h7]
      have hk := key (if x.kind = 5 then (applyR θ ⟨x.labels, x.rv⟩).var else x.rv) (fun h5 => by
        rw [if_pos h5]
        rcases applyR_ren h (right_fun_row hr h5).1 (v2 h5) with ⟨a1, a2⟩ | ⟨a1, a2, a3⟩
        · rw [a2]; exact .inl ⟨a1, rfl⟩
        · rw [a3]; exact .inr ⟨a1, a2, rfl⟩) x.args (fun v hv => hv) 0 s hs
      rw [walkT_eq x, if_neg h7, ← hk, walkT_eq]
      show walkTs x.kind _ 0 (applyTs θ x.args) (if x.kind = 7 then _ else _) = _
      rw [if_neg h7]; rfl
/-- Both have found the same. -/
def RelM (ts rs : List Int) (ρ σ : Int → Int) (u u' : Sub) : Prop := (∀ n ∈ ts, alook n u.ts = alook (ρ n) u'.ts) ∧ ∀ n ∈ rs, alook n u.rs = alook (σ n) u'.rs
theorem RelM.setT {θ : Sub} {ts rs : List Int} {ρ σ : Int → Int} {u u' : Sub} (h : Ren θ ts rs ρ σ) (hu : RelM ts rs ρ σ u u') {n : Int} (hn : n ∈ ts) (b : Ty) : RelM ts rs ρ σ ⟨aset n b u.ts, u.rs⟩ ⟨aset (ρ n) b u'.ts, u'.rs⟩ := ⟨fun k hk => by
  dsimp only; rw [alook_aset, alook_aset]
  by_cases e : k = n
  · rw [if_pos e, if_pos (by rw [e])]
  · rw [if_neg e, if_neg (fun e2 => e (h.iT k hk n hn e2))]; exact hu.1 k hk, hu.2⟩
theorem RelM.setR {θ : Sub} {ts rs : List Int} {ρ σ : Int → Int} {u u' : Sub} (h : Ren θ ts rs ρ σ) (hu : RelM ts rs ρ σ u u') {n : Int} (hn : n ∈ rs) (b : Rw) : RelM ts rs ρ σ ⟨u.ts, aset n b u.rs⟩ ⟨u'.ts, aset (σ n) b u'.rs⟩ := ⟨hu.1, fun k hk => by
  dsimp only; rw [alook_aset, alook_aset]
  by_cases e : k = n
  · rw [if_pos e, if_pos (by rw [e])]
  · rw [if_neg e, if_neg (fun e2 => e (h.iR k hk n hn e2))]; exact hu.2 k hk⟩
theorem matR_ren {θ : Sub} {ts rs rs' : List Int} {ρ σ : Int → Int} (h : Ren θ ts rs ρ σ) (hR : ∀ n ∈ rs, σ n ∈ rs') {u u' : Sub} (hu : RelM ts rs ρ σ u u') {ls : List Str} {rv : Int} (hr : rowOk ls rv = true) (hm : 0 < rv → rv ∈ rs) (b : Rw) :
    (matR rs ⟨sortS ls, rv⟩ b u).2 = (matR rs' ⟨sortS (applyR θ ⟨ls, rv⟩).labels, (applyR θ ⟨ls, rv⟩).var⟩ b u').2 ∧ RelM ts rs ρ σ (matR rs ⟨sortS ls, rv⟩ b u).1 (matR rs' ⟨sortS (applyR θ ⟨ls, rv⟩).labels, (applyR θ ⟨ls, rv⟩).var⟩ b u').1 := by
  rcases applyR_ren h hr hm with ⟨a1, a2⟩ | ⟨a1, a2, a3⟩
  · rw [a2]; dsimp only; subst a1
    unfold matR
    rw [if_pos (.inl rfl), if_pos (.inl rfl)]
    exact ⟨rfl, hu⟩
  · rw [a3]; dsimp only
    have hp := h.pR _ a2
    unfold matR
    rw [if_neg (by rintro (e | e); (dsimp only at e; omega); (exact e a2)), if_neg (by rintro (e | e); (dsimp only at e; omega); (exact e (hR _ a2)))]
    dsimp only
    cases lessAll (sortS ls) b.labels with
    | none => exact ⟨rfl, hu⟩
    | some l =>
      dsimp only
      rw [← hu.2 _ a2]
      cases alook rv u.rs with
      | none => exact ⟨rfl, hu.setR h a2 _⟩
      | some z => exact ⟨rfl, hu⟩
theorem matT_mk2 {ts rs : List Int} {k v rv : Int} {nm : Str} {ks : List Ty} {ls : List Str} {b : Ty} {u : Sub} (h : ¬ (k = 7 ∧ v ∈ ts)) : matT ts rs ⟨k, nm, v, ks, ls, rv⟩ b u =
    if k = b.kind ∧ nm = b.name ∧ v = b.var ∧ ks.length = b.args.length then (if (matTs ts rs ks b.args u).2 = true then (if k = 5 then matR rs ⟨sortS ls, rv⟩ ⟨b.labels, b.rv⟩ (matTs ts rs ks b.args u).1 else ((matTs ts rs ks b.args u).1, true)) else ((matTs ts rs ks b.args u).1, false)) else (u, false) := by
  rw [matT, if_neg h]
theorem varT_right {m : Int} (h : 1 ≤ m) : rightT (varT m) = true := by rw [rightR_eq, hdT7 rfl, show (varT m).var = m from rfl, decide_eq_true h]; rfl
theorem matT_ren {θ : Sub} {ts rs ts' rs' : List Int} {ρ σ : Int → Int} (h : Ren θ ts rs ρ σ) (hT : ∀ n ∈ ts, ρ n ∈ ts') (hR : ∀ n ∈ rs, σ n ∈ rs') (x : Ty) : rightT x = true → AllV (· ∈ ts) (· ∈ rs) x → ∀ (b : Ty) (u u' : Sub), RelM ts rs ρ σ u u' →
    (matT ts rs x b u).2 = (matT ts' rs' (applyT θ x) b u').2 ∧ RelM ts rs ρ σ (matT ts rs x b u).1 (matT ts' rs' (applyT θ x) b u').1 := by
  induction x using Ty.rec_ with
  | h x ih =>
    intro hr hv b u u' hu
    obtain ⟨v1, v2, v3⟩ := hv.here
    by_cases h7 : x.kind = 7
    · have hm := v1 h7
      rw [applyT_var h7, h.hT _ hm]
      dsimp only [Option.getD_some]
      rw [matT_eq, if_pos ⟨h7, hm⟩, matT_eq, if_pos ⟨rfl, hT _ hm⟩]
      rw [show (varT (ρ x.var)).var = ρ x.var from rfl, ← hu.1 _ hm]
      cases alook x.var u.ts with
      | none => exact ⟨rfl, hu.setT h hm b⟩
      | some z => exact ⟨rfl, hu⟩
    · have key : ∀ (l : List Ty), (∀ v ∈ l, v ∈ x.args) → ∀ (k : List Ty) (u u' : Sub), RelM ts rs ρ σ u u' → (matTs ts rs l k u).2 = (matTs ts' rs' (applyTs θ l) k u').2 ∧ RelM ts rs ρ σ (matTs ts rs l k u).1 (matTs ts' rs' (applyTs θ l) k u').1 := by
        intro l
        induction l with
        | nil => intro _ k u u' hu; rw [applyTs, matTs, matTs]; exact ⟨rfl, hu⟩
        | cons v l ihl =>
          intro hl k u u' hu
          cases k with
          | nil => rw [applyTs, matTs, matTs]; exact ⟨rfl, hu⟩
          | cons z k =>
            have hva := hl v (.head _)
            obtain ⟨e1, e2⟩ := ih v hva (right_arg hr hva) (v3 v hva) z u u' hu
            rw [applyTs, matTs, matTs, ← e1]
            cases hs : (matT ts rs v z u).2 with
            | false => exact ⟨rfl, e2⟩
            | true => exact ihl (fun w hw => hl w (.tail _ hw)) k _ _ e2
      obtain ⟨k1, k2⟩ := key x.args (fun v hv => hv) b.args u u' hu
      have g1 : ¬ (x.kind = 7 ∧ x.var ∈ ts) := fun e => h7 e.1
      have g2 : ¬ (x.kind = 7 ∧ x.var ∈ ts') := fun e => h7 e.1
      rw [matT_eq ts rs x, if_neg g1, applyT_not h7, matT_mk2 g2, applyTs_len]
      by_cases hq : x.kind = b.kind ∧ x.name = b.name ∧ x.var = b.var ∧ x.args.length = b.args.length
      · rw [if_pos hq, if_pos hq, ← k1]
        cases hs : (matTs ts rs x.args b.args u).2 with
        | false => exact ⟨rfl, k2⟩
        | true =>
          rw [if_pos rfl, if_pos rfl]
          by_cases h5 : x.kind = 5
          · rw [if_pos h5, if_pos h5, if_pos h5, if_pos h5]
            exact matR_ren h hR k2 (right_fun_row hr h5).1 (v2 h5) _
          · rw [if_neg h5, if_neg h5]; exact ⟨rfl, k2⟩
      · rw [if_neg hq, if_neg hq]; exact ⟨rfl, hu⟩
-- generalized over nothing, made fresh
def rhoT (t : Ty) (k : Int) : Int → Int := fun n => k + ((varsT t).1.idxOf n : Int)
def sigT (t : Ty) (k : Int) : Int → Int := fun n => k + ((varsT t).1.length : Int) + ((varsT t).2.idxOf n : Int)
theorem gen_nil (t : Ty) : genT [] t = ⟨(varsT t).1, (varsT t).2, t⟩ := rfl
theorem idx_inj {l : List Int} {a b : Int} (ha : a ∈ l) (hb : b ∈ l) (h : l.idxOf a = l.idxOf b) : a = b := by
  have h1 := List.getElem_idxOf (List.idxOf_lt_length_of_mem ha)
  have h2 := List.getElem_idxOf (List.idxOf_lt_length_of_mem hb)
  rw [← h1, ← h2]; congr 1
theorem ren_fresh (t : Ty) {k : Int} (hk : 0 < k) : Ren (freshS (genT [] t) k) (varsT t).1 (varsT t).2 (rhoT t k) (sigT t k) where
  hT n hn := by rw [freshS_ts (s := genT [] t) (vars_nodup t).1, if_pos (show n ∈ (genT [] t).ts from hn)]; rfl
  hR n hn := by rw [freshS_rs (s := genT [] t) (vars_nodup t).2, if_pos (show n ∈ (genT [] t).rs from hn)]; rfl
  iT a ha b hb e := idx_inj ha hb (by unfold rhoT at e; omega)
  iR a ha b hb e := idx_inj ha hb (by unfold sigT at e; omega)
  pR n _ := by unfold sigT; omega
abbrev freshA (t : Ty) (k : Int) : Ty := applyT (freshS (genT [] t) k) t
theorem fresh_vars {t : Ty} (h : rightT t = true) {k : Int} (hk : 0 < k) : varsT (freshA t k) = ((varsT t).1.map (rhoT t k), (varsT t).2.map (sigT t k)) :=
  walk_ren (ren_fresh t hk) t h (allV_vars t h) ([], []) ⟨fun y hy => (by cases hy), fun y hy => (by cases hy)⟩
theorem fresh_right {t : Ty} (h : rightT t = true) {k : Int} (hk : 0 < k) : rightT (freshA t k) = true := by
  refine right_apply (fun n x hx => ?_) (fun n x hx => ?_) t h
  · rw [freshS_ts (s := genT [] t) (vars_nodup t).1] at hx
    split at hx
    · injection hx with hx; subst hx
      exact varT_right (by omega)
    · cases hx
  · rw [freshS_rs (s := genT [] t) (vars_nodup t).2] at hx
    split at hx
    · injection hx with hx; subst hx
      unfold rowOk; simp [isSortedS]; omega
    · cases hx
theorem fresh_again {t o : Ty} (h : rightT t = true) {k : Int} (hk : 0 < k) : instM (genT [] t) o = instM (genT [] (freshA t k)) o := by
  unfold instM
  rw [gen_nil, gen_nil, fresh_vars h hk]
  exact (matT_ren (ren_fresh t hk) (fun n hn => List.mem_map.2 ⟨n, hn, rfl⟩) (fun n hn => List.mem_map.2 ⟨n, hn, rfl⟩) t h (allV_vars t h) o noneS noneS ⟨fun _ _ => rfl, fun _ _ => rfl⟩).1
theorem fresh_apart {t : Ty} (h : rightT t = true) {k j : Int} (hk : 0 < k) (hj : j = k + ((varsT t).1.length : Int) + ((varsT t).2.length : Int)) :
    (∀ x ∈ (varsT (freshA t k)).1, ∀ y ∈ (varsT (freshA t j)).1, ¬ x = y) ∧ (∀ x ∈ (varsT (freshA t k)).2, ∀ y ∈ (varsT (freshA t j)).2, ¬ x = y) := by
  rw [fresh_vars h hk, fresh_vars h (show 0 < j by omega)]
  constructor
  · intro x hx y hy e
    obtain ⟨a, ha, rfl⟩ := List.mem_map.1 hx
    obtain ⟨b, hb, rfl⟩ := List.mem_map.1 hy
    have h1 := List.idxOf_lt_length_of_mem ha
    unfold rhoT at e; omega
  · intro x hx y hy e
    obtain ⟨a, ha, rfl⟩ := List.mem_map.1 hx
    obtain ⟨b, hb, rfl⟩ := List.mem_map.1 hy
    have h1 := List.idxOf_lt_length_of_mem ha
    unfold sigT at e; omega
theorem cnt_apply {θ : Sub} (hT : ∀ n x, alook n θ.ts = some x → cntT x = 1) (t : Ty) : cntT (applyT θ t) ≤ cntT t := by
  induction t using Ty.rec_ with
  | h t ih =>
    have h1 := cntT_eq t
    by_cases h7 : t.kind = 7
    · rw [applyT_var h7]
      cases hq : alook t.var θ.ts with
      | none => exact Nat.le_refl _
      | some x => dsimp only [Option.getD_some]; rw [hT _ _ hq]; omega
    · have hk := args_all t ih (fun l => cntTs (applyTs θ l) ≤ cntTs l) (by rw [applyTs]; exact Nat.le_refl _) (fun x l hx hl => by simp only [applyTs, cntTs]; omega)
      rw [applyT_not h7, cntT_eq, h1]
      show cntTs (applyTs θ t.args) + 1 ≤ _
      omega
theorem fresh_cnt (t : Ty) (k : Int) : cntT (freshA t k) ≤ cntT t := cnt_apply (fun n x hx => by
  rw [freshS_ts (s := genT [] t) (vars_nodup t).1] at hx
  split at hx
  · injection hx with hx; subst hx; rfl
  · cases hx) t
abbrev bareS (x : Ty) : Sch := ⟨[], [], x⟩
instance : RepR (fun m vs x => SchR m x vs) := ⟨fun hm h => h.mono hm, fun h => h.one⟩
-- what of an environment is kept
def keepB (x : Ty) : Bool := decide (deepT x ≤ 200) && rightT x && decide (cntT x < 50)
def keepT (l : List Ty) : List Ty := l.filter keepB
theorem keepT_snoc (l : List Ty) (x : Ty) : keepT (l ++ [x]) = if keepB x = true then keepT l ++ [x] else keepT l := by
  unfold keepT; rw [List.filter_append]; split
  · rename_i h; simp [h]
  · rename_i h; simp [h]
theorem keepB_right {x : Ty} (h : keepB x = true) : rightT x = true := by unfold keepB at h; simp only [Bool.and_eq_true] at h; exact h.1.2
theorem bare_small {ge : List Sch} {l : List Ty} (h : ge = (keepT l).map bareS) : ∀ x ∈ ge, cntT x.ty ≤ 50 := fun x hx => by
  subst h
  obtain ⟨y, hy, rfl⟩ := List.mem_map.1 hx
  unfold keepT at hy
  have := (List.mem_filter.1 hy).2
  unfold keepB at this; simp only [Bool.and_eq_true, decide_eq_true_eq] at this
  show cntT y ≤ 50
  omega
theorem bare_of {ge : List Sch} {l : List Ty} (h : ge = (keepT l).map bareS) : ∀ x ∈ ge, x = ⟨[], [], x.ty⟩ ∧ rightT x.ty = true := fun x hx => by
  subst h
  obtain ⟨y, hy, rfl⟩ := List.mem_map.1 hx
  exact ⟨rfl, keepB_right (List.mem_filter.1 hy).2⟩
theorem withS_ts {s : Sch} {i : Ty} {r : Rw} : (∀ n l, s.ts.drop 0 = n :: l → (withS s i r).ts = [(n, i)]) ∧ (s.ts.length = 0 → (withS s i r).ts = []) := by
  constructor
  · intro n l h; rw [List.drop_zero] at h; unfold withS; rw [h]
  · intro h; have := List.eq_nil_of_length_eq_zero h; unfold withS; rw [this]
theorem withS_rs {s : Sch} {i : Ty} {r : Rw} : (∀ n l, s.rs.drop 0 = n :: l → (withS s i r).rs = [(n, r)]) ∧ (s.rs.length = 0 → (withS s i r).rs = []) := by
  constructor
  · intro n l h; rw [List.drop_zero] at h; unfold withS; rw [h]
  · intro h; have := List.eq_nil_of_length_eq_zero h; unfold withS; rw [this]

end Go.Proofs.Ytmpponcnohakdaa
