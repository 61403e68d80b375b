/-
  'brocadelaw07': what the laws say, in plain words. Conditions: those of each theorem.
-/
import Derived.Test.YtlidonjpgigocaaGreatP2
namespace Go.Proofs.YtlidonjpgigocaaGreat
set_option linter.all false
set_option maxRecDepth 4000
open Go.RowKit
theorem applyTs_len' (s : Sub) (l : List Ty) : (applyTs s l).length = l.length := applyTs_len s l
theorem wd_oneT {one : Sub} {B : Nat} (hr : one.rs = []) (hB : ∀ n x, alook n one.ts = some x → wdT x ≤ B) (t : Ty) : wdT t ≤ B → wdT (applyT one t) ≤ B := by
  induction t using Ty.rec_ with
  | h t ih =>
    intro ht
    by_cases h7 : t.kind = 7
    · rw [applyT_var h7]
      cases hl : alook t.var one.ts with
      | none => exact ht
      | some x => exact hB _ _ hl
    · obtain ⟨e1, e2, e3, e4, e5, e6⟩ := apply_args (s := one) h7
      have hw := wdT_eq t
      have hn : ∀ r : Rw, (applyR one r).labels.length = r.labels.length := fun r => by rw [applyR_out (.inl (by rw [hr]; rfl))]; exact sortS_len _
      have hl : (applyT one t).labels.length = t.labels.length := by
        by_cases h5 : t.kind = 5
        · rw [(e5 h5).1, hn]
        · rw [(e6 h5).1]
      have key : ∀ l : List Ty, (∀ u ∈ l, u ∈ t.args) → wdTs (applyTs one l) ≤ B := by
        intro l
        induction l with
        | nil => intro _; simp [applyTs, wdTs]
        | cons x l ihl =>
          intro hl
          have h1 := ih x (hl x (.head _)) (Nat.le_trans (wdT_arg (hl x (.head _))) ht)
          have h2 := ihl fun u hu => hl u (.tail _ hu)
          rw [applyTs]; simp only [wdTs]; omega
      have hk := key t.args fun u hu => hu
      rw [wdT_eq (applyT one t), hl, e4, applyTs_len]; omega
theorem cnt_rows {one : Sub} (ht : one.ts = []) (t : Ty) : cntT (applyT one t) = cntT t := by
  induction t using Ty.rec_ with
  | h t ih =>
    by_cases h7 : t.kind = 7
    · rw [applyT_var h7, ht]; rfl
    · obtain ⟨e1, e2, e3, e4, e5, e6⟩ := apply_args (s := one) h7
      have key : ∀ l : List Ty, (∀ u ∈ l, u ∈ t.args) → cntTs (applyTs one l) = cntTs l := by
        intro l
        induction l with
        | nil => intro _; rfl
        | cons x l ihl =>
          intro hl
          rw [applyTs]; simp only [cntTs]; rw [ih x (hl x (.head _)), ihl fun u hu => hl u (.tail _ hu)]
      rw [cntT_eq, cntT_eq t, e4, key t.args fun u hu => hu]
theorem rlive_eq {rv : List Int} {U V : USt} (h : ∀ v ∈ rv, alook v V.s.rs = none ↔ alook v U.s.rs = none) : rlive rv V = rlive rv U := by
  unfold rlive
  congr 1
  apply List.filter_congr
  intro v hv
  rw [Bool.eq_iff_iff, Option.isNone_iff_eq_none, Option.isNone_iff_eq_none]; exact h v hv
theorem look_oneT (n k : Int) (t : Ty) : alook k (oneT n t).ts = if k = n then some t else none := by simp [oneT, alook]
theorem look_oneR (n k : Int) (r : Rw) : alook k (oneR n r).rs = if k = n then some r else none := by simp [oneR, alook]
theorem one_apart (n : Int) (t : Ty) : Apart (oneT n t) := ⟨by simp [oneT], by simp [oneT]⟩
theorem oneR_apart (n : Int) (r : Rw) : Apart (oneR n r) := ⟨by simp [oneR], by simp [oneR]⟩
/-- A type variable has become something. -/
theorem is_post {tv rv : List Int} {w : Nat} {U V : USt} {n : Int} {t : Ty} (h : UInv tv rv w U) (hn : n ∈ tv) (hu : alook n U.s.ts = none) (hr : rightT t = true)
    (hs : AllV (fun v => v ∈ tv ∧ alook v U.s.ts = none) (fun v => v ∈ rv ∧ alook v U.s.rs = none) t) (hw : wdT t ≤ w) (he : isU n t U = (0, V)) : UP tv rv w U rv w V ∧ applyT V.s t = t ∧ applyT V.s (varT n) = t := by
  unfold isU at he
  split at he
  · cases he
  · rename_i hno
    split at he
    · cases he
    · rename_i hbig
      simp only [Prod.mk.injEq, true_and] at he
      subst he
      have hb : largeT t = false ∧ ∀ p ∈ U.s.ts, bigU n t p.2 = false := by
        rw [Bool.not_eq_true, Bool.or_eq_false_iff] at hbig
        refine ⟨hbig.1, fun p hp => ?_⟩
        have := List.any_eq_false.1 hbig.2 p hp
        simpa using this
      have hV := thenR_over (b := oneT n t) h.ap
      have hne : AllV (fun v => v ≠ n) (fun _ => True) t := AllV.mono (P := (· ∈ (varsT t).1)) (Q := (· ∈ (varsT t).2)) (fun v hv => fun (e : v = n) => hno (by rw [← e]; exact hv)) (fun _ _ => trivial) t (allV_vars t hr)
      have hst : StepOk tv rv w U (oneT n t) := by
        refine ⟨one_apart n t, fun k x e => ?_, fun k r e => (by cases e)⟩
        rw [look_oneT] at e
        split at e
        · rename_i hk; injection e with e; subst e; subst hk
          refine ⟨hn, hu, hr, hb.1, hw, (hs.and _ hne).mono (fun v q => ⟨q.1.1, q.1.2, ?_⟩) (fun v q => ⟨q.1.1, q.1.2, rfl⟩)⟩
          rw [look_oneT, if_neg q.2]
        · cases e
      have hB : ∀ k x, alook k (oneT n t).ts = some x → wdT x ≤ w := fun k x e => (hst.tk k x e).2.2.2.2.1
      have hI : UInv tv rv w ⟨thenR U.s (oneT n t), U.nx⟩ := h.step hst hV (thenR_apart (one_apart n t)) (Nat.le_refl _) (Int.le_refl _) (fun k x e => by
          have := hb.2 _ (alook_mem e)
          unfold bigU at this
          rw [Bool.or_eq_false_iff] at this; exact this.2) (fun k x e => wd_oneT rfl hB x (h.tk k x e).2.2.2.1) (fun k r e => by
          rw [applyR_out (.inl rfl)]; show (sortS r.labels).length ≤ w; rw [sortS_len]; exact (h.rk k r e).2.2.1)
      have hVt : ∀ x, applyT (thenR U.s (oneT n t)) x = applyT (oneT n t) (applyT U.s x) := fun x => applyT_then hV x
      have hrl : rlive rv ⟨thenR U.s (oneT n t), U.nx⟩ = rlive rv U := rlive_eq fun v _ => by
        rw [over_none hV.2]; exact ⟨fun q => q.1, fun q => ⟨q, rfl⟩⟩
      have htl : tlive tv ⟨thenR U.s (oneT n t), U.nx⟩ + 1 ≤ tlive tv U := by
        refine filter_lt (u := n) (fun v _ hv => ?_) hn (by rw [hu]; rfl) ?_
        · rw [Option.isNone_iff_eq_none] at hv ⊢; exact ((over_none hV.1).1 hv).1
        · cases hq : alook n (thenR U.s (oneT n t)).ts with
          | none => have := ((over_none hV.1).1 hq).2; rw [look_oneT, if_pos rfl] at this; cases this
          | some x => rfl
      have hUt : applyT U.s t = t := apply_free hr (hs.mono (fun _ q => q.2) (fun _ q => q.2))
      refine ⟨⟨hI, fun _ q => q, abs_then hV h.self, Nat.le_refl _, by rw [hrl]; exact Nat.le_refl _, by omega, .inl (by omega), fun x hx hwx => by rw [hVt]; exact wd_oneT rfl hB _ hwx, ⟨Int.le_refl _, by rw [hrl]; exact Int.le_refl _⟩⟩, ?_, ?_⟩
      · rw [hVt, hUt]
        exact apply_free hr (hne.mono (fun v q => by rw [look_oneT, if_neg q]) (fun _ _ => rfl))
      · rw [hVt, applyT_var (s := U.s) (t := varT n) rfl, show (varT n).var = n from rfl, hu]
        show applyT (oneT n t) (varT n) = t
        rw [applyT_var rfl, look_oneT]; simp [varT, Ty.var]
theorem is_err {n : Int} {t : Ty} {U : USt} {e : Int} {V : USt} (h : isU n t U = (e, V)) (h0 : e ≠ 0) : V = U ∧ (e = 5 ∨ e = 6) := by
  unfold isU at h
  split at h
  · injection h with h1 h2; exact ⟨h2.symm, .inl h1.symm⟩
  · split at h
    · injection h with h1 h2; exact ⟨h2.symm, .inr h1.symm⟩
    · injection h with h1 h2; exact absurd h1.symm h0
theorem is_cases (n : Int) (t : Ty) (U : USt) : (isU n t U).1 = 0 ∨ (isU n t U).1 = 5 ∨ (isU n t U).1 = 6 := by
  unfold isU; split
  · exact .inr (.inl rfl)
  · split
    · exact .inr (.inr rfl)
    · exact .inl rfl
-- rows
theorem moreS_sub : ∀ a l : List Str, (moreS a l).Sublist a
  | [], _ => List.Sublist.slnil
  | x :: a, l => by
    rw [moreS]; split
    · exact (moreS_sub a _).cons x
    · exact (moreS_sub a _).cons_cons x
theorem rowOk_sub {l k : List Str} {v n : Int} (h : rowOk l v = true) (hs : k.Sublist l) (hn : 0 ≤ n) : rowOk k n = true := by
  have h1 := rowOk_no h
  unfold rowOk at h ⊢
  simp only [Bool.and_eq_true, decide_eq_true_eq] at h ⊢
  refine ⟨⟨hn, (sorted_iff _).2 (((sorted_iff _).1 h.1.2).sublist hs)⟩, ?_⟩
  simp only [Bool.not_eq_true', List.contains_eq_mem, decide_eq_false_iff_not]
  exact fun hm => h1 (hs.subset hm)
theorem then_assoc {u o1 v1 o2 v t : Sub} (h1 : ThenS u o1 v1) (h2 : ThenS v1 o2 v) (h3 : ThenS o1 o2 t) : ThenS u t v := by
  have e1 : applyT t = applyT o2 ∘ applyT o1 := funext fun x => applyT_then h3 x
  have e2 : applyR t = applyR o2 ∘ applyR o1 := funext fun x => applyR_then h3 x
  refine ⟨fun k => ?_, fun k => ?_⟩
  · rw [h2.1 k, h1.1 k, h3.1 k, e1]
    cases alook k u.ts <;> simp
  · rw [h2.2 k, h1.2 k, h3.2 k, e2]
    cases alook k u.rs <;> simp
/-- A step of rows alone. -/
theorem rows_step {tv rv : List Int} {w : Nat} {U : USt} {two : Sub} {V : USt} (h : UInv tv rv w U) (hts : two.ts = []) (hs : StepOk tv rv w U two) (hV : ThenS U.s two V.s) (hap : Apart V.s) (hnx : U.nx ≤ V.nx)
    (hbud : rlive rv V + 1 ≤ rlive rv U) (hn2 : V.nx + rlive rv V ≤ U.nx + rlive rv U) : UP tv rv w U rv (w + w) V := by
  have hsw : SubW w two := ⟨fun n t e => (by rw [hts] at e; cases e), fun n r e => (hs.rk n r e).2.2.2.1⟩
  have hI : UInv tv rv (w + w) V := h.step hs hV hap (by omega) hnx (fun k x e => by
      have := (h.tk k x e).2.2.1
      have hc := cnt_rows hts x
      have hd : deepT (applyT two x) = deepT x := by
        clear e this hc
        induction x using Ty.rec_ with
        | h t ih =>
          by_cases h7 : t.kind = 7
          · rw [applyT_var h7, hts]; rfl
          · obtain ⟨_, _, _, e4, _⟩ := apply_args (s := two) h7
            have key : ∀ l : List Ty, (∀ u ∈ l, u ∈ t.args) → deepTs (applyTs two l) = deepTs l := by
              intro l
              induction l with
              | nil => intro _; rfl
              | cons x l ihl => intro hl; rw [applyTs]; simp only [deepTs]; rw [ih x (hl x (.head _)), ihl fun u hu => hl u (.tail _ hu)]
            rw [deepT_eq, deepT_eq t, e4, key t.args fun u hu => hu]
      unfold largeT at this ⊢; rw [hc, hd]; exact this) (fun k x e => Nat.le_trans (applyT_wd hsw x) (by have := (h.tk k x e).2.2.2.1; omega)) (fun k r e => Nat.le_trans (applyR_len hsw r) (by have := (h.rk k r e).2.2.1; omega))
  have hVt : ∀ x, applyT V.s x = applyT two (applyT U.s x) := fun x => applyT_then hV x
  refine ⟨hI, fun _ q => q, abs_then hV h.self, by omega, ?_, ?_, .inr fun t => by rw [hVt, cnt_rows hts], fun t _ ht => by rw [hVt]; exact Nat.le_trans (applyT_wd hsw _) (by omega), ⟨hnx, hn2⟩⟩
  · have : (w + w) * 2 ^ rlive rv V = w * 2 ^ (rlive rv V + 1) := by rw [Nat.pow_succ, ← Nat.two_mul, Nat.mul_comm 2 w, Nat.mul_assoc, Nat.mul_comm 2]
    rw [this]
    exact Nat.mul_le_mul_left _ (Nat.pow_le_pow_right (by omega) hbud)
  · refine filter_le fun v _ hv => ?_
    rw [Option.isNone_iff_eq_none] at hv ⊢; exact ((over_none hV.1).1 hv).1
theorem row_step {tv rv : List Int} {w : Nat} {U : USt} {n : Int} {r : Rw} (h : UInv tv rv w U) (hn : n ∈ rv) (hu : alook n U.s.rs = none) (hr : rowOk r.labels r.var = true) (hl : r.labels.length ≤ w) (hv : 0 < r.var → r.var ∈ rv ∧ alook r.var U.s.rs = none ∧ r.var ≠ n) :
    UP tv rv w U rv (w + w) ⟨rowU n r.labels r.var U.s, U.nx⟩ ∧ ∀ x, applyR (rowU n r.labels r.var U.s) x = applyR (oneR n r) (applyR U.s x) := by
  have hV : ThenS U.s (oneR n r) (rowU n r.labels r.var U.s) := thenR_over h.ap
  have hst : StepOk tv rv w U (oneR n r) := by
    refine ⟨oneR_apart n r, fun k x e => (by cases e), fun k x e => ?_⟩
    rw [look_oneR] at e
    split at e
    · rename_i hk; injection e with e; subst e; subst hk
      exact ⟨hn, hu, hr, hl, fun p => ⟨(hv p).1, (hv p).2.1, by rw [look_oneR, if_neg (hv p).2.2]⟩⟩
    · cases e
  have hb : rlive rv ⟨rowU n r.labels r.var U.s, U.nx⟩ + 1 ≤ rlive rv U := by
    refine filter_lt (u := n) (fun v _ hv => ?_) hn (by rw [hu]; rfl) ?_
    · rw [Option.isNone_iff_eq_none] at hv ⊢; exact ((over_none hV.2).1 hv).1
    · cases hq : alook n (rowU n r.labels r.var U.s).rs with
      | none => have := ((over_none hV.2).1 hq).2; rw [look_oneR, if_pos rfl] at this; cases this
      | some x => rfl
  exact ⟨rows_step h rfl hst hV (thenR_apart (oneR_apart n r)) (Int.le_refl _) hb (by show U.nx + _ ≤ U.nx + _; omega), fun x => applyR_then hV x⟩
theorem UInv.fresh {tv rv : List Int} {w : Nat} {U : USt} (h : UInv tv rv w U) (h0 : 0 < U.nx) : UInv tv (U.nx :: rv) w ⟨U.s, U.nx + 1⟩ :=
  ⟨h.ap, fun n x e => by
    obtain ⟨a, b, c, d, q⟩ := h.tk n x e
    exact ⟨a, b, c, d, q.mono (fun _ z => z) (fun _ z => ⟨.tail _ z.1, z.2⟩)⟩, fun n r e => by
    obtain ⟨a, b, c, d⟩ := h.rk n r e
    exact ⟨.tail _ a, b, c, fun p => ⟨.tail _ (d p).1, (d p).2⟩⟩, h.tp, fun n hn => by
    rcases List.mem_cons.1 hn with rfl | hn
    · exact ⟨by omega, by show U.nx < U.nx + 1; omega⟩
    · have := h.rp n hn; exact ⟨this.1, by show n < U.nx + 1; omega⟩, h.w2⟩
theorem UInv.new {tv rv : List Int} {w : Nat} {U : USt} (h : UInv tv rv w U) : alook U.nx U.s.rs = none ∧ ¬ U.nx ∈ rv := by
  refine ⟨?_, fun hm => by have := h.rp _ hm; omega⟩
  cases e : alook U.nx U.s.rs with
  | none => rfl
  | some r => have := h.rp _ (h.rk _ _ e).1; omega
theorem row_step2 {tv rv : List Int} {w : Nat} {U : USt} {u v : Int} {q p : List Str} (h : UInv tv rv w U) (h0 : 0 < U.nx) (huv : u ≠ v) (hu : u ∈ rv ∧ alook u U.s.rs = none) (hv : v ∈ rv ∧ alook v U.s.rs = none) (hq : rowOk q U.nx = true) (hp : rowOk p U.nx = true) (lq : q.length ≤ w) (lp : p.length ≤ w) :
    UP tv rv w U (U.nx :: rv) (w + w) ⟨rowU v p U.nx (rowU u q U.nx U.s), U.nx + 1⟩ ∧ (∀ x, applyR (rowU v p U.nx (rowU u q U.nx U.s)) x = applyR (oneR v ⟨p, U.nx⟩) (applyR (oneR u ⟨q, U.nx⟩) (applyR U.s x))) := by
  have hn := h.new
  have hun : u ≠ U.nx := fun e => hn.2 (e ▸ hu.1)
  have hvn : v ≠ U.nx := fun e => hn.2 (e ▸ hv.1)
  have h1 : ThenS U.s (oneR u ⟨q, U.nx⟩) (rowU u q U.nx U.s) := thenR_over h.ap
  have ap1 : Apart (rowU u q U.nx U.s) := thenR_apart (oneR_apart _ _)
  have h2 : ThenS (rowU u q U.nx U.s) (oneR v ⟨p, U.nx⟩) (rowU v p U.nx (rowU u q U.nx U.s)) := thenR_over ap1
  have h3 : ThenS (oneR u ⟨q, U.nx⟩) (oneR v ⟨p, U.nx⟩) (thenR (oneR u ⟨q, U.nx⟩) (oneR v ⟨p, U.nx⟩)) := thenR_over (oneR_apart _ _)
  obtain ⟨two, htwo⟩ : ∃ t, t = thenR (oneR u ⟨q, U.nx⟩) (oneR v ⟨p, U.nx⟩) := ⟨_, rfl⟩
  rw [← htwo] at h3
  have hts : two.ts = [] := by rw [htwo]; rfl
  have hV := then_assoc h1 h2 h3
  have lk : ∀ k, alook k two.rs = if k = u then some ⟨q, U.nx⟩ else if k = v then some ⟨p, U.nx⟩ else none := fun k => by
    rw [h3.2 k, look_oneR, look_oneR]
    split
    · show some (applyR (oneR v ⟨p, U.nx⟩) ⟨q, U.nx⟩) = _
      rw [applyR_out (.inl (by rw [look_oneR, if_neg (Ne.symm hvn)]; rfl)), (rowOk_sort hq).1]
    · rfl
  have lkn : alook U.nx two.rs = none := by rw [lk, if_neg (Ne.symm hun), if_neg (Ne.symm hvn)]
  have hst : StepOk tv (U.nx :: rv) w ⟨U.s, U.nx + 1⟩ two := by
    refine ⟨by rw [htwo]; exact thenR_apart (oneR_apart _ _), fun k x e => by rw [hts] at e; (cases e), fun k r e => ?_⟩
    rw [lk] at e
    split at e
    · rename_i hk; injection e with e; subst e; subst hk
      exact ⟨.tail _ hu.1, hu.2, hq, lq, fun _ => ⟨.head _, hn.1, lkn⟩⟩
    · split at e
      · rename_i hk; injection e with e; subst e; subst hk
        exact ⟨.tail _ hv.1, hv.2, hp, lp, fun _ => ⟨.head _, hn.1, lkn⟩⟩
      · cases e
  have f1 : rlive rv ⟨rowU v p U.nx (rowU u q U.nx U.s), U.nx + 1⟩ + 2 ≤ rlive rv U := by
    refine filter_lt2 huv (fun x _ hx => ?_) hu.1 hv.1 (by rw [hu.2]; rfl) (by rw [hv.2]; rfl) ?_ ?_
    · rw [Option.isNone_iff_eq_none] at hx ⊢; exact ((over_none hV.2).1 hx).1
    · cases hq : alook u (rowU v p U.nx (rowU u q U.nx U.s)).rs with
      | none => have := ((over_none hV.2).1 hq).2; rw [lk, if_pos rfl] at this; cases this
      | some x => rfl
    · cases hq : alook v (rowU v p U.nx (rowU u q U.nx U.s)).rs with
      | none => have := ((over_none hV.2).1 hq).2; rw [lk, if_neg (Ne.symm huv), if_pos rfl] at this; cases this
      | some x => rfl
  have hnV : alook U.nx (rowU v p U.nx (rowU u q U.nx U.s)).rs = none := (over_none hV.2).2 ⟨hn.1, lkn⟩
  have f2 : rlive (U.nx :: rv) ⟨rowU v p U.nx (rowU u q U.nx U.s), U.nx + 1⟩ = rlive rv ⟨rowU v p U.nx (rowU u q U.nx U.s), U.nx + 1⟩ + 1 := by
    unfold rlive; rw [List.filter_cons, if_pos (by rw [hnV]; rfl)]; rfl
  have f3 : rlive (U.nx :: rv) ⟨U.s, U.nx + 1⟩ = rlive rv U + 1 := by
    unfold rlive; rw [List.filter_cons, if_pos (by show (alook U.nx U.s.rs).isNone = true; rw [hn.1]; rfl)]; rfl
  have hP := rows_step (h.fresh h0) hts hst hV (thenR_apart (oneR_apart _ _)) (Int.le_refl _) (V := ⟨rowU v p U.nx (rowU u q U.nx U.s), U.nx + 1⟩) (by rw [f2, f3]; omega) (by rw [f2, f3]; show U.nx + 1 + _ ≤ U.nx + 1 + _; omega)
  refine ⟨⟨hP.inv, fun x hx => .tail _ hx, hP.ab, hP.wl, ?_, hP.tl, hP.cn, hP.wd, ⟨by show U.nx ≤ U.nx + 1; omega, by rw [f2]; show U.nx + 1 + _ ≤ U.nx + _; omega⟩⟩, fun x => by rw [applyR_then hV, applyR_then h3]⟩
  have e : (w + w) * 2 ^ rlive (U.nx :: rv) ⟨rowU v p U.nx (rowU u q U.nx U.s), U.nx + 1⟩ = w * 2 ^ (rlive (U.nx :: rv) ⟨rowU v p U.nx (rowU u q U.nx U.s), U.nx + 1⟩ + 1) := by rw [Nat.pow_succ, ← Nat.two_mul, Nat.mul_comm 2 w, Nat.mul_assoc, Nat.mul_comm 2]
  rw [e]
  exact Nat.mul_le_mul_left _ (Nat.pow_le_pow_right (by omega) (by omega))

end Go.Proofs.YtlidonjpgigocaaGreat
