/-
  'brocadelaw07': what the laws say, in plain words. Conditions: those of each theorem.
-/
import Derived.Test.YtlidonjpgigocaaGreatP3
namespace Go.Proofs.YtlidonjpgigocaaGreat
set_option linter.all false
set_option maxRecDepth 4000
open Go.RowKit
theorem Rv_oneR (n v : Int) (r : Rw) (hn : n ≠ 0) : Rv (oneR n r) v = if v = n then r else ⟨[], v⟩ := by
  unfold Rv
  by_cases h0 : v = 0
  · rw [if_pos h0, if_neg (fun (e : v = n) => hn (by rw [← e]; exact h0)), h0]
  · rw [if_neg h0, look_oneR]; split <;> rfl
theorem rowOk_eq {a b : Rw} (ha : rowOk a.labels a.var = true) (hb : rowOk b.labels b.var = true) (hc : ∀ x, a.labels.count x = b.labels.count x) (hv : a.var = b.var) : a = b := by
  have h1 := sort_iff.2 hc
  rw [(rowOk_sort ha).1, (rowOk_sort hb).1] at h1
  obtain ⟨l, v⟩ := a; obtain ⟨k, u⟩ := b
  simp only at h1 hv; rw [h1, hv]
/-- Two rows that stand as they are with what is said. -/
theorem rowsV_post {tv rv : List Int} {w : Nat} {U V : USt} {A B : Rw} {e : Int} (h : UInv tv rv w U) (h0 : 0 < U.nx) (hA : rowOk A.labels A.var = true) (hB : rowOk B.labels B.var = true) (vA : 0 < A.var → A.var ∈ rv ∧ alook A.var U.s.rs = none) (vB : 0 < B.var → B.var ∈ rv ∧ alook B.var U.s.rs = none)
    (lA : A.labels.length ≤ w) (lB : B.labels.length ≤ w) (cA : applyR U.s A = A) (cB : applyR U.s B = B) (he : rowsV A B (moreS A.labels B.labels) (moreS B.labels A.labels) U = (e, V)) :
    (e = 5 ∧ V = U) ∨ (e = 0 ∧ ∃ rv' w', UP tv rv w U rv' w' V ∧ applyR V.s A = applyR V.s B) := by
  have pA := (rowOk_sort hA).2; have pB := (rowOk_sort hB).2
  have hp := fun x => count_more x A.labels B.labels
  have hq := fun x => count_more x B.labels A.labels
  have sp := moreS_sub A.labels B.labels
  have sq := moreS_sub B.labels A.labels
  have lp := moreS_len A.labels B.labels
  have lq := moreS_len B.labels A.labels
  generalize moreS A.labels B.labels = p at *
  generalize moreS B.labels A.labels = q at *
  unfold rowsV at he
  split at he
  · rename_i hpq
    obtain ⟨rfl, rfl⟩ := hpq
    simp only [List.count_nil] at hp hq
    split at he
    · rename_i huv
      injection he with e1 e2; subst e1; subst e2
      refine .inr ⟨rfl, rv, w, UP.refl h, ?_⟩
      rw [rowOk_eq hA hB (fun x => by have := hp x; have := hq x; omega) huv]
    · rename_i huv
      split at he
      · rename_i hu
        injection he with e1 e2; subst e1; subst e2
        have hv := vB (by omega)
        obtain ⟨hP, hR⟩ := row_step (r := ⟨[], 0⟩) h hv.1 hv.2 rfl (Nat.zero_le _) (fun p => absurd p (by simp))
        refine .inr ⟨rfl, rv, w + w, hP, ?_⟩
        rw [hR, hR, cA, cB, row_iff, Rv_oneR _ _ _ (by omega), Rv_oneR _ _ _ (by omega), if_neg huv, if_pos rfl]
        exact ⟨fun x => by have := hp x; have := hq x; simp; omega, hu⟩
      · rename_i hu
        injection he with e1 e2; subst e1; subst e2
        have hv := vA (by omega)
        obtain ⟨hP, hR⟩ := row_step (r := ⟨[], B.var⟩) h hv.1 hv.2 (by unfold rowOk; simp [pB, isSortedS]) (Nat.zero_le _) (fun p => ⟨(vB p).1, (vB p).2, Ne.symm huv⟩)
        refine .inr ⟨rfl, rv, w + w, hP, ?_⟩
        rw [hR, hR, cA, cB, row_iff, Rv_oneR _ _ _ hu, Rv_oneR _ _ _ hu, if_pos rfl, if_neg (Ne.symm huv)]
        exact ⟨fun x => by have := hp x; have := hq x; omega, rfl⟩
  · rename_i hpq
    split at he
    · injection he with e1 e2; exact .inl ⟨e1.symm, e2.symm⟩
    · rename_i hno
      have hno1 : p ≠ [] → B.var ≠ 0 := fun a b => hno (.inl ⟨a, b⟩)
      have hno2 : q ≠ [] → A.var ≠ 0 := fun a b => hno (.inr (.inl ⟨a, b⟩))
      have huv : A.var ≠ B.var := fun a => hno (.inr (.inr a))
      split at he
      · rename_i hq0
        have hp0 : p ≠ [] := fun a => hpq ⟨a, hq0⟩
        subst hq0
        simp only [List.count_nil] at hq
        injection he with e1 e2; subst e1; subst e2
        have hv := vB (by have := hno1 hp0; omega)
        obtain ⟨hP, hR⟩ := row_step (r := ⟨p, A.var⟩) h hv.1 hv.2 (rowOk_sub hA sp pA) (by show p.length ≤ w; omega) (fun p => ⟨(vA p).1, (vA p).2, huv⟩)
        refine .inr ⟨rfl, rv, w + w, hP, ?_⟩
        rw [hR, hR, cA, cB, row_iff, Rv_oneR _ _ _ (hno1 hp0), Rv_oneR _ _ _ (hno1 hp0), if_neg huv, if_pos rfl]
        exact ⟨fun x => by have := hp x; have := hq x; simp only [List.count_nil]; omega, rfl⟩
      · rename_i hq0
        split at he
        · rename_i hp0
          subst hp0
          simp only [List.count_nil] at hp
          injection he with e1 e2; subst e1; subst e2
          have hv := vA (by have := hno2 hq0; omega)
          obtain ⟨hP, hR⟩ := row_step (r := ⟨q, B.var⟩) h hv.1 hv.2 (rowOk_sub hB sq pB) (by show q.length ≤ w; omega) (fun p => ⟨(vB p).1, (vB p).2, Ne.symm huv⟩)
          refine .inr ⟨rfl, rv, w + w, hP, ?_⟩
          rw [hR, hR, cA, cB, row_iff, Rv_oneR _ _ _ (hno2 hq0), Rv_oneR _ _ _ (hno2 hq0), if_pos rfl, if_neg (Ne.symm huv)]
          exact ⟨fun x => by have := hp x; have := hq x; simp only [List.count_nil]; omega, rfl⟩
        · rename_i hp0
          injection he with e1 e2; subst e1; subst e2
          have hv := vB (by have := hno1 hp0; omega)
          have hu := vA (by have := hno2 hq0; omega)
          obtain ⟨hP, hR⟩ := row_step2 (q := q) (p := p) h h0 huv hu hv (rowOk_sub hB sq (by omega)) (rowOk_sub hA sp (by omega)) (by omega) (by omega)
          have hn := h.new
          have hun : A.var ≠ U.nx := fun e => hn.2 (e ▸ hu.1)
          have hvn : B.var ≠ U.nx := fun e => hn.2 (e ▸ hv.1)
          have ha1 : applyR (oneR A.var ⟨q, U.nx⟩) A = ⟨sortS (A.labels ++ q), U.nx⟩ := by rw [applyR_eq, Rv_oneR _ _ _ (hno2 hq0), if_pos rfl]
          have hb1 : applyR (oneR A.var ⟨q, U.nx⟩) B = ⟨sortS B.labels, B.var⟩ := by rw [applyR_eq, Rv_oneR _ _ _ (hno2 hq0), if_neg (Ne.symm huv), List.append_nil]
          refine .inr ⟨rfl, _, w + w, hP, ?_⟩
          rw [hR, hR, cA, cB, ha1, hb1, row_iff, Rv_oneR _ _ _ (hno1 hp0), Rv_oneR _ _ _ (hno1 hp0), if_neg (Ne.symm hvn), if_pos rfl]
          refine ⟨fun x => ?_, rfl⟩
          have := hp x; have := hq x
          simp only [count_sort, List.count_append, List.count_nil]; omega
theorem UInv.row {tv rv : List Int} {w : Nat} {U : USt} (h : UInv tv rv w U) {a : Rw} (ha : rowOk a.labels a.var = true) (va : 0 < a.var → a.var ∈ rv) :
    rowOk (applyR U.s a).labels (applyR U.s a).var = true ∧ (0 < (applyR U.s a).var → (applyR U.s a).var ∈ rv ∧ alook (applyR U.s a).var U.s.rs = none) ∧ applyR U.s (applyR U.s a) = applyR U.s a := by
  refine ⟨applyR_ok ha (fun n x e => (h.ok.rs n x e).2), ?_, abs_row h.self a⟩
  rw [applyR_eq]
  dsimp only
  by_cases hz : a.var = 0
  · rw [hz, Rv_zero]; intro p; exact absurd p (by simp)
  · have hp : 0 < a.var := by have := (rowOk_sort ha).2; omega
    cases hl : alook a.var U.s.rs with
    | none => rw [Rv_none hl]; exact fun _ => ⟨va hp, hl⟩
    | some r => rw [Rv_some hl hz]; exact (h.rk _ _ hl).2.2.2
theorem rows_post {tv rv : List Int} {w : Nat} {U V : USt} {a b : Rw} {e : Int} (h : UInv tv rv w U) (h0 : 0 < U.nx) (ha : rowOk a.labels a.var = true) (hb : rowOk b.labels b.var = true) (va : 0 < a.var → a.var ∈ rv) (vb : 0 < b.var → b.var ∈ rv) (la : (applyR U.s a).labels.length ≤ w) (lb : (applyR U.s b).labels.length ≤ w)
    (he : rowsU a b U = (e, V)) : (e = 5 ∧ V = U) ∨ (e = 0 ∧ ∃ rv' w', UP tv rv w U rv' w' V ∧ applyR V.s a = applyR V.s b) := by
  obtain ⟨a1, a2, a3⟩ := h.row ha va
  obtain ⟨b1, b2, b3⟩ := h.row hb vb
  rcases rowsV_post h h0 a1 b1 a2 b2 la lb a3 b3 he with q | ⟨q, rv', w', hP, hE⟩
  · exact .inl q
  · refine .inr ⟨q, rv', w', hP, ?_⟩
    rw [← abs_row hP.ab a, ← abs_row hP.ab b, hE]
theorem right_ref {t : Ty} (h : rightT t = true) (h6 : t.kind = 6) : ∃ x, t = ⟨6, [], 0, [x], [], 0⟩ ∧ rightT x = true := by
  have h' := h
  rw [rightR_eq, hdT6 h6] at h
  simp only [Bool.and_eq_true, decide_eq_true_eq, bareT] at h
  obtain ⟨⟨⟨⟨h1, h2, h3⟩, h4⟩, h5⟩, _⟩ := h
  obtain ⟨k, nm, v, ks, ls, rv⟩ := t
  simp only [Ty.kind, Ty.name, Ty.var, Ty.args, Ty.labels, Ty.rv] at *
  have e2 : ls = [] := List.eq_nil_of_length_eq_zero (by omega)
  subst e2; subst h3; subst h4; subst h5; subst h6
  match ks, h1 with
  | [x], _ => exact ⟨x, rfl, right_arg h' (.head _)⟩
theorem right_fun {t : Ty} (h : rightT t = true) (h5 : t.kind = 5) : ∃ x y ls rv, t = ⟨5, [], 0, [x, y], ls, rv⟩ ∧ rightT x = true ∧ rightT y = true ∧ rowOk ls rv = true := by
  have h' := h
  rw [rightR_eq, hdT5 h5] at h
  simp only [Bool.and_eq_true, decide_eq_true_eq] at h
  obtain ⟨⟨⟨⟨h1, h2⟩, h3⟩, h4⟩, _⟩ := h
  obtain ⟨k, nm, v, ks, ls, rv⟩ := t
  simp only [Ty.kind, Ty.name, Ty.var, Ty.args, Ty.labels, Ty.rv] at *
  subst h3; subst h4; subst h5
  match ks, h1 with
  | [x, y], _ => exact ⟨x, y, ls, rv, rfl, right_arg h' (.head _), right_arg h' (.tail _ (.head _)), h2⟩
theorem fun_apply (s : Sub) (x y : Ty) (ls : List Str) (rv : Int) : applyT s ⟨5, [], 0, [x, y], ls, rv⟩ = ⟨5, [], 0, [applyT s x, applyT s y], (applyR s ⟨ls, rv⟩).labels, (applyR s ⟨ls, rv⟩).var⟩ := by
  rw [applyT]; simp [applyTs]
theorem ref_apply (s : Sub) (x : Ty) : applyT s ⟨6, [], 0, [x], [], 0⟩ = ⟨6, [], 0, [applyT s x], [], 0⟩ := by
  rw [applyT]; simp [applyTs]
theorem types_post : ∀ (k : Nat) (a b : Ty) (U : USt) (R : Int × USt), typesU k a b U = some R → ∀ (tv rv : List Int) (w : Nat), UInv tv rv w U → 0 < U.nx → rightT a = true → rightT b = true → Sc tv rv a → Sc tv rv b → wdT (applyT U.s a) ≤ w → wdT (applyT U.s b) ≤ w →
    ∃ rv' w', UP tv rv w U rv' w' R.2 ∧ (R.1 = 0 ∨ R.1 = 5 ∨ R.1 = 6) ∧ (R.1 = 0 → applyT R.2.s a = applyT R.2.s b) := by
  intro k
  induction k with
  | zero => intro a b U R hR; rw [typesU] at hR; cases hR
  | succ k ih =>
    intro a b U R hR tv rv w hI h0 ra rb sa sb wa wb
    obtain ⟨_, hB⟩ := typesU_ok hR
    have da := hI.sc ra sa; have db := hI.sc rb sb
    have pra := right_and hI.ok ra; have prb := right_and hI.ok rb
    have ea := abs_type hI.self a ra; have eb := abs_type hI.self b rb
    have fa : ∀ {V : USt}, Abs V.s U.s → applyT V.s (applyT U.s a) = applyT V.s a := fun h => abs_type h a ra
    have fb : ∀ {V : USt}, Abs V.s U.s → applyT V.s (applyT U.s b) = applyT V.s b := fun h => abs_type h b rb
    generalize applyT U.s a = pa at *
    generalize applyT U.s b = pb at *
    -- it is enough to look at what is made of both
    suffices hs : ∃ rv' w', UP tv rv w U rv' w' R.2 ∧ (R.1 = 0 ∨ R.1 = 5 ∨ R.1 = 6) ∧ (R.1 = 0 → applyT R.2.s pa = applyT R.2.s pb) by
      obtain ⟨rv', w', h1, h2, h3⟩ := hs
      exact ⟨rv', w', h1, h2, fun h => by rw [← fa h1.ab, ← fb h1.ab]; exact h3 h⟩
    unfold typesB at hB
    split at hB
    · rename_i heq
      injection hB with hB; subst hB
      exact ⟨rv, w, UP.refl hI, .inl rfl, fun _ => by rw [heq]⟩
    · split at hB
      · rename_i h7
        injection hB with hB
        have hv := right_var pra h7
        have h1 := da.here.1 h7
        cases hc : isU pa.var pb U with
        | mk e V =>
        rw [hc] at hB; subst hB
        by_cases he : e = 0
        · subst he
          obtain ⟨hP, e1, e2⟩ := is_post hI h1.1 h1.2 prb db wb hc
          exact ⟨rv, w, hP, .inl rfl, fun _ => by rw [e1, hv]; exact e2⟩
        · obtain ⟨rfl, h2⟩ := is_err hc he
          exact ⟨rv, w, UP.refl hI, .inr h2, fun h => absurd h he⟩
      · split at hB
        · rename_i h7
          injection hB with hB
          have hv := right_var prb h7
          have h1 := db.here.1 h7
          cases hc : isU pb.var pa U with
          | mk e V =>
          rw [hc] at hB; subst hB
          by_cases he : e = 0
          · subst he
            obtain ⟨hP, e1, e2⟩ := is_post hI h1.1 h1.2 pra da wa hc
            exact ⟨rv, w, hP, .inl rfl, fun _ => by rw [e1, hv]; exact e2.symm⟩
          · obtain ⟨rfl, h2⟩ := is_err hc he
            exact ⟨rv, w, UP.refl hI, .inr h2, fun h => absurd h he⟩
        · split at hB
          · injection hB with hB; subst hB
            exact ⟨rv, w, UP.refl hI, .inr (.inl rfl), fun h => absurd h (by simp)⟩
          · rename_i hkk
            have hk : pa.kind = pb.kind := Decidable.byContradiction fun h => hkk (.inl h)
            split at hB
            · rename_i h6
              obtain ⟨x, rfl, rx⟩ := right_ref pra h6.1
              obtain ⟨y, rfl, ry⟩ := right_ref prb (hk ▸ h6.1)
              have dx := da.here.2.2 x (.head _); have dy := db.here.2.2 y (.head _)
              have ux : applyT U.s x = x := apply_free rx (dx.mono (fun _ q => q.2) (fun _ q => q.2))
              have uy : applyT U.s y = y := apply_free ry (dy.mono (fun _ q => q.2) (fun _ q => q.2))
              obtain ⟨rv', w', hP, h2, h3⟩ := ih x y U R hB tv rv w hI h0 rx ry (dx.mono (fun _ q => q.1) (fun _ q => q.1)) (dy.mono (fun _ q => q.1) (fun _ q => q.1))
                (by rw [ux]; exact Nat.le_trans (wdT_arg (t := ⟨6, [], 0, [x], [], 0⟩) (.head _)) wa) (by rw [uy]; exact Nat.le_trans (wdT_arg (t := ⟨6, [], 0, [y], [], 0⟩) (.head _)) wb)
              exact ⟨rv', w', hP, h2, fun h => by rw [ref_apply, ref_apply, h3 h]⟩
            · split at hB
              · rename_i h5
                obtain ⟨x1, y1, l1, r1, rfl, rx1, ry1, ro1⟩ := right_fun pra h5.1
                obtain ⟨x2, y2, l2, r2, rfl, rx2, ry2, ro2⟩ := right_fun prb (hk ▸ h5.1)
                have dx1 := da.here.2.2 x1 (.head _); have dx2 := db.here.2.2 x2 (.head _)
                have dy1 := da.here.2.2 y1 (.tail _ (.head _)); have dy2 := db.here.2.2 y2 (.tail _ (.head _))
                have dr1 := da.here.2.1 rfl; have dr2 := db.here.2.1 rfl
                have fr : ∀ {z : Ty}, rightT z = true → AllV (fun v => v ∈ tv ∧ alook v U.s.ts = none) (fun v => v ∈ rv ∧ alook v U.s.rs = none) z → applyT U.s z = z := fun h k => apply_free h (k.mono (fun _ q => q.2) (fun _ q => q.2))
                have sc : ∀ {z : Ty} {rv' : List Int}, (∀ v ∈ rv, v ∈ rv') → AllV (fun v => v ∈ tv ∧ alook v U.s.ts = none) (fun v => v ∈ rv ∧ alook v U.s.rs = none) z → Sc tv rv' z := fun h k => k.mono (fun _ q => q.1) (fun _ q => h _ q.1)
                have w1 : ∀ {z : Ty}, z ∈ [x1, y1] → wdT z ≤ w := fun h => Nat.le_trans (wdT_arg (t := ⟨5, [], 0, [x1, y1], l1, r1⟩) h) wa
                have w2 : ∀ {z : Ty}, z ∈ [x2, y2] → wdT z ≤ w := fun h => Nat.le_trans (wdT_arg (t := ⟨5, [], 0, [x2, y2], l2, r2⟩) h) wb
                obtain ⟨R1, e1, e2⟩ := run_cons hB
                change typesU k x1 x2 U = some R1 at e1
                obtain ⟨rv1, z1, hP1, c1, g1⟩ := ih x1 x2 U R1 e1 tv rv w hI h0 rx1 rx2 (sc (fun _ q => q) dx1) (sc (fun _ q => q) dx2) (by rw [fr rx1 dx1]; exact w1 (.head _)) (by rw [fr rx2 dx2]; exact w2 (.head _))
                by_cases hn1 : R1.1 ≠ 0
                · rw [if_pos hn1] at e2; injection e2 with e2; subst e2
                  exact ⟨rv1, z1, hP1, c1, fun h => absurd h hn1⟩
                · rw [if_neg hn1] at e2
                  have g1 := g1 (Decidable.byContradiction hn1)
                  obtain ⟨R2, e3, e4⟩ := run_cons e2
                  obtain ⟨_, e3⟩ := rowsO_ok e3
                  change rowsU ⟨l1, r1⟩ ⟨l2, r2⟩ R1.2 = R2 at e3
                  have wp1 := hP1.wd _ pra (by rw [ea]; exact wa)
                  have wp2 := hP1.wd _ prb (by rw [eb]; exact wb)
                  rw [fun_apply, wdT_eq] at wp1 wp2
                  simp only [Ty.labels] at wp1 wp2
                  obtain ⟨f2, V2⟩ := R2
                  rcases rows_post hP1.inv (by have := hP1.nx.1; omega) ro1 ro2 (fun p => hP1.sub _ (dr1 p).1) (fun p => hP1.sub _ (dr2 p).1) (by omega) (by omega) e3 with ⟨q1, q2⟩ | ⟨q1, rv2, z2, hP2, g2⟩
                  · dsimp only at e4 
                    rw [if_pos (by rw [q1]; decide)] at e4; injection e4 with e4; subst e4; subst q2
                    exact ⟨rv1, z1, hP1, .inr (.inl q1), fun h => absurd (q1.symm.trans h) (by decide)⟩
                  · dsimp only at e4
                    rw [if_neg (by rw [q1]; decide)] at e4
                    have hP12 := hP1.trans hI hP2
                    obtain ⟨R3, e5, e6⟩ := run_cons e4
                    change typesU k y1 y2 V2 = some R3 at e5
                    obtain ⟨rv3, z3, hP3, c3, g3⟩ := ih y1 y2 V2 R3 e5 tv rv2 z2 hP12.inv (by have := hP12.nx.1; omega) ry1 ry2 (sc hP12.sub dy1) (sc hP12.sub dy2) (hP12.wd _ ry1 (by rw [fr ry1 dy1]; exact w1 (.tail _ (.head _)))) (hP12.wd _ ry2 (by rw [fr ry2 dy2]; exact w2 (.tail _ (.head _))))
                    have hP := hP12.trans hI hP3
                    have hR3 : R = R3 := by
                      by_cases hn3 : R3.1 ≠ 0
                      · rw [if_pos hn3] at e6; injection e6 with e6; exact e6.symm
                      · rw [if_neg hn3, runU] at e6; injection e6 with e6; rw [← e6, ← Decidable.byContradiction hn3]
                    rw [hR3]
                    refine ⟨rv3, z3, hP, c3, fun h => ?_⟩
                    have ok1 := hP1.inv.ok
                    have hab1 : Abs R3.2.s R1.2.s := hP3.ab.trans hP2.ab ok1
                    rw [fun_apply, fun_apply, g3 h, ← abs_type hab1 x1 rx1, g1, abs_type hab1 x2 rx2, ← abs_row hP3.ab ⟨l1, r1⟩, g2, abs_row hP3.ab ⟨l2, r2⟩]
              · injection hB with hB; subst hB
                exact ⟨rv, w, UP.refl hI, .inr (.inl rfl), fun h => absurd h (by simp)⟩

end Go.Proofs.YtlidonjpgigocaaGreat
