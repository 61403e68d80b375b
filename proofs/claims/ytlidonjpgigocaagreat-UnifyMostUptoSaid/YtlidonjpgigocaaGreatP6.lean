/-
  'brocadelaw07': what the laws say, in plain words. Conditions: those of each theorem.
-/
import Derived.Test.YtlidonjpgigocaaGreatP5
namespace Go.Proofs.YtlidonjpgigocaaGreat
set_option linter.all false
set_option maxRecDepth 4000
open Go.RowKit
-- whatever else makes two types the same goes on from what is said
theorem row_agree {s t : Sub} {r : Rw} (h : 0 < r.var → alook r.var s.rs = alook r.var t.rs) (h0 : 0 ≤ r.var) : applyR s r = applyR t r := by
  rw [applyR_eq, applyR_eq]
  have : Rv s r.var = Rv t r.var := by
    unfold Rv
    by_cases hz : r.var = 0
    · rw [if_pos hz, if_pos hz]
    · rw [if_neg hz, if_neg hz, h (by omega)]
  rw [this]
theorem type_agree {s t : Sub} (x : Ty) : rightT x = true → AllV (fun v => alook v s.ts = alook v t.ts) (fun v => alook v s.rs = alook v t.rs) x → applyT s x = applyT t x := by
  induction x using Ty.rec_ with
  | h x ih =>
    intro hr h
    obtain ⟨h1, h2, h3⟩ := h.here
    by_cases h7 : x.kind = 7
    · rw [applyT_var h7, applyT_var h7, h1 h7]
    · have key : ∀ l : List Ty, (∀ u ∈ l, u ∈ x.args) → applyTs s l = applyTs t l := by
        intro l
        induction l with
        | nil => intro _; rfl
        | cons u l ihl =>
          intro hl
          rw [applyTs, applyTs, ih u (hl u (.head _)) (right_arg hr (hl u (.head _))) (h3 u (hl u (.head _))), ihl fun v hv => hl v (.tail _ hv)]
      rw [applyT_not h7, applyT_not h7, key x.args fun u hu => hu]
      by_cases h5 : x.kind = 5
      · rw [row_agree (s := s) (t := t) (r := ⟨x.labels, x.rv⟩) (fun p => h2 h5 p) (rowOk_sort (right_fun_row hr h5).1).2]
      · simp only [if_neg h5]
theorem abs_more {t u one v : Sub} (hV : ThenS u one v) (hu : Abs t u) (ho : Abs t one) (hok : SubOk u) : Abs t v := ⟨fun n x e => by
    rcases over_some hV.1 e with ⟨y, hy, rfl⟩ | ⟨_, hy⟩
    · rw [abs_type ho y (hok.ts _ _ hy).2, hu.ts _ _ hy]
    · exact ho.ts _ _ hy, fun n r e h0 => by
    rcases over_some hV.2 e with ⟨y, hy, rfl⟩ | ⟨_, hy⟩
    · rw [abs_row ho y, hu.rs _ _ hy h0]
    · exact ho.rs _ _ hy h0⟩
theorem ok_then {u one v : Sub} (hV : ThenS u one v) (hu : SubOk u) (ho : SubOk one) : SubOk v := ⟨fun n x e => by
    rcases over_some hV.1 e with ⟨y, hy, rfl⟩ | ⟨_, hy⟩
    · exact ⟨(hu.ts _ _ hy).1, right_and ho (hu.ts _ _ hy).2⟩
    · exact ho.ts _ _ hy, fun n r e => by
    rcases over_some hV.2 e with ⟨y, hy, rfl⟩ | ⟨_, hy⟩
    · exact ⟨(hu.rs _ _ hy).1, applyR_ok (hu.rs _ _ hy).2 fun n x e => (ho.rs n x e).2⟩
    · exact ho.rs _ _ hy⟩
theorem abs_oneT {t : Sub} {n : Int} {x : Ty} (h : applyT t x = applyT t (varT n)) : Abs t (oneT n x) := by
  refine ⟨fun k y e => ?_, fun k y e => (by cases e)⟩
  rw [look_oneT] at e; split at e
  · rename_i hk; injection e with e; subst e; subst hk; exact h
  · cases e
theorem abs_oneR {t : Sub} {n : Int} {x : Rw} (h : applyR t x = applyR t ⟨[], n⟩) : Abs t (oneR n x) := ⟨fun k y e => (by cases e), fun k y e _ => by
    rw [look_oneR] at e; split at e
    · rename_i hk; injection e with e; subst e; subst hk; exact h
    · cases e⟩
theorem oneR_ok {n : Int} {r : Rw} (hn : 1 ≤ n) (hr : rowOk r.labels r.var = true) : SubOk (oneR n r) := ⟨fun k y e => (by cases e), fun k y e => by
    rw [look_oneR] at e; split at e
    · rename_i hk; injection e with e; subst e; subst hk; exact ⟨hn, hr⟩
    · cases e⟩
theorem nil_of_count {l : List Str} (h : ∀ x, l.count x = 0) : l = [] := by
  cases l with
  | nil => rfl
  | cons a l => have := h a; rw [List.count_cons_self] at this; omega
theorem cnt_arg {t u : Ty} (h : u ∈ t.args) : cntT u < cntT t := by rw [cntT_eq t]; have := cntTs_mem h; omega
/-- A variable that stands in a type is not as large as it. -/
theorem occurs (θ : Sub) (n : Int) (t : Ty) : rightT t = true → n ∈ (varsT t).1 → cntT (applyT θ (varT n)) ≤ cntT (applyT θ t) ∧ (t.kind ≠ 7 → cntT (applyT θ (varT n)) < cntT (applyT θ t)) := by
  induction t using Ty.rec_ with
  | h t ih =>
    intro hr hn
    by_cases h7 : t.kind = 7
    · have hv := right_var hr h7
      have : t.var = n := by
        have h := (allV_all (P := fun v => v = t.var) (Q := fun _ => True) (t := t) (.mk (fun _ => rfl) (fun _ _ => trivial) fun u hu => by rw [hv] at hu; cases hu)).1 n hn
        exact h.symm
      rw [hv, this]; exact ⟨Nat.le_refl _, fun h => absurd rfl h⟩
    · have hex : ∃ u ∈ t.args, n ∈ (varsT u).1 := by
        refine Classical.byContradiction fun hno => ?_
        have h := (allV_all (P := fun v => v ≠ n) (Q := fun _ => True) (t := t) (.mk (fun e => absurd e h7) (fun _ _ => trivial) fun u hu => AllV.mono (P := (· ∈ (varsT u).1)) (Q := (· ∈ (varsT u).2)) (fun v hv => fun (e : v = n) => hno ⟨u, hu, e ▸ hv⟩) (fun _ _ => trivial) u (allV_vars u (right_arg hr hu)))).1 n hn
        exact h rfl
      obtain ⟨u, hu, hnu⟩ := hex
      have h1 := (ih u hu (right_arg hr hu) hnu).1
      have h2 : applyT θ u ∈ (applyT θ t).args := by rw [(apply_args (s := θ) h7).2.2.2.1, applyTs_map]; exact List.mem_map.2 ⟨u, hu, rfl⟩
      have h3 := cnt_arg h2
      exact ⟨by omega, fun _ => by omega⟩
/-- What goes on from a state: it says the same of what there was. -/
structure Goes (U : USt) (θ θ' : Sub) : Prop where
  ok : SubOk θ'
  ts : ∀ n, alook n θ'.ts = alook n θ.ts
  rs : ∀ n, n < U.nx → alook n θ'.rs = alook n θ.rs
theorem Goes.type {tv rv : List Int} {w : Nat} {U : USt} {θ θ' : Sub} (h : Goes U θ θ') (hI : UInv tv rv w U) {t : Ty} (hr : rightT t = true) (hs : Sc tv rv t) : applyT θ' t = applyT θ t :=
  type_agree t hr (AllV.mono (P := (· ∈ tv)) (Q := (· ∈ rv)) (fun v _ => h.ts v) (fun v hv => h.rs v (hI.rp v hv).2) t hs)
theorem Goes.row {tv rv : List Int} {w : Nat} {U : USt} {θ θ' : Sub} (h : Goes U θ θ') (hI : UInv tv rv w U) {r : Rw} (hr : rowOk r.labels r.var = true) (hv : 0 < r.var → r.var ∈ rv) : applyR θ' r = applyR θ r :=
  row_agree (fun p => h.rs _ (hI.rp _ (hv p)).2) (rowOk_sort hr).2
theorem Goes.trans {U V : USt} {a b c : Sub} (h : Goes U a b) (k : Goes V b c) (hn : U.nx ≤ V.nx) : Goes U a c := ⟨k.ok, fun n => (k.ts n).trans (h.ts n), fun n hn' => (k.rs n (by omega)).trans (h.rs n hn')⟩
theorem Goes.refl {U : USt} {θ : Sub} (h : SubOk θ) : Goes U θ θ := ⟨h, fun _ => rfl, fun _ _ => rfl⟩
theorem is_mgu {tv rv : List Int} {w : Nat} {U V : USt} {n : Int} {t : Ty} {e : Int} {θ : Sub} (h : UInv tv rv w U) (hr : rightT t = true) (hne : ¬ t = varT n) (hab : Abs θ U.s) (heq : applyT θ (varT n) = applyT θ t) (he : isU n t U = (e, V)) : e ≠ 5 ∧ (e = 0 → Abs θ V.s) := by
  unfold isU at he
  split at he
  · rename_i hn
    have := occurs θ n t hr hn
    rw [heq] at this
    by_cases h7 : t.kind = 7
    · exfalso
      have hv := right_var hr h7
      have h1 := (allV_all (P := fun v => v = t.var) (Q := fun _ => True) (t := t) (.mk (fun _ => rfl) (fun _ _ => trivial) fun u hu => by rw [hv] at hu; cases hu)).1 n hn
      exact hne (by rw [hv, h1])
    · have := this.2 h7; omega
  · split at he
    · injection he with h1 h2; subst h1; exact ⟨by decide, fun q => absurd q (by decide)⟩
    · injection he with h1 h2; subst h1; subst h2
      exact ⟨by decide, fun _ => abs_more (thenR_over h.ap) hab (abs_oneT heq.symm) h.ok⟩
theorem Rv_ok {θ : Sub} (h : SubOk θ) {v : Int} (hv : 0 ≤ v) : rowOk (Rv θ v).labels (Rv θ v).var = true := by
  by_cases h0 : v = 0
  · rw [h0, Rv_zero]; rfl
  · cases hl : alook v θ.rs with
    | none => rw [Rv_none hl]; unfold rowOk; simp [hv, isSortedS]
    | some r => rw [Rv_some hl h0]; exact (h.rs _ _ hl).2
theorem rowsV_mgu {tv rv : List Int} {w : Nat} {U V : USt} {A B : Rw} {e : Int} {θ : Sub} (h : UInv tv rv w U) (h0 : 0 < U.nx) (hA : rowOk A.labels A.var = true) (hB : rowOk B.labels B.var = true) (vA : 0 < A.var → A.var ∈ rv ∧ alook A.var U.s.rs = none) (vB : 0 < B.var → B.var ∈ rv ∧ alook B.var U.s.rs = none)
    (hok : SubOk θ) (hab : Abs θ U.s) (heq : applyR θ A = applyR θ B) (he : rowsV A B (moreS A.labels B.labels) (moreS B.labels A.labels) U = (e, V)) : e ≠ 5 ∧ (e = 0 → ∃ θ', Goes U θ θ' ∧ Abs θ' V.s) := by
  have pA := (rowOk_sort hA).2; have pB := (rowOk_sort hB).2
  have hp := fun x => count_more x A.labels B.labels
  have hq := fun x => count_more x B.labels A.labels
  obtain ⟨hc, hvv⟩ := row_iff.1 heq
  have sp := moreS_sub A.labels B.labels
  have sq := moreS_sub B.labels A.labels
  generalize moreS A.labels B.labels = p at *
  generalize moreS B.labels A.labels = q at *
  have none0 : ∀ x : Str, (Rv θ 0).labels.count x = 0 := fun x => by rw [Rv_zero]; simp
  unfold rowsV at he
  split at he
  · rename_i hpq
    obtain ⟨rfl, rfl⟩ := hpq
    simp only [List.count_nil] at hp hq
    split at he
    · injection he with e1 e2; subst e1; subst e2
      exact ⟨by decide, fun _ => ⟨θ, Goes.refl hok, hab⟩⟩
    · rename_i huv
      split at he
      · rename_i hu
        injection he with e1 e2; subst e1; subst e2
        refine ⟨by decide, fun _ => ⟨θ, Goes.refl hok, abs_more (thenR_over h.ap) hab (abs_oneR ?_) h.ok⟩⟩
        rw [row_iff]
        rw [hu] at hc hvv
        refine ⟨fun x => ?_, hvv⟩
        have := hp x; have := hq x; have := hc x; have := none0 x
        simp only [List.count_nil]; omega
      · injection he with e1 e2; subst e1; subst e2
        refine ⟨by decide, fun _ => ⟨θ, Goes.refl hok, abs_more (thenR_over h.ap) hab (abs_oneR ?_) h.ok⟩⟩
        rw [row_iff]
        refine ⟨fun x => ?_, hvv.symm⟩
        have := hp x; have := hq x; have := hc x
        simp only [List.count_nil]; omega
  · rename_i hpq
    split at he
    · rename_i hbad
      exfalso
      rcases hbad with ⟨h1, h2⟩ | ⟨h1, h2⟩ | h1
      · refine h1 (nil_of_count fun x => ?_)
        rw [h2] at hc
        have := hc x; have := none0 x; have := hp x; omega
      · refine h1 (nil_of_count fun x => ?_)
        rw [h2] at hc
        have := hc x; have := none0 x; have := hq x; omega
      · rw [h1] at hc
        refine hpq ⟨nil_of_count fun x => ?_, nil_of_count fun x => ?_⟩
        · have := hc x; have := hp x; omega
        · have := hc x; have := hq x; omega
    · rename_i hno
      have huv : A.var ≠ B.var := fun a => hno (.inr (.inr a))
      split at he
      · rename_i hq0
        subst hq0
        simp only [List.count_nil] at hq
        injection he with e1 e2; subst e1; subst e2
        refine ⟨by decide, fun _ => ⟨θ, Goes.refl hok, abs_more (thenR_over h.ap) hab (abs_oneR ?_) h.ok⟩⟩
        rw [row_iff]
        refine ⟨fun x => ?_, hvv⟩
        have := hp x; have := hq x; have := hc x
        simp only [List.count_nil]; omega
      · rename_i hq0
        split at he
        · rename_i hp0
          subst hp0
          simp only [List.count_nil] at hp
          injection he with e1 e2; subst e1; subst e2
          refine ⟨by decide, fun _ => ⟨θ, Goes.refl hok, abs_more (thenR_over h.ap) hab (abs_oneR ?_) h.ok⟩⟩
          rw [row_iff]
          refine ⟨fun x => ?_, hvv.symm⟩
          have := hp x; have := hq x; have := hc x
          simp only [List.count_nil]; omega
        · rename_i hp0
          injection he with e1 e2; subst e1; subst e2
          refine ⟨by decide, fun _ => ?_⟩
          have hv := vB (by have : B.var ≠ 0 := fun b => hno (.inl ⟨hp0, b⟩); omega)
          have hu := vA (by have : A.var ≠ 0 := fun b => hno (.inr (.inl ⟨hq0, b⟩)); omega)
          have hn := h.new
          have hun : A.var ≠ U.nx := fun e => hn.2 (e ▸ hu.1)
          have hvn : B.var ≠ U.nx := fun e => hn.2 (e ▸ hv.1)
          have okA := Rv_ok hok pA
          have hcw : ∀ x, (moreS (Rv θ A.var).labels q).count x = (Rv θ A.var).labels.count x - q.count x := fun x => count_more x _ _
          obtain ⟨θ', hθ'⟩ : ∃ t : Sub, t = ⟨θ.ts, aset U.nx ⟨moreS (Rv θ A.var).labels q, (Rv θ A.var).var⟩ θ.rs⟩ := ⟨_, rfl⟩
          have lk : ∀ n, alook n θ'.rs = if n = U.nx then some ⟨moreS (Rv θ A.var).labels q, (Rv θ A.var).var⟩ else alook n θ.rs := fun n => by rw [hθ']; exact alook_aset n U.nx _ _
          have hg : Goes U θ θ' := by
            refine ⟨⟨fun n x e => by rw [hθ'] at e; exact hok.ts n x e, fun n r e => ?_⟩, fun n => by rw [hθ'], fun n hn' => by rw [lk, if_neg (by omega)]⟩
            rw [lk] at e
            split at e
            · rename_i hk; injection e with e; subst e; subst hk
              exact ⟨by omega, rowOk_sub okA (moreS_sub _ _) (rowOk_sort okA).2⟩
            · exact hok.rs n r e
          have Ru : Rv θ' A.var = Rv θ A.var := by unfold Rv; rw [lk, if_neg hun]
          have Rv' : Rv θ' B.var = Rv θ B.var := by unfold Rv; rw [lk, if_neg hvn]
          have Rw' : Rv θ' U.nx = ⟨moreS (Rv θ A.var).labels q, (Rv θ A.var).var⟩ := Rv_some (by rw [lk, if_pos rfl]) (by omega)
          have hab' : Abs θ' U.s := ⟨fun n x e => by
              obtain ⟨a1, a2, _, _, a5⟩ := h.tk n x e
              rw [hg.type h a2 (a5.mono (fun _ z => z.1) (fun _ z => z.1)), hab.ts n x e]
              exact (hg.type h (varT_right (h.tp n a1).1) (.mk (fun _ => a1) (fun q => absurd (show (7 : Int) = 5 from q) (by decide)) fun u hu => (by cases hu))).symm, fun n r e z => by
              obtain ⟨a1, a2, _, a4⟩ := h.rk n r e
              rw [hg.row h a2 (fun p => (a4 p).1), hab.rs n r e z]
              exact (hg.row (r := ⟨[], n⟩) h (by unfold rowOk; have := (h.rp n a1).1; simp [isSortedS]; omega) (fun _ => a1)).symm⟩
          refine ⟨θ', hg, ?_⟩
          have h1 : ThenS U.s (oneR A.var ⟨q, U.nx⟩) (rowU A.var q U.nx U.s) := thenR_over h.ap
          have okq : rowOk q U.nx = true := rowOk_sub hB sq (by omega)
          have ok1 : SubOk (rowU A.var q U.nx U.s) := ok_then h1 h.ok (oneR_ok (by have := (h.rp _ hu.1).1; omega) okq)
          refine abs_more (thenR_over (thenR_apart (oneR_apart _ _))) (abs_more h1 hab' (abs_oneR ?_) h.ok) (abs_oneR ?_) ok1
          · rw [row_iff]; dsimp only
            rw [Rw', Ru]
            refine ⟨fun x => ?_, rfl⟩
            have := hc x; have := hq x; have := hcw x
            simp only [List.count_nil]; omega
          · rw [row_iff]; dsimp only
            rw [Rw', Rv']
            refine ⟨fun x => ?_, hvv⟩
            have := hc x; have := hq x; have := hp x; have := hcw x
            simp only [List.count_nil]; omega
theorem rows_mgu {tv rv : List Int} {w : Nat} {U V : USt} {a b : Rw} {e : Int} {θ : Sub} (h : UInv tv rv w U) (h0 : 0 < U.nx) (ha : rowOk a.labels a.var = true) (hb : rowOk b.labels b.var = true) (va : 0 < a.var → a.var ∈ rv) (vb : 0 < b.var → b.var ∈ rv)
    (hok : SubOk θ) (hab : Abs θ U.s) (heq : applyR θ a = applyR θ b) (he : rowsU a b U = (e, V)) : e ≠ 5 ∧ (e = 0 → ∃ θ', Goes U θ θ' ∧ Abs θ' V.s) := by
  obtain ⟨a1, a2, a3⟩ := h.row ha va
  obtain ⟨b1, b2, b3⟩ := h.row hb vb
  exact rowsV_mgu h h0 a1 b1 a2 b2 hok hab (by rw [abs_row hab, abs_row hab, heq]) he
theorem right_leaf {t : Ty} (h : rightT t = true) (h5 : t.kind ≠ 5) (h6 : t.kind ≠ 6) (h7 : t.kind ≠ 7) (θ : Sub) : applyT θ t = t := by
  have ha : t.args = [] := by
    rw [rightR_eq, Bool.and_eq_true] at h
    have h1 := h.1
    by_cases h4 : t.kind = 4
    · rw [hdT4 h4] at h1; simp only [Bool.and_eq_true, decide_eq_true_eq] at h1; exact List.eq_nil_of_length_eq_zero (by omega)
    · by_cases h3 : t.kind = 1 ∨ t.kind = 2 ∨ t.kind = 3
      · rw [hdT1 h3] at h1; simp only [Bool.and_eq_true, decide_eq_true_eq] at h1; exact List.eq_nil_of_length_eq_zero (by omega)
      · rw [hdT0 h3 h4 h7 h6 h5] at h1; cases h1
  exact apply_free h (.mk (fun e => absurd e h7) (fun e => absurd e h5) fun u hu => by rw [ha] at hu; cases hu)
theorem types_mgu : ∀ (k : Nat) (a b : Ty) (U : USt) (R : Int × USt), typesU k a b U = some R → ∀ (tv rv : List Int) (w : Nat), UInv tv rv w U → 0 < U.nx → rightT a = true → rightT b = true → Sc tv rv a → Sc tv rv b → wdT (applyT U.s a) ≤ w → wdT (applyT U.s b) ≤ w →
    ∀ θ, SubOk θ → Abs θ U.s → applyT θ a = applyT θ b → R.1 ≠ 5 ∧ (R.1 = 0 → ∃ θ', Goes U θ θ' ∧ Abs θ' R.2.s) := by
  intro k
  induction k with
  | zero => intro a b U R hR; rw [typesU] at hR; cases hR
  | succ k ih =>
    intro a b U R hR tv rv w hI h0 ra rb sa sb wa wb θ hok hab heq
    obtain ⟨_, hB⟩ := typesU_ok hR
    have da := hI.sc ra sa; have db := hI.sc rb sb
    have pra := right_and hI.ok ra; have prb := right_and hI.ok rb
    have ea := abs_type hI.self a ra; have eb := abs_type hI.self b rb
    rw [← abs_type hab a ra, ← abs_type hab b rb] at heq
    generalize applyT U.s a = pa at *
    generalize applyT U.s b = pb at *
    unfold typesB at hB
    split at hB
    · injection hB with hB; subst hB
      exact ⟨by simp, fun _ => ⟨θ, Goes.refl hok, hab⟩⟩
    · rename_i c1
      split at hB
      · rename_i h7
        injection hB with hB
        have hv := right_var pra h7
        cases hc : isU pa.var pb U with
        | mk e V =>
        rw [hc] at hB; subst hB
        obtain ⟨q1, q2⟩ := is_mgu hI prb (fun e => c1 (by rw [hv, e])) hab (by rw [← hv]; exact heq) hc
        exact ⟨q1, fun h => ⟨θ, Goes.refl hok, q2 h⟩⟩
      · rename_i c2
        split at hB
        · rename_i h7
          injection hB with hB
          have hv := right_var prb h7
          cases hc : isU pb.var pa U with
          | mk e V =>
          rw [hc] at hB; subst hB
          obtain ⟨q1, q2⟩ := is_mgu hI pra (fun e => c1 (by rw [hv, e])) hab (by rw [← hv]; exact heq.symm) hc
          exact ⟨q1, fun h => ⟨θ, Goes.refl hok, q2 h⟩⟩
        · rename_i c3
          obtain ⟨f1, _, _, f4, _⟩ := apply_args (s := θ) c2
          obtain ⟨g1, _, _, g4, _⟩ := apply_args (s := θ) c3
          have hk : pa.kind = pb.kind := by rw [← f1, heq, g1]
          have hl : pa.args.length = pb.args.length := by
            have := congrArg (fun t : Ty => t.args.length) heq
            simp only [f4, g4, applyTs_len] at this; exact this
          split at hB
          · rename_i c4; rcases c4 with c4 | c4; exact absurd hk c4; exact absurd hl c4
          · split at hB
            · rename_i h6
              obtain ⟨x, rfl, rx⟩ := right_ref pra h6.1
              obtain ⟨y, rfl, ry⟩ := right_ref prb (hk ▸ h6.1)
              have dx := da.here.2.2 x (.head _); have dy := db.here.2.2 y (.head _)
              have ux : applyT U.s x = x := apply_free rx (dx.mono (fun _ q => q.2) (fun _ q => q.2))
              have uy : applyT U.s y = y := apply_free ry (dy.mono (fun _ q => q.2) (fun _ q => q.2))
              rw [ref_apply, ref_apply] at heq
              injection heq with _ _ _ heq
              injection heq with heq
              exact ih x y U R hB tv rv w hI h0 rx ry (dx.mono (fun _ q => q.1) (fun _ q => q.1)) (dy.mono (fun _ q => q.1) (fun _ q => q.1))
                (by rw [ux]; exact Nat.le_trans (wdT_arg (t := ⟨6, [], 0, [x], [], 0⟩) (.head _)) wa) (by rw [uy]; exact Nat.le_trans (wdT_arg (t := ⟨6, [], 0, [y], [], 0⟩) (.head _)) wb) θ hok hab heq
            · rename_i c5
              split at hB
              · rename_i h5
                obtain ⟨x1, y1, l1, r1, rfl, rx1, ry1, ro1⟩ := right_fun pra h5.1
                obtain ⟨x2, y2, l2, r2, rfl, rx2, ry2, ro2⟩ := right_fun prb (hk ▸ h5.1)
                have dx1 := da.here.2.2 x1 (.head _); have dx2 := db.here.2.2 x2 (.head _)
                have dy1 := da.here.2.2 y1 (.tail _ (.head _)); have dy2 := db.here.2.2 y2 (.tail _ (.head _))
                have dr1 := da.here.2.1 rfl; have dr2 := db.here.2.1 rfl
                have fr : ∀ {z : Ty}, rightT z = true → AllV (fun v => v ∈ tv ∧ alook v U.s.ts = none) (fun v => v ∈ rv ∧ alook v U.s.rs = none) z → applyT U.s z = z := fun h k => apply_free h (k.mono (fun _ q => q.2) (fun _ q => q.2))
                have sc : ∀ {z : Ty} {rv' : List Int}, (∀ v ∈ rv, v ∈ rv') → AllV (fun v => v ∈ tv ∧ alook v U.s.ts = none) (fun v => v ∈ rv ∧ alook v U.s.rs = none) z → Sc tv rv' z := fun h k => k.mono (fun _ q => q.1) (fun _ q => h _ q.1)
                have w1 : ∀ {z : Ty}, z ∈ [x1, y1] → wdT z ≤ w := fun h => Nat.le_trans (wdT_arg (t := ⟨5, [], 0, [x1, y1], l1, r1⟩) h) wa
                have w2 : ∀ {z : Ty}, z ∈ [x2, y2] → wdT z ≤ w := fun h => Nat.le_trans (wdT_arg (t := ⟨5, [], 0, [x2, y2], l2, r2⟩) h) wb
                rw [fun_apply, fun_apply] at heq
                injection heq with _ _ _ heq1 heq2 heq3
                injection heq1 with heqx heq1
                injection heq1 with heqy
                have heqr : applyR θ ⟨l1, r1⟩ = applyR θ ⟨l2, r2⟩ := by
                  cases hh : applyR θ ⟨l1, r1⟩; cases hh2 : applyR θ ⟨l2, r2⟩
                  rw [hh, hh2] at heq2 heq3; simp only at heq2 heq3; rw [heq2, heq3]
                obtain ⟨R1, e1, e2⟩ := run_cons hB
                change typesU k x1 x2 U = some R1 at e1
                obtain ⟨rv1, z1, hP1, c1', g1'⟩ := types_post _ _ _ _ _ e1 tv rv w hI h0 rx1 rx2 (sc (fun _ q => q) dx1) (sc (fun _ q => q) dx2) (by rw [fr rx1 dx1]; exact w1 (.head _)) (by rw [fr rx2 dx2]; exact w2 (.head _))
                obtain ⟨m1, m2⟩ := ih x1 x2 U R1 e1 tv rv w hI h0 rx1 rx2 (sc (fun _ q => q) dx1) (sc (fun _ q => q) dx2) (by rw [fr rx1 dx1]; exact w1 (.head _)) (by rw [fr rx2 dx2]; exact w2 (.head _)) θ hok hab heqx
                by_cases hn1 : R1.1 ≠ 0
                · rw [if_pos hn1] at e2; injection e2 with e2; subst e2
                  exact ⟨m1, fun h => absurd h hn1⟩
                · rw [if_neg hn1] at e2
                  obtain ⟨θ1, go1, ab1⟩ := m2 (Decidable.byContradiction hn1)
                  obtain ⟨R2, e3, e4⟩ := run_cons e2
                  obtain ⟨_, e3⟩ := rowsO_ok e3
                  change rowsU ⟨l1, r1⟩ ⟨l2, r2⟩ R1.2 = R2 at e3
                  have wp1 := hP1.wd _ pra (by rw [ea]; exact wa)
                  have wp2 := hP1.wd _ prb (by rw [eb]; exact wb)
                  rw [fun_apply, wdT_eq] at wp1 wp2
                  simp only [Ty.labels] at wp1 wp2
                  obtain ⟨f2, V2⟩ := R2
                  have hnx1 := hP1.nx
                  obtain ⟨n1, n2⟩ := rows_mgu hP1.inv (by omega) ro1 ro2 (fun p => hP1.sub _ (dr1 p).1) (fun p => hP1.sub _ (dr2 p).1) go1.ok ab1 (by rw [go1.row hI ro1 (fun p => (dr1 p).1), go1.row hI ro2 (fun p => (dr2 p).1)]; exact heqr) e3
                  rcases rows_post hP1.inv (by omega) ro1 ro2 (fun p => hP1.sub _ (dr1 p).1) (fun p => hP1.sub _ (dr2 p).1) (by omega) (by omega) e3 with ⟨q1, q2⟩ | ⟨q1, rv2, z2, hP2, g2⟩
                  · exact absurd q1 n1
                  · dsimp only at e4
                    rw [if_neg (by rw [q1]; simp)] at e4
                    obtain ⟨θ2, go2, ab2⟩ := n2 q1
                    have go12 := go1.trans go2 hnx1.1
                    have hP12 := hP1.trans hI hP2
                    have hnx12 := hP12.nx
                    obtain ⟨R3, e5, e6⟩ := run_cons e4
                    change typesU k y1 y2 V2 = some R3 at e5
                    obtain ⟨o1, o2⟩ := ih y1 y2 V2 R3 e5 tv rv2 z2 hP12.inv (by omega) ry1 ry2 (sc hP12.sub dy1) (sc hP12.sub dy2) (hP12.wd _ ry1 (by rw [fr ry1 dy1]; exact w1 (.tail _ (.head _)))) (hP12.wd _ ry2 (by rw [fr ry2 dy2]; exact w2 (.tail _ (.head _))))
                      θ2 go12.ok ab2 (by rw [go12.type hI ry1 (sc (fun _ q => q) dy1), go12.type hI ry2 (sc (fun _ q => q) dy2)]; exact heqy)
                    have hR3 : R = R3 := by
                      by_cases hn3 : R3.1 ≠ 0
                      · rw [if_pos hn3] at e6; injection e6 with e6; exact e6.symm
                      · rw [if_neg hn3, runU] at e6; injection e6 with e6; rw [← e6, ← Decidable.byContradiction hn3]
                    rw [hR3]
                    exact ⟨o1, fun h => by obtain ⟨θ3, go3, ab3⟩ := o2 h; exact ⟨θ3, go12.trans go3 hnx12.1, ab3⟩⟩
              · rename_i c6
                exfalso
                have n5 : pa.kind ≠ 5 := fun h => by obtain ⟨x, y, l, r, e, _⟩ := right_fun pra h; exact c6 ⟨h, by rw [e]; rfl⟩
                have n6 : pa.kind ≠ 6 := fun h => by obtain ⟨x, e, _⟩ := right_ref pra h; exact c5 ⟨h, by rw [e]; rfl⟩
                rw [right_leaf pra n5 n6 c2, right_leaf prb (hk ▸ n5) (hk ▸ n6) c3] at heq
                exact c1 heq

end Go.Proofs.YtlidonjpgigocaaGreat
