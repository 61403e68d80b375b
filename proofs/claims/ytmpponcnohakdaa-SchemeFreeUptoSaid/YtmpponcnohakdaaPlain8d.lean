/-
  Package scheme: the matcher goes through types. Conditions: those of each theorem.
-/
import Derived.Test.YtmpponcnohakdaaPlain8c
namespace Go.Proofs.Ytmpponcnohakdaa
set_option linter.all false
set_option maxRecDepth 4000
open Go.RowKit
-- whatever is put in the stead of bound variables makes an instance
theorem lessAll_perm : ∀ (a k r : List Str), k.Perm (a ++ r) → isSortedS k = true → ∃ l, lessAll a k = some l ∧ l.Perm r ∧ isSortedS l = true
  | [], k, r, h, hs => ⟨k, rfl, by simpa using h, hs⟩
  | s :: a, k, r, h, hs => by
    have hm : s ∈ k := h.mem_iff.2 (.head _)
    have h2 : (k.erase s).Perm (a ++ r) := by
      have := h.erase s
      rw [List.cons_append, List.erase_cons_head] at this; exact this
    rw [lessAll, if_pos hm]
    exact lessAll_perm a _ r h2 (erase_sorted hs s)
theorem lessAll_sorted {a k r : List Str} (h : k.Perm (a ++ r)) (hk : isSortedS k = true) (hr : isSortedS r = true) : lessAll a k = some r := by
  obtain ⟨l, e, hl, hs⟩ := lessAll_perm a k r h hk
  rw [e, perm_sorted hl hs hr]
/-- What has been found is what was put there. -/
def Cons (θ u : Sub) : Prop := (∀ n z, alook n u.ts = some z → z = (alook n θ.ts).getD (varT n)) ∧ ∀ n z, alook n u.rs = some z → z = (alook n θ.rs).getD ⟨[], n⟩
theorem right_var {t : Ty} (h : rightT t = true) (h7 : t.kind = 7) : t = varT t.var := by
  obtain ⟨l1, l2⟩ := right_bare h (by omega)
  rw [rightR_eq, hdT7 h7] at h
  simp only [Bool.and_eq_true, decide_eq_true_eq] at h
  have ha : t.args = [] := List.eq_nil_of_length_eq_zero (by omega)
  obtain ⟨k, nm, v, ts, ls, rv⟩ := t
  simp only [Ty.kind, Ty.name, Ty.var, Ty.args, Ty.labels, Ty.rv] at *
  unfold varT
  rw [h7, l1, l2, ha, h.1.1.2]
theorem Cons.setT {θ u : Sub} (h : Cons θ u) (n : Int) : Cons θ ⟨aset n ((alook n θ.ts).getD (varT n)) u.ts, u.rs⟩ := ⟨fun k z hz => by
  dsimp only at hz; rw [alook_aset] at hz; split at hz
  · rename_i e; injection hz with hz; rw [← hz, e]
  · exact h.1 k z hz, h.2⟩
theorem Cons.setR {θ u : Sub} (h : Cons θ u) (n : Int) : Cons θ ⟨u.ts, aset n ((alook n θ.rs).getD ⟨[], n⟩) u.rs⟩ := ⟨h.1, fun k z hz => by
  dsimp only at hz; rw [alook_aset] at hz; split at hz
  · rename_i e; injection hz with hz; rw [← hz, e]
  · exact h.2 k z hz⟩
theorem matR_apply {rs : List Int} {θ u : Sub} {r : Rw} (hr : rowOk r.labels r.var = true) (hR : ∀ n x, alook n θ.rs = some x → rowOk x.labels x.var = true) (hout : ∀ n, ¬ n ∈ rs → alook n θ.rs = none) (hu : Cons θ u) :
    (matR rs ⟨sortS r.labels, r.var⟩ (applyR θ r) u).2 = true ∧ Cons θ (matR rs ⟨sortS r.labels, r.var⟩ (applyR θ r) u).1 := by
  unfold matR
  by_cases hc : r.var = 0 ∨ ¬ r.var ∈ rs
  · rw [if_pos hc]
    have e : applyR θ r = ⟨sortS r.labels, r.var⟩ := by
      rw [applyR_out]
      rcases hc with h | h
      · exact .inr h
      · left; rw [hout _ h]; rfl
    rw [e]; exact ⟨by simp, hu⟩
  · rw [if_neg hc]
    have hv : ¬ r.var = 0 := fun h => hc (.inl h)
    have key : ∃ l, lessAll (sortS r.labels) (applyR θ r).labels = some l ∧ (⟨l, (applyR θ r).var⟩ : Rw) = (alook r.var θ.rs).getD ⟨[], r.var⟩ := by
      cases hq : alook r.var θ.rs with
      | none =>
        rw [applyR_out (.inl (by rw [hq]; rfl))]
        exact ⟨[], lessAll_sorted (by simp) (sortS_sorted _) rfl, rfl⟩
      | some x =>
        rw [applyR_in (by rw [hq]; rfl) hv, hq]
        dsimp only [Option.getD_some]
        have hx := hR _ _ hq
        refine ⟨x.labels, lessAll_sorted ((sortS_perm _).trans ((sortS_perm r.labels).symm.append_right _)) (sortS_sorted _) ?_, rfl⟩
        unfold rowOk at hx; simp only [Bool.and_eq_true] at hx; exact hx.1.2
    obtain ⟨l, e1, e2⟩ := key
    dsimp only
    rw [e1]; dsimp only
    cases hq : alook r.var u.rs with
    | none => dsimp only; rw [e2]; exact ⟨rfl, hu.setR _⟩
    | some z =>
      have hz := hu.2 _ _ hq
      rw [← e2] at hz
      rw [hz]; exact ⟨by simp, hu⟩
theorem matT_mk {ts rs : List Int} {a : Ty} {u : Sub} {ks : List Ty} {ls : List Str} {rv : Int} (h : ¬ (a.kind = 7 ∧ a.var ∈ ts)) (hl : a.args.length = ks.length) : matT ts rs a ⟨a.kind, a.name, a.var, ks, ls, rv⟩ u =
    if (matTs ts rs a.args ks u).2 = true then (if a.kind = 5 then matR rs ⟨sortS a.labels, a.rv⟩ ⟨ls, rv⟩ (matTs ts rs a.args ks u).1 else ((matTs ts rs a.args ks u).1, true)) else ((matTs ts rs a.args ks u).1, false) := by
  rw [matT_eq, if_neg h, if_pos ⟨rfl, rfl, rfl, hl⟩]; rfl
theorem matT_apply {ts rs : List Int} {θ : Sub} (hR : ∀ n x, alook n θ.rs = some x → rowOk x.labels x.var = true) (ho1 : ∀ n, ¬ n ∈ ts → alook n θ.ts = none) (ho2 : ∀ n, ¬ n ∈ rs → alook n θ.rs = none) (x : Ty) :
    ∀ u : Sub, rightT x = true → Cons θ u → (matT ts rs x (applyT θ x) u).2 = true ∧ Cons θ (matT ts rs x (applyT θ x) u).1 := by
  induction x using Ty.rec_ with
  | h x ih =>
    intro u hr hu
    by_cases h7 : x.kind = 7
    · have hx := right_var hr h7
      rw [matT_eq]
      by_cases hm : x.var ∈ ts
      · rw [if_pos ⟨h7, hm⟩]
        have e : applyT θ x = (alook x.var θ.ts).getD (varT x.var) := by rw [applyT_var h7, ← hx]
        rw [e]
        cases hq : alook x.var u.ts with
        | none => dsimp only; exact ⟨rfl, hu.setT _⟩
        | some z => dsimp only; rw [hu.1 _ _ hq]; exact ⟨(sameT_iff _ _).2 rfl, hu⟩
      · rw [if_neg (fun h => hm h.2)]
        have e : applyT θ x = x := by rw [applyT_var h7, ho1 _ hm]; rfl
        have ha : x.args = [] := by rw [hx]; rfl
        rw [e, if_pos ⟨rfl, rfl, rfl, rfl⟩, ha, matTs, if_pos rfl, if_neg (by omega)]
        exact ⟨rfl, hu⟩
    · have key : ∀ (l : List Ty), (∀ v ∈ l, v ∈ x.args) → ∀ u, Cons θ u → (matTs ts rs l (applyTs θ l) u).2 = true ∧ Cons θ (matTs ts rs l (applyTs θ l) u).1 := by
        intro l
        induction l with
        | nil => intro _ u hu; rw [applyTs, matTs]; exact ⟨rfl, hu⟩
        | cons v l ihl =>
          intro hl u hu
          obtain ⟨h1, h2⟩ := ih v (hl v (.head _)) u (right_arg hr (hl v (.head _))) hu
          rw [applyTs, matTs, if_pos h1]
          exact ihl (fun w hw => hl w (.tail _ hw)) _ h2
      obtain ⟨k1, k2⟩ := key x.args (fun v hv => hv) u hu
      rw [applyT_not h7, matT_mk (fun h => h7 h.1) (applyTs_len θ x.args).symm, if_pos k1]
      by_cases h5 : x.kind = 5
      · rw [if_pos h5, if_pos h5, if_pos h5]
        exact matR_apply (r := ⟨x.labels, x.rv⟩) (right_fun_row hr h5).1 hR ho2 k2
      · rw [if_neg h5]; exact ⟨rfl, k2⟩
theorem inst_apply {s : Sch} {θ : Sub} (hr : rightT s.ty = true) (hR : ∀ n x, alook n θ.rs = some x → rowOk x.labels x.var = true) (ho1 : ∀ n, ¬ n ∈ s.ts → alook n θ.ts = none) (ho2 : ∀ n, ¬ n ∈ s.rs → alook n θ.rs = none) : instM s (applyT θ s.ty) = true :=
  (matT_apply hR ho1 ho2 s.ty noneS hr ⟨fun n z h => (by cases h), fun n z h => (by cases h)⟩).1
theorem gen_nodup (env : List Sch) (t : Ty) : (genT env t).ts.Nodup ∧ (genT env t).rs.Nodup := by
  unfold genT; dsimp only; rw [genI_filter]
  exact ⟨(vars_nodup t).1.filter _, (vars_nodup t).2.filter _⟩
theorem inst_self {env : List Sch} {t : Ty} (h : rightT t = true) : instM (genT env t) t = true := by
  have := inst_apply (s := genT env t) (θ := noneS) h (fun n x h => (by cases h)) (fun _ _ => rfl) (fun _ _ => rfl)
  rw [show (genT env t).ty = t from rfl, apply_none h] at this; exact this
theorem inst_fresh {env : List Sch} {t : Ty} (h : rightT t = true) {k : Int} (hk : 0 ≤ k) : instM (genT env t) (applyT (freshS (genT env t) k) t) = true := by
  obtain ⟨n1, n2⟩ := gen_nodup env t
  refine inst_apply (s := genT env t) h (fun n x hx => ?_) (fun n hn => by rw [freshS_ts n1, if_neg hn]) (fun n hn => by rw [freshS_rs n2, if_neg hn])
  rw [freshS_rs n2] at hx
  split at hx
  · injection hx with hx; subst hx
    unfold rowOk; simp [isSortedS]; omega
  · cases hx
/-- With something in the stead of each first bound variable. -/
def withS (s : Sch) (i : Ty) (r : Rw) : Sub := ⟨match s.ts with | n :: _ => [(n, i)] | [] => [], match s.rs with | n :: _ => [(n, r)] | [] => []⟩
theorem withS_w {B : Nat} {s : Sch} {i : Ty} {r : Rw} (hi : wdT i ≤ B) (hr : r.labels.length ≤ B) : SubW B (withS s i r) := by
  constructor
  · intro n t h
    unfold withS at h; dsimp only at h
    split at h
    · simp only [alook] at h; split at h
      · injection h with h; subst h; exact hi
      · cases h
    · cases h
  · intro n t h
    unfold withS at h; dsimp only at h
    split at h
    · simp only [alook] at h; split at h
      · injection h with h; subst h; exact hr
      · cases h
    · cases h
theorem inst_with {env : List Sch} {t i : Ty} {r : Rw} (h : rightT t = true) (hr : rowOk r.labels r.var = true) : instM (genT env t) (applyT (withS (genT env t) i r) t) = true := by
  refine inst_apply (s := genT env t) h (fun n x hx => ?_) (fun n hn => ?_) (fun n hn => ?_)
  · unfold withS at hx; dsimp only at hx
    split at hx
    · simp only [alook] at hx; split at hx
      · injection hx with hx; subst hx; exact hr
      · cases hx
    · cases hx
  · unfold withS; dsimp only
    split
    · rename_i m l e
      simp only [alook]; rw [if_neg (fun e2 => hn (by rw [e, e2]; exact .head _))]
    · rfl
  · unfold withS; dsimp only
    split
    · rename_i m l e
      simp only [alook]; rw [if_neg (fun e2 => hn (by rw [e, e2]; exact .head _))]
    · rfl

end Go.Proofs.Ytmpponcnohakdaa
