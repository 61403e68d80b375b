/-
  unify's state: two types are made the same. Conditions: those of each theorem.
-/
import Derived.Test.YtlidonjpgigocaaGreatRows7
namespace Go.Proofs.YtlidonjpgigocaaGreat
set_option linter.all false
set_option maxRecDepth 4000
open Go.RowKit
/-- One of a type's arguments. -/
def argT (t : Ty) (i : Nat) : Ty := (t.args[i]?).getD zeroTy
theorem argT_at {t : Ty} {i : Nat} {x : Ty} (h : t.args.drop i = x :: t.args.drop (i + 1)) : argT t i = x := by
  have h1 : t.args[i]? = some x := by rw [← List.head?_drop, h]; rfl
  unfold argT; rw [h1]; rfl
structure OkT (U : USt) (a : Ty) : Prop where
  w : wdT a ≤ 50000000
  c : cntT (applyT U.s a) ≤ 100000000
/-- Steps, one behind the other, until one fails. -/
def runU : List (USt → Option (Int × USt)) → USt → Option (Int × USt)
  | [], U => some (0, U)
  | f :: l, U => match f U with
    | none => none
    | some r => if r.1 ≠ 0 then some r else runU l r.2
theorem run_cons {f : USt → Option (Int × USt)} {l : List (USt → Option (Int × USt))} {U : USt} {R : Int × USt} (h : runU (f :: l) U = some R) : ∃ r, f U = some r ∧ (if r.1 ≠ 0 then some r else runU l r.2) = some R := by
  rw [runU] at h
  cases hf : f U with
  | none => rw [hf] at h; cases h
  | some r => rw [hf] at h; exact ⟨r, rfl, h⟩
open Classical in
/-- Two rows; two types: what is made of them, with what is said of their variables. -/
noncomputable def rowsO (a b : Rw) (U : USt) : Option (Int × USt) := if OkS U ∧ a.labels.length ≤ 50000000 ∧ b.labels.length ≤ 50000000 then some (rowsU a b U) else none
open Classical in
noncomputable def typesB (rec : Ty → Ty → USt → Option (Int × USt)) (a b : Ty) (U : USt) : Option (Int × USt) :=
  if a = b then some (0, U)
  else if a.kind = 7 then some (isU a.var b U)
  else if b.kind = 7 then some (isU b.var a U)
  else if a.kind ≠ b.kind ∨ a.args.length ≠ b.args.length then some (5, U)
  else if a.kind = 6 ∧ a.args.length = 1 then rec (argT a 0) (argT b 0) U
  else if a.kind = 5 ∧ a.args.length = 2 then runU [rec (argT a 0) (argT b 0), rowsO ⟨a.labels, a.rv⟩ ⟨b.labels, b.rv⟩, rec (argT a 1) (argT b 1)] U
  else some (5, U)
open Classical in
noncomputable def typesU : Nat → Ty → Ty → USt → Option (Int × USt)
  | 0, _, _, _ => none
  | k + 1, a, b, U => if OkS U ∧ OkT U a ∧ OkT U b then typesB (typesU k) (applyT U.s a) (applyT U.s b) U else none
theorem typesU_ok {k : Nat} {a b : Ty} {U : USt} {R : Int × USt} (h : typesU (k + 1) a b U = some R) : (OkS U ∧ OkT U a ∧ OkT U b) ∧ typesB (typesU k) (applyT U.s a) (applyT U.s b) U = some R := by
  rw [typesU] at h
  split at h
  · exact ⟨by assumption, h⟩
  · cases h
theorem rowsO_ok {a b : Rw} {U : USt} {R : Int × USt} (h : rowsO a b U = some R) : (OkS U ∧ a.labels.length ≤ 50000000 ∧ b.labels.length ≤ 50000000) ∧ rowsU a b U = R := by
  unfold rowsO at h
  split at h
  · injection h with h; exact ⟨by assumption, h⟩
  · cases h
/-- A step: a closure, and what it does. -/
structure Step where
  fid : Nat
  caps : List Value
  f : USt → Option (Int × USt)
@[reducible] def Step.v (s : Step) : Value := .func (.func s.fid) #[] s.caps.toArray
abbrev Stps (m : Mem) (o : Option Addr) (n c : Nat) (l : List Step) : Prop := Sl (fun _ vs (s : Step) => vs = [s.v]) 1 m o n c l
theorem Stps.mono {m m' : Mem} {o : Option Addr} {n c : Nat} {l : List Step} (h : Stps m o n c l) (hm : MLe m m') : Stps m' o n c l := Sl.mono h (fun _ _ e => e) hm
theorem Stps.of {m : Mem} {p : Addr} {l : List Step} (h : CellsAt m p (l.map Step.v)) (hb : l.length ≤ 1000) : Stps m (some p) l.length l.length l :=
  Sl.of_row (f := fun x => [x.v]) (by rw [← List.map_eq_flatMap]; exact .inr ⟨p, rfl, h⟩) rfl (Nat.le_refl _) (by omega) (by omega) fun _ _ => ⟨rfl, rfl⟩
instance : RepR (fun (_ : Mem) vs (x : Step) => vs = [x.v]) := ⟨fun _ h => h, fun h => by subst h; rfl⟩
theorem tyV_o {m : Mem} {t : Ty} {y : (Option Addr × Nat) × (Option Addr × Nat)} (h : TyR m t (tyV t y)) : Tys m y.1.1 t.args.length y.1.2 t.args ∧ Strs m y.2.1 t.labels.length y.2.2 t.labels ∧ InI64 t.var ∧ InI64 t.rv := by
  obtain ⟨o, c, o2, c2, e, hk, hs, _, hv, hr⟩ := h.open_
  obtain ⟨⟨a, b⟩, a2, b2⟩ := y
  simp only [tyV, List.cons.injEq, Value.slice.injEq, true_and, and_true] at e
  obtain ⟨⟨rfl, rfl⟩, ⟨rfl, rfl⟩⟩ := e
  exact ⟨hk, hs, hv, hr⟩
/-- What 'types' does at a depth. -/
def TG (k : Nat) : Prop := ∀ (a b : Ty) (U : USt) (r : Int × USt), typesU k a b U = some r → ∀ (w : World) (m : Mem) (g : Nat) (q : QQ) (va vb : List Value), Agree w m → (UB g q U.nx).holds w m → SubQ m U.s (subV q) → TyR m a va → TyR m b vb →
  FnG Tryz.prog 38 #[.pointer (some ⟨g, 0, none⟩), .agg va.toArray, .agg vb.toArray] [g] w m (UPost g w.heap.size r)

set_option maxHeartbeats 1600000 in
theorem first_g {w : World} {m : Mem} {o_l : Option Addr} {c_l : Nat} {l : List Step} {g : Nat} {q : QQ} {U : USt} {R : Int × USt} (hA : Agree w m) (h_l : Stps m o_l l.length c_l l) (hr : (UB g q U.nx).holds w m) (hU : SubQ m U.s (subV q)) (hφ : ∀ s ∈ l, ∀ (U : USt) (r : Int × USt), s.f U = some r → ∀ (w : World) (m2 : Mem) (q : QQ), MLe m m2 → Agree w m2 → (UB g q U.nx).holds w m2 → SubQ m2 U.s (subV q) → FnG Tryz.prog s.fid s.caps.toArray [g] w m2 (UPost g w.heap.size r)) (hc : ∀ s ∈ l, ∀ (args : Array Value) (w : World), (callFunc s.fid args).run Tryz.prog w = .ok (.enter s.fid args) w) (hrun : runU (l.map Step.f) U = some R) : FnG Tryz.prog 56 #[.slice o_l l.length c_l] [g] w m (UPost g w.heap.size (R)) := by
  have hb_l := h_l.big; have hc_l := h_l.cap
  refine fn_enter (vs := [_]) Tryz.func56 rfl rfl rfl fun a0 hfr0 => ?_
  have hst0 := st_enter hA (loc_one hr (by simp [Res.blocks, ptrBlock]))
  have hM : MLe m m := MLe.refl m
  refine seq_any fun _ hK1 => ?_
  refine rp0 hst0 hfr0 (.cons rfl (ob_assign rfl) <| .nil) ?_
  intro a1 w1 m1 hst1 hle1 hk1
  have hfr1 := hk1.fr (T' := [(0, _)]) (.old rfl rfl <| .nil)
  replace h_l := h_l.mono hle1
  replace hU := hU.mono hle1
  replace hM := hM.trans hle1
  clear hst0 hfr0 hk1
  refine hK1 _ _ ?_; clear hK1
  refine seq_any fun _ hK2 => ?_
  refine seq_any fun _ hK3 => ?_
  refine rp0 hst1 hfr1 (.cons rfl (ob_move rfl) <| .cons rfl (ob_len rfl Tryz.underlying112) <| .cons rfl (ob_move rfl) <| .nil) ?_
  intro a2 w2 m2 hst2 hle2 hk2
  have hfr2 := hk2.fr (T' := [(6, _), (7, _), (8, _)]) (.new rfl <| .new rfl <| .new rfl <| .nil)
  replace h_l := h_l.mono hle2
  replace hU := hU.mono hle2
  replace hM := hM.trans hle2
  clear hst1 hfr1 hk2
  refine hK3 _ _ ?_; clear hK3
  refine wp_block ?_
  refine loop_any (T := [(6, _), (7, _)]) (fun (y : Nat × USt × QQ) => ([(8, .int .i64 (y.1 : Int))] : List (Nat × Value))) (fun y => [UB g y.2.2 y.2.1.nx]) (fun (y : Nat × USt × QQ) m => (fun (y : Nat) (u : USt) (q2 : QQ) => (y ≤ l.length) ∧ (SubQ m u.s (subV q2)) ∧ (runU ((l.drop y).map Step.f) u = some R)) y.1 y.2.1 y.2.2) (fun y => l.length - y.1) ((0, U, q)) ⟨hst2, MLe.refl _, hfr2.sub (.cons rfl <| .cons rfl <| .cons rfl <| .nil), ⟨Nat.zero_le _, hU, hrun⟩⟩ fun y a3 w3 m3 hh3 => ?_
  have hst3 := hh3.st; have hle3 := hh3.le; have hfr3 := hh3.fr; have hrel := hh3.rel; clear hh3
  replace h_l := h_l.mono hle3
  clear hst2 hfr2
  replace hM := hM.trans hle3
  obtain ⟨y, u, q2⟩ := y
  dsimp only at hrel hfr3 hst3
  obtain ⟨hyn, hJu, hJr⟩ := hrel
  have hlh3 := hle3
  refine seq_any fun _ hK5 => ?_
  refine rp0 hst3 hfr3 (.cons rfl (ob_lss rfl rfl) <| .nil) ?_
  intro a4 w4 m4 hst4 hle4 hk4
  have hfr4 := hk4.fr (T' := [(8, _), (6, _), (7, _), (9, _)]) (.old rfl rfl <| .old rfl rfl <| .old rfl rfl <| .new rfl <| .nil)
  replace h_l := h_l.mono hle4
  replace hJu := hJu.mono hle4
  have hlh4 := hlh3.trans hle4
  replace hM := hM.trans hle4
  clear hst3 hfr3 hk4
  refine hK5 _ _ ?_; clear hK5
  refine seq_any fun _ hK6 => ?_
  refine cond_any hfr4 rfl rfl (fun hb9 => ?_) (fun hb9 => ?_)
  · try simp only [nq1, nq2, nq3, nq4, nq5, nq6, nq7, nq8, nq9, u8_eq] at hb9
    refine wp_skip ?_
    refine hK6 _ _ ?_; clear hK6
    refine seq_any fun _ hK7 => ?_
    refine wp_block ?_
    refine seq_any fun _ hK8 => ?_
    obtain ⟨p9, vs9, x9, ho9, hd9, hm_x9, ht9, hcv9, hl9, hv9⟩ := h_l.nth (k := y) (by omega)
    cases ho9
    subst hv9
    refine rp0 hst4 hfr4 (.cons rfl (ob_indexAddr (k := y) rfl rfl Tryz.underlying112 Tryz.sizeOf89 rfl (by omega)) <| .cons rfl (ob_load1' rfl hcv9 Tryz.isAgg89 rfl) <| .cons rfl (ob_assign rfl) <| .nil) ?_
    intro a5 w5 m5 hst5 hle5 hk5
    have hfr5 := hk5.fr (T' := [(8, _), (6, _), (7, _), (4, _)]) (.old rfl rfl <| .old rfl rfl <| .old rfl rfl <| .new rfl <| .nil)
    replace hJu := hJu.mono hle5
    have hlh5 := hlh4.trans hle5
    replace hM := hM.trans hle5
    clear hst4 hfr4 hk5
    rw [hd9, List.map_cons] at hJr
    obtain ⟨r9, hr9, hJ9⟩ := run_cons hJr
    refine hK8 _ _ ?_; clear hK8
    refine seq_any fun _ hK10 => ?_
    refine region_cut 2 (by kernel_rfl) ?_
    refine ops_cut 1 (by kernel_rfl) ?_
    refine ops_seq (tch := []) hst5 hfr5 (by kernel_rfl) (by kernel_rfl) (by kernel_rfl) (.cons rfl (ob_move rfl) <| .nil) ?_
    intro a6 w6 m6 hst6 hle6 hk6
    have hfr6 := hk6.fr (T' := [(8, _), (6, _), (7, _), (4, _), (12, _)]) (.old rfl rfl <| .old rfl rfl <| .old rfl rfl <| .old rfl rfl <| .new rfl <| .nil)
    replace hJu := hJu.mono hle6
    have hlh6 := hlh5.trans hle6
    replace hM := hM.trans hle6
    clear hst5 hfr5 hk6
    refine call_res [] [] [_] hst6 hfr6 rfl (.nil) (hc _ hm_x9) (up_R (hφ x9 hm_x9 u r9 hr9 _ _ q2 hM hst6.agree (hst6.loc.at_ (k := 0) rfl) hJu)) ?_
    intro vr7 w7 m7 rs7 hst7 hle7 hp7
    obtain ⟨q3, rfl, hU3, hvq9⟩ := hp7
    simp only [List.nil_append, List.cons_append] at hst7
    have hfr7 := (hfr6.sub (T' := [(8, _), (6, _), (7, _), (4, _), (12, _)]) (.cons rfl <| .cons rfl <| .cons rfl <| .cons rfl <| .cons rfl <| .nil)).put (d := 13) (v := vr7) (by kernel_rfl) rfl
    have hlh7 := hlh6.trans hle7
    clear hst6 hfr6
    subst hvq9
    refine ops_seq (tch := []) hst7 hfr7 (by kernel_rfl) (by kernel_rfl) (by kernel_rfl) (.cons rfl (ob_assign rfl) <| .nil) ?_
    intro a8 w8 m8 hst8 hle8 hk8
    have hfr8 := hk8.fr (T' := [(13, _), (8, _), (6, _), (7, _), (4, _), (12, _), (5, _)]) (.old rfl rfl <| .old rfl rfl <| .old rfl rfl <| .old rfl rfl <| .old rfl rfl <| .old rfl rfl <| .new rfl <| .nil)
    replace hU3 := hU3.mono hle8
    have hlh8 := hlh7.trans hle8
    clear hst7 hfr7 hk8
    refine hK10 _ _ ?_; clear hK10
    refine seq_any fun _ hK11 => ?_
    refine rp0 hst8 hfr8 (.cons rfl (ob_move rfl) <| .cons rfl (ob_neq rfl rfl) <| .nil) ?_
    intro a9 w9 m9 hst9 hle9 hk9
    have hfr9 := hk9.fr (T' := [(8, _), (6, _), (7, _), (5, _), (15, _)]) (.old rfl rfl <| .old rfl rfl <| .old rfl rfl <| .old rfl rfl <| .new rfl <| .nil)
    replace hU3 := hU3.mono hle9
    have hlh9 := hlh8.trans hle9
    clear hst8 hfr8 hk9
    refine hK11 _ _ ?_; clear hK11
    refine cond_any hfr9 rfl rfl (fun hb15 => ?_) (fun hb15 => ?_)
    · try simp only [nq1, nq2, nq3, nq4, nq5, nq6, nq7, nq8, nq9, u8_eq] at hb15
      rw [if_pos hb15] at hJ9
      injection hJ9 with hJ9
      subst hJ9
      refine seq_any fun _ hK12 => ?_
      refine rp0 hst9 hfr9 (.cons rfl (ob_move rfl) <| .cons rfl (ob_assign rfl) <| .nil) ?_
      intro a10 w10 m10 hst10 hle10 hk10
      have hfr10 := hk10.fr (T' := [(8, _), (2, _)]) (.old rfl rfl <| .new rfl <| .nil)
      replace hU3 := hU3.mono hle10
      have hlh10 := hlh9.trans hle10
      clear hst9 hfr9 hk10
      refine hK12 _ _ ?_; clear hK12
      refine wp_ret ?_
      repeat (with_reducible first | refine then_ret ?_ | refine block_ret ?_)
      exact fn_ret hst10 hfr10 rfl (.tmp rfl <| .nil) (⟨q3, (hst10.take 1).loc, hU3, rfl⟩)
    · try simp only [nq1, nq2, nq3, nq4, nq5, nq6, nq7, nq8, nq9, u8_eq] at hb15
      rw [if_neg (by omega)] at hJ9
      refine wp_skip ?_
      refine hK7 _ _ ?_; clear hK7
      refine rp0 hst9 hfr9 (.cons rfl (ob_add rfl rfl ⟨by omega, by omega⟩) <| .cons rfl (ob_move rfl) <| .nil) ?_
      intro a10 w10 m10 hst10 hle10 hk10
      have hfr10 := hk10.fr (T' := [(6, _), (7, _), (8, _)]) (.old rfl rfl <| .old rfl rfl <| .new rfl <| .nil)
      replace hU3 := hU3.mono hle10
      have hlh10 := hlh9.trans hle10
      clear hst9 hfr9 hk10
      exact ⟨(y + 1, r9.2, q3), m10, by show l.length - (y + 1) < l.length - y; omega, ⟨hst10, hlh10, hfr10.sub (.cons rfl <| .cons rfl <| .cons rfl <| .nil), ⟨by show y + 1 ≤ l.length; omega, hU3, hJ9⟩⟩⟩
  · try simp only [nq1, nq2, nq3, nq4, nq5, nq6, nq7, nq8, nq9, u8_eq] at hb9
    have hge : y = l.length := by omega
    rw [List.drop_of_length_le (by omega), List.map_nil, runU] at hJr
    injection hJr with hJr
    subst hJr
    refine wp_exit ?_
    refine hK2 _ _ ?_; clear hK2
    refine seq_any fun _ hK14 => ?_
    refine rp0 hst4 hfr4 (.cons rfl (ob_assign rfl) <| .nil) ?_
    intro a5 w5 m5 hst5 hle5 hk5
    have hfr5 := hk5.fr (T' := [(8, _), (2, _)]) (.old rfl rfl <| .new rfl <| .nil)
    replace hJu := hJu.mono hle5
    have hlh5 := hlh4.trans hle5
    clear hst4 hfr4 hk5
    refine hK14 _ _ ?_; clear hK14
    refine wp_ret ?_
    repeat (with_reducible first | refine then_ret ?_ | refine block_ret ?_)
    exact fn_ret hst5 hfr5 rfl (.tmp rfl <| .nil) (⟨q2, (hst5.take 1).loc, hJu, rfl⟩)

set_option maxHeartbeats 1600000 in
theorem types1_g {w : World} {m : Mem} {px : Addr} {pa : Addr} {pb : Addr} {g : Nat} {q : QQ} {U : USt} {a b : Ty} {ya yb : (Option Addr × Nat) × (Option Addr × Nat)} {k : Nat} {r : Int × USt} (hA : Agree w m) (hpx : CellsAt m px [.pointer (some ⟨g, 0, none⟩)]) (hpa : CellsAt m pa (tyV a ya)) (hpb : CellsAt m pb (tyV b yb)) (hr : (UB g q U.nx).holds w m) (hU : SubQ m U.s (subV q)) (hTa : TyR m a (tyV a ya)) (hTb : TyR m b (tyV b yb)) (ih : TG k) (hl : a.args.length = 2 ∧ b.args.length = 2) (hrun : typesU k (argT a 0) (argT b 0) U = some r) : FnG Tryz.prog 57 #[.pointer (some px), .pointer (some pa), .pointer (some pb)] [g] w m (UPost g w.heap.size (r)) := by
  refine fn_enter (vs := [_, _, _]) Tryz.func57 rfl rfl rfl fun a0 hfr0 => ?_
  have hst0 := st_enter hA (loc_one hr (by simp [Res.blocks, ptrBlock]))
  have hM : MLe m m := MLe.refl m
  obtain ⟨⟨ya1, ya2⟩, ya3, ya4⟩ := ya
  obtain ⟨⟨yb1, yb2⟩, yb3, yb4⟩ := yb
  obtain ⟨hka, hsa, hva9, hra9⟩ := tyV_o hTa
  obtain ⟨hkb, hsb, hvb9, hrb9⟩ := tyV_o hTb
  have hla := hl.1
  have hlb := hl.2
  refine seq_any fun _ hK1 => ?_
  refine rp0 hst0 hfr0 (.cons rfl (ob_assign rfl) <| .nil) ?_
  intro a1 w1 m1 hst1 hle1 hk1
  have hfr1 := hk1.fr (T' := [(0, _), (1, _), (2, _)]) (.old rfl rfl <| .old rfl rfl <| .old rfl rfl <| .nil)
  replace hpx := hpx.mono hle1
  replace hpa := hpa.mono hle1
  replace hpb := hpb.mono hle1
  replace hTa := hTa.mono hle1
  replace hTb := hTb.mono hle1
  replace hka := hka.mono hle1
  replace hsa := hsa.mono hle1
  replace hkb := hkb.mono hle1
  replace hsb := hsb.mono hle1
  replace hU := hU.mono hle1
  replace hM := hM.trans hle1
  clear hst0 hfr0 hk1
  refine hK1 _ _ ?_; clear hK1
  refine seq_any fun _ hK2 => ?_
  obtain ⟨p3, vs3, x3, ho3, hd3, hm_x3, ht3, hcv3, hl3, hv3⟩ := hka.nth (k := 0) (by omega)
  cases ho3
  obtain ⟨o3, c3, oL3, cL3, rfl, hkd3, hs3, hi3, hj3, hr3⟩ := hv3.open_
  have hbg3 := hkd3.big; have hcp3 := hkd3.cap; have hbs3 := hs3.big; have hcs3 := hs3.cap
  have hrw3 : RwR _ ⟨x3.labels, x3.rv⟩ _ := ⟨_, _, rfl, hs3, hr3⟩
  have e1 := argT_at hd3
  obtain ⟨p4, vs4, x4, ho4, hd4, hm_x4, ht4, hcv4, hl4, hv4⟩ := hkb.nth (k := 0) (by omega)
  cases ho4
  obtain ⟨o4, c4, oL4, cL4, rfl, hkd4, hs4, hi4, hj4, hr4⟩ := hv4.open_
  have hbg4 := hkd4.big; have hcp4 := hkd4.cap; have hbs4 := hs4.big; have hcs4 := hs4.cap
  have hrw4 : RwR _ ⟨x4.labels, x4.rv⟩ _ := ⟨_, _, rfl, hs4, hr4⟩
  have e2 := argT_at hd4
  rw [e1, e2] at hrun
  refine region_any (tch := [(9, 0, (fun _ => UK g r.2))]) (fun _ => mixed) hst1 hfr1 (by kernel_rfl) (by kernel_rfl) (by kernel_rfl) (.cons rfl (ob_load1' rfl hpx Tryz.isAgg86 rfl) <| .cons rfl (ob_fieldAddrO (off := 3) rfl Tryz.underlying45 rfl rfl Tryz.sizeOf33 rfl) <| .cons rfl (ob_load1 rfl hpa Tryz.isAgg33 rfl) <| .cons rfl (ob_indexAddr (k := 0) rfl rfl Tryz.underlying33 Tryz.sizeOf45 rfl (by omega)) <| .cons rfl (ob_loadS' rfl hcv3 Tryz.isAgg45 Tryz.sizeOf45 rfl rfl) <| .cons rfl (ob_fieldAddrO (off := 3) rfl Tryz.underlying45 rfl rfl Tryz.sizeOf33 rfl) <| .cons rfl (ob_load1 rfl hpb Tryz.isAgg33 rfl) <| .cons rfl (ob_indexAddr (k := 0) rfl rfl Tryz.underlying33 Tryz.sizeOf45 rfl (by omega)) <| .cons rfl (ob_loadS' rfl hcv4 Tryz.isAgg45 Tryz.sizeOf45 rfl rfl) <| .consT rfl rfl (fun _ => rfl) rfl (ob_callT rfl (.cons rfl <| .cons rfl <| .cons rfl <| .nil) Tryz.call38 (κ := .eq (.int .i64 r.1)) (fun σ w m hK hr hkn => by have hle_ := KC.le hK; have hA := KC.agree hK; have hM := hM.trans hle_; have hpx := hpx.mono hle_; have hpa := hpa.mono hle_; have hpb := hpb.mono hle_; have hTa := hTa.mono hle_; have hTb := hTb.mono hle_; have hka := hka.mono hle_; have hsa := hsa.mono hle_; have hkb := hkb.mono hle_; have hsb := hsb.mono hle_; have hU := hU.mono hle_; have hcv3 := hcv3.mono hle_; have hv3 := hv3.mono hle_; have hkd3 := hkd3.mono hle_; have hs3 := hs3.mono hle_; have hrw3 := hrw3.mono hle_; have hcv4 := hcv4.mono hle_; have hv4 := hv4.mono hle_; have hkd4 := hkd4.mono hle_; have hs4 := hs4.mono hle_; have hrw4 := hrw4.mono hle_; exact up_T (ih _ _ U r hrun _ _ g q _ _ hA hr hU hv3 hv4))) <| .cons rfl (ob_assign rfl) <| .nil) ?_
  intro a2 w2 m2 hst2 hle2 hk2
  have hfr2 := hk2.fr (T' := [(3, _)]) (.new rfl <| .nil)
  replace hst2 := hst2.fin (L' := [_]) (.cons rfl <| .nil)
  clear hst1 hfr1 hk2
  obtain ⟨q3, hst2, hU3⟩ := up_open (k := 0) hst2 rfl
  simp only [List.set_cons_zero] at hst2
  refine hK2 _ _ ?_; clear hK2
  refine wp_ret ?_
  repeat (with_reducible first | refine then_ret ?_ | refine block_ret ?_)
  exact fn_ret hst2 hfr2 rfl (.tmp rfl <| .nil) (⟨q3, (hst2.take 1).loc, hU3, rfl⟩)

set_option maxHeartbeats 1600000 in
theorem types3_g {w : World} {m : Mem} {px : Addr} {pa : Addr} {pb : Addr} {g : Nat} {q : QQ} {U : USt} {a b : Ty} {ya yb : (Option Addr × Nat) × (Option Addr × Nat)} {k : Nat} {r : Int × USt} (hA : Agree w m) (hpx : CellsAt m px [.pointer (some ⟨g, 0, none⟩)]) (hpa : CellsAt m pa (tyV a ya)) (hpb : CellsAt m pb (tyV b yb)) (hr : (UB g q U.nx).holds w m) (hU : SubQ m U.s (subV q)) (hTa : TyR m a (tyV a ya)) (hTb : TyR m b (tyV b yb)) (ih : TG k) (hl : a.args.length = 2 ∧ b.args.length = 2) (hrun : typesU k (argT a 1) (argT b 1) U = some r) : FnG Tryz.prog 59 #[.pointer (some px), .pointer (some pa), .pointer (some pb)] [g] w m (UPost g w.heap.size (r)) := by
  refine fn_enter (vs := [_, _, _]) Tryz.func59 rfl rfl rfl fun a0 hfr0 => ?_
  have hst0 := st_enter hA (loc_one hr (by simp [Res.blocks, ptrBlock]))
  have hM : MLe m m := MLe.refl m
  obtain ⟨⟨ya1, ya2⟩, ya3, ya4⟩ := ya
  obtain ⟨⟨yb1, yb2⟩, yb3, yb4⟩ := yb
  obtain ⟨hka, hsa, hva9, hra9⟩ := tyV_o hTa
  obtain ⟨hkb, hsb, hvb9, hrb9⟩ := tyV_o hTb
  have hla := hl.1
  have hlb := hl.2
  refine seq_any fun _ hK1 => ?_
  refine rp0 hst0 hfr0 (.cons rfl (ob_assign rfl) <| .nil) ?_
  intro a1 w1 m1 hst1 hle1 hk1
  have hfr1 := hk1.fr (T' := [(0, _), (1, _), (2, _)]) (.old rfl rfl <| .old rfl rfl <| .old rfl rfl <| .nil)
  replace hpx := hpx.mono hle1
  replace hpa := hpa.mono hle1
  replace hpb := hpb.mono hle1
  replace hTa := hTa.mono hle1
  replace hTb := hTb.mono hle1
  replace hka := hka.mono hle1
  replace hsa := hsa.mono hle1
  replace hkb := hkb.mono hle1
  replace hsb := hsb.mono hle1
  replace hU := hU.mono hle1
  replace hM := hM.trans hle1
  clear hst0 hfr0 hk1
  refine hK1 _ _ ?_; clear hK1
  refine seq_any fun _ hK2 => ?_
  obtain ⟨p3, vs3, x3, ho3, hd3, hm_x3, ht3, hcv3, hl3, hv3⟩ := hka.nth (k := 1) (by omega)
  cases ho3
  obtain ⟨o3, c3, oL3, cL3, rfl, hkd3, hs3, hi3, hj3, hr3⟩ := hv3.open_
  have hbg3 := hkd3.big; have hcp3 := hkd3.cap; have hbs3 := hs3.big; have hcs3 := hs3.cap
  have hrw3 : RwR _ ⟨x3.labels, x3.rv⟩ _ := ⟨_, _, rfl, hs3, hr3⟩
  have e1 := argT_at hd3
  obtain ⟨p4, vs4, x4, ho4, hd4, hm_x4, ht4, hcv4, hl4, hv4⟩ := hkb.nth (k := 1) (by omega)
  cases ho4
  obtain ⟨o4, c4, oL4, cL4, rfl, hkd4, hs4, hi4, hj4, hr4⟩ := hv4.open_
  have hbg4 := hkd4.big; have hcp4 := hkd4.cap; have hbs4 := hs4.big; have hcs4 := hs4.cap
  have hrw4 : RwR _ ⟨x4.labels, x4.rv⟩ _ := ⟨_, _, rfl, hs4, hr4⟩
  have e2 := argT_at hd4
  rw [e1, e2] at hrun
  refine region_any (tch := [(9, 0, (fun _ => UK g r.2))]) (fun _ => mixed) hst1 hfr1 (by kernel_rfl) (by kernel_rfl) (by kernel_rfl) (.cons rfl (ob_load1' rfl hpx Tryz.isAgg86 rfl) <| .cons rfl (ob_fieldAddrO (off := 3) rfl Tryz.underlying45 rfl rfl Tryz.sizeOf33 rfl) <| .cons rfl (ob_load1 rfl hpa Tryz.isAgg33 rfl) <| .cons rfl (ob_indexAddr (k := 1) rfl rfl Tryz.underlying33 Tryz.sizeOf45 rfl (by omega)) <| .cons rfl (ob_loadS' rfl hcv3 Tryz.isAgg45 Tryz.sizeOf45 rfl rfl) <| .cons rfl (ob_fieldAddrO (off := 3) rfl Tryz.underlying45 rfl rfl Tryz.sizeOf33 rfl) <| .cons rfl (ob_load1 rfl hpb Tryz.isAgg33 rfl) <| .cons rfl (ob_indexAddr (k := 1) rfl rfl Tryz.underlying33 Tryz.sizeOf45 rfl (by omega)) <| .cons rfl (ob_loadS' rfl hcv4 Tryz.isAgg45 Tryz.sizeOf45 rfl rfl) <| .consT rfl rfl (fun _ => rfl) rfl (ob_callT rfl (.cons rfl <| .cons rfl <| .cons rfl <| .nil) Tryz.call38 (κ := .eq (.int .i64 r.1)) (fun σ w m hK hr hkn => by have hle_ := KC.le hK; have hA := KC.agree hK; have hM := hM.trans hle_; have hpx := hpx.mono hle_; have hpa := hpa.mono hle_; have hpb := hpb.mono hle_; have hTa := hTa.mono hle_; have hTb := hTb.mono hle_; have hka := hka.mono hle_; have hsa := hsa.mono hle_; have hkb := hkb.mono hle_; have hsb := hsb.mono hle_; have hU := hU.mono hle_; have hcv3 := hcv3.mono hle_; have hv3 := hv3.mono hle_; have hkd3 := hkd3.mono hle_; have hs3 := hs3.mono hle_; have hrw3 := hrw3.mono hle_; have hcv4 := hcv4.mono hle_; have hv4 := hv4.mono hle_; have hkd4 := hkd4.mono hle_; have hs4 := hs4.mono hle_; have hrw4 := hrw4.mono hle_; exact up_T (ih _ _ U r hrun _ _ g q _ _ hA hr hU hv3 hv4))) <| .cons rfl (ob_assign rfl) <| .nil) ?_
  intro a2 w2 m2 hst2 hle2 hk2
  have hfr2 := hk2.fr (T' := [(3, _)]) (.new rfl <| .nil)
  replace hst2 := hst2.fin (L' := [_]) (.cons rfl <| .nil)
  clear hst1 hfr1 hk2
  obtain ⟨q3, hst2, hU3⟩ := up_open (k := 0) hst2 rfl
  simp only [List.set_cons_zero] at hst2
  refine hK2 _ _ ?_; clear hK2
  refine wp_ret ?_
  repeat (with_reducible first | refine then_ret ?_ | refine block_ret ?_)
  exact fn_ret hst2 hfr2 rfl (.tmp rfl <| .nil) (⟨q3, (hst2.take 1).loc, hU3, rfl⟩)

set_option maxHeartbeats 1600000 in
theorem types2_g {w : World} {m : Mem} {px : Addr} {pa : Addr} {pb : Addr} {g : Nat} {q : QQ} {U : USt} {a b : Ty} {ya yb : (Option Addr × Nat) × (Option Addr × Nat)} {r : Int × USt} (hA : Agree w m) (hpx : CellsAt m px [.pointer (some ⟨g, 0, none⟩)]) (hpa : CellsAt m pa (tyV a ya)) (hpb : CellsAt m pb (tyV b yb)) (hr : (UB g q U.nx).holds w m) (hU : SubQ m U.s (subV q)) (hTa : TyR m a (tyV a ya)) (hTb : TyR m b (tyV b yb)) (hrun : rowsO ⟨a.labels, a.rv⟩ ⟨b.labels, b.rv⟩ U = some r) : FnG Tryz.prog 58 #[.pointer (some px), .pointer (some pa), .pointer (some pb)] [g] w m (UPost g w.heap.size (r)) := by
  refine fn_enter (vs := [_, _, _]) Tryz.func58 rfl rfl rfl fun a0 hfr0 => ?_
  have hst0 := st_enter hA (loc_one hr (by simp [Res.blocks, ptrBlock]))
  have hM : MLe m m := MLe.refl m
  obtain ⟨⟨ya1, ya2⟩, ya3, ya4⟩ := ya
  obtain ⟨⟨yb1, yb2⟩, yb3, yb4⟩ := yb
  obtain ⟨hka, hsa, hva9, hra9⟩ := tyV_o hTa
  obtain ⟨hkb, hsb, hvb9, hrb9⟩ := tyV_o hTb
  obtain ⟨⟨hok, hwa, hwb⟩, rfl⟩ := rowsO_ok hrun
  refine seq_any fun _ hK1 => ?_
  refine rp0 hst0 hfr0 (.cons rfl (ob_assign rfl) <| .nil) ?_
  intro a1 w1 m1 hst1 hle1 hk1
  have hfr1 := hk1.fr (T' := [(0, _), (1, _), (2, _)]) (.old rfl rfl <| .old rfl rfl <| .old rfl rfl <| .nil)
  replace hpx := hpx.mono hle1
  replace hpa := hpa.mono hle1
  replace hpb := hpb.mono hle1
  replace hTa := hTa.mono hle1
  replace hTb := hTb.mono hle1
  replace hka := hka.mono hle1
  replace hsa := hsa.mono hle1
  replace hkb := hkb.mono hle1
  replace hsb := hsb.mono hle1
  replace hU := hU.mono hle1
  replace hM := hM.trans hle1
  clear hst0 hfr0 hk1
  refine hK1 _ _ ?_; clear hK1
  refine seq_any fun _ hK2 => ?_
  refine ra0 (tch := [(5, 0, (fun _ => UK g (rowsU ⟨a.labels, a.rv⟩ ⟨b.labels, b.rv⟩ U).2))]) hst1 hfr1 (.cons rfl (ob_load1' rfl hpx Tryz.isAgg86 rfl) <| .cons rfl (ob_fieldAddrO (off := 4) rfl Tryz.underlying45 rfl rfl Tryz.sizeOf43 rfl) <| .cons rfl (ob_loadS rfl hpa Tryz.isAgg43 Tryz.sizeOf43 rfl rfl) <| .cons rfl (ob_fieldAddrO (off := 4) rfl Tryz.underlying45 rfl rfl Tryz.sizeOf43 rfl) <| .cons rfl (ob_loadS rfl hpb Tryz.isAgg43 Tryz.sizeOf43 rfl rfl) <| .consT rfl rfl (fun _ => rfl) rfl (ob_callT rfl (.cons rfl <| .cons rfl <| .cons rfl <| .nil) Tryz.call50 (κ := .eq (.int .i64 (rowsU ⟨a.labels, a.rv⟩ ⟨b.labels, b.rv⟩ U).1)) (fun σ w m hK hr hkn => by have hle_ := KC.le hK; have hA := KC.agree hK; have hM := hM.trans hle_; have hpx := hpx.mono hle_; have hpa := hpa.mono hle_; have hpb := hpb.mono hle_; have hTa := hTa.mono hle_; have hTb := hTb.mono hle_; have hka := hka.mono hle_; have hsa := hsa.mono hle_; have hkb := hkb.mono hle_; have hsb := hsb.mono hle_; have hU := hU.mono hle_; exact up_T (rows_g (a := ⟨a.labels, a.rv⟩) (b := ⟨b.labels, b.rv⟩) hA hr hU ⟨_, _, rfl, hsa, hra9⟩ ⟨_, _, rfl, hsb, hrb9⟩ hok hwa hwb))) <| .cons rfl (ob_assign rfl) <| .nil) ?_
  intro a2 w2 m2 hst2 hle2 hk2
  have hfr2 := hk2.fr (T' := [(3, _)]) (.new rfl <| .nil)
  replace hst2 := hst2.fin (L' := [_]) (.cons rfl <| .nil)
  clear hst1 hfr1 hk2
  obtain ⟨q3, hst2, hU3⟩ := up_open (k := 0) hst2 rfl
  simp only [List.set_cons_zero] at hst2
  refine hK2 _ _ ?_; clear hK2
  refine wp_ret ?_
  repeat (with_reducible first | refine then_ret ?_ | refine block_ret ?_)
  exact fn_ret hst2 hfr2 rfl (.tmp rfl <| .nil) (⟨q3, (hst2.take 1).loc, hU3, rfl⟩)

set_option maxHeartbeats 6400000 in
theorem types_s {w : World} {m : Mem} {g : Nat} {q : QQ} {U : USt} {a : Ty} {vs_a : List Value} {b : Ty} {vs_b : List Value} {k : Nat} {R : Int × USt} (hA : Agree w m) (hr : (UB g q U.nx).holds w m) (hU : SubQ m U.s (subV q)) (h_a : TyR m a vs_a) (h_b : TyR m b vs_b) (ih : TG k) (hrun : typesU (k + 1) a b U = some R) : FnG Tryz.prog 38 #[.pointer (some ⟨g, 0, none⟩), .agg vs_a.toArray, .agg vs_b.toArray] [g] w m (UPost g w.heap.size (R)) := by
  obtain ⟨o_a, c_a, oL_a, cL_a, rfl, hk_a, hs_a, hi_a, hj_a, hr_a⟩ := h_a.open_
  have hbg_a := hk_a.big; have hcp_a := hk_a.cap; have hbs_a := hs_a.big; have hcs_a := hs_a.cap
  have hrw_a : RwR _ ⟨a.labels, a.rv⟩ _ := ⟨_, _, rfl, hs_a, hr_a⟩
  obtain ⟨o_b, c_b, oL_b, cL_b, rfl, hk_b, hs_b, hi_b, hj_b, hr_b⟩ := h_b.open_
  have hbg_b := hk_b.big; have hcp_b := hk_b.cap; have hbs_b := hs_b.big; have hcs_b := hs_b.cap
  have hrw_b : RwR _ ⟨b.labels, b.rv⟩ _ := ⟨_, _, rfl, hs_b, hr_b⟩
  refine fn_enter (vs := [_, _, _]) Tryz.func38 rfl rfl rfl fun a0 hfr0 => ?_
  have hst0 := st_enter hA (loc_one hr (by simp [Res.blocks, ptrBlock]))
  have hM : MLe m m := MLe.refl m
  obtain ⟨⟨hok, hoa, hob⟩, hB⟩ := typesU_ok hrun
  clear hrun
  have hww := hok.w
  have hwa := hoa.w
  have hwb := hob.w
  have hca := hoa.c
  have hcb := hob.c
  have hda := applyT_wd hww a
  have hdb := applyT_wd hww b
  obtain ⟨pa, hpa⟩ : ∃ x, x = applyT U.s a := ⟨_, rfl⟩
  obtain ⟨pb, hpb⟩ : ∃ x, x = applyT U.s b := ⟨_, rfl⟩
  rw [← hpa, ← hpb] at hB
  rw [← hpa] at hda hca
  rw [← hpb] at hdb hcb
  have hsm := sameT_iff pa pb
  refine seq_any fun _ hK1 => ?_
  replace hst0 := hst0.more (r := .free) trivial List.nodup_nil (by simp [Res.blocks])
  replace hst0 := hst0.more (r := .free) trivial List.nodup_nil (by simp [Res.blocks])
  refine ra0 (tch := [(1, 1, (fun v => .blk v _)), (2, 2, (fun v => .blk v _))]) hst0 hfr0 (.cons rfl (ob_box rfl rfl) <| .consT rfl rfl (fun _ => rfl) rfl (ob_boxL rfl rfl) <| .consT rfl rfl (fun _ => rfl) rfl (ob_boxL rfl rfl) <| .cons rfl (ob_assign rfl) <| .nil) ?_
  intro a1 w1 m1 hst1 hle1 hk1
  have hfr1 := hk1.fr (T' := []) (.nil)
  obtain ⟨g3, e2, hc3⟩ := hk1.ex 3 rfl
  replace hfr1 := hfr1.cons e2
  obtain ⟨gA, e3, _⟩ := hk1.ex 4 rfl
  replace hfr1 := hfr1.cons e3
  obtain ⟨gB, e4, _⟩ := hk1.ex 5 rfl
  replace hfr1 := hfr1.cons e4
  replace hst1 := hst1.fin (L' := [_, _, _]) (.cons e3 <| .cons e4 <| .nil)
  replace h_a := h_a.mono hle1
  replace hk_a := hk_a.mono hle1
  replace hs_a := hs_a.mono hle1
  replace hrw_a := hrw_a.mono hle1
  replace h_b := h_b.mono hle1
  replace hk_b := hk_b.mono hle1
  replace hs_b := hs_b.mono hle1
  replace hrw_b := hrw_b.mono hle1
  replace hU := hU.mono hle1
  replace hM := hM.trans hle1
  clear hst0 hfr0 hk1
  refine hK1 _ _ ?_; clear hK1
  refine seq_any fun _ hK5 => ?_
  refine region_any (tch := [(12, 1, (fun _ => .blkx _ _ _)), (13, 2, (fun _ => .blkx _ _ _))]) (fun _ => mixed) hst1 hfr1 (by kernel_rfl) (by kernel_rfl) (by kernel_rfl) (.cons rfl (ob_load1' rfl hc3 Tryz.isAgg86 rfl) <| .cons rfl (ob_nilCheck rfl) <| .cons rfl (ob_fieldAddrO (off := 0) rfl Tryz.underlying74 rfl rfl Tryz.sizeOf29 rfl) <| .cons rfl (ob_loadLS (j := 0) rfl rfl Tryz.isAgg29 Tryz.sizeOf29 rfl rfl) <| .cons rfl (ob_loadLA (j := 1) rfl rfl Tryz.isAgg45 Tryz.sizeOf45 rfl) <| .cons rfl (ob_call (φ := MP.ty pa) rfl (.cons rfl <| .cons rfl <| .nil) Tryz.call17 (fun w m hK => by have hle_ := KC.le hK; have hA := KC.agree hK; have h_a := h_a.mono hle_; have hU := hU.mono hle_; exact FnG.mono ((by rw [hpa]; exact applyU_c a hA hU h_a (hww.up (by omega)) (by omega))) fun _ _ _ _ h => h)) <| .cons rfl (ob_load1' rfl hc3 Tryz.isAgg86 rfl) <| .cons rfl (ob_nilCheck rfl) <| .cons rfl (ob_fieldAddrO (off := 0) rfl Tryz.underlying74 rfl rfl Tryz.sizeOf29 rfl) <| .cons rfl (ob_loadLS (j := 0) rfl rfl Tryz.isAgg29 Tryz.sizeOf29 rfl rfl) <| .cons rfl (ob_loadLA (j := 2) rfl rfl Tryz.isAgg45 Tryz.sizeOf45 rfl) <| .cons rfl (ob_call (φ := MP.ty pb) rfl (.cons rfl <| .cons rfl <| .nil) Tryz.call17 (fun w m hK => by have hle_ := KC.le hK; have hA := KC.agree hK; have h_b := h_b.mono hle_; have hU := hU.mono hle_; exact FnG.mono ((by rw [hpb]; exact applyU_c b hA hU h_b (hww.up (by omega)) (by omega))) fun _ _ _ _ h => h)) <| .consT rfl rfl (fun _ => rfl) rfl (ob_imgTX 12 rfl rfl rfl fun y12 => ob_store' rfl rfl rfl Tryz.sizeOf45 rfl rfl rfl) <| .consT rfl rfl (fun _ => rfl) rfl (ob_imgTX 18 rfl rfl rfl fun y18 => ob_store' rfl rfl rfl Tryz.sizeOf45 rfl rfl rfl) <| .nil) ?_
  intro a2 w2 m2 hst2 hle2 hk2
  have hfr2 := hk2.fr (T' := [(3, _), (4, _), (5, _)]) (.old rfl rfl <| .old rfl rfl <| .old rfl rfl <| .nil)
  replace hst2 := hst2.fin (L' := [_, _, _]) (.cons rfl <| .cons rfl <| .nil)
  try simp only [List.take_succ_cons, List.take_zero, List.drop_succ_cons, List.drop_zero, List.cons_append, List.nil_append, List.append_nil, List.length_cons, List.length_nil, Nat.zero_add, Nat.reduceAdd] at hst2
  obtain ⟨⟨⟨oa1, ca1⟩, oa2, ca2⟩, hTa, hst2⟩ := hst2.unx (k := 1) rfl (fun _ => rfl)
  obtain ⟨⟨⟨ob1, cb1⟩, ob2, cb2⟩, hTb, hst2⟩ := hst2.unx (k := 2) rfl (fun _ => rfl)
  replace h_a := h_a.mono hle2
  replace hk_a := hk_a.mono hle2
  replace hs_a := hs_a.mono hle2
  replace hrw_a := hrw_a.mono hle2
  replace h_b := h_b.mono hle2
  replace hk_b := hk_b.mono hle2
  replace hs_b := hs_b.mono hle2
  replace hrw_b := hrw_b.mono hle2
  replace hU := hU.mono hle2
  replace hc3 := hc3.mono hle2
  replace hM := hM.trans hle2
  clear hst1 hfr1 hk2
  obtain ⟨hkpa, hspa, hva9, hra9⟩ := tyV_o hTa
  obtain ⟨hkpb, hspb, hvb9, hrb9⟩ := tyV_o hTb
  obtain ⟨m3, hle3, hst3, hB_A⟩ := hst2.freezeB (k := 1) rfl
  simp only [List.set_cons_succ, List.set_cons_zero] at hst3
  have hfr3 := hfr2; obtain ⟨a3, rfl⟩ : ∃ a, a = a2 := ⟨_, rfl⟩; obtain ⟨w3, rfl⟩ : ∃ w, w = w2 := ⟨_, rfl⟩
  replace h_a := h_a.mono hle3
  replace hk_a := hk_a.mono hle3
  replace hs_a := hs_a.mono hle3
  replace hrw_a := hrw_a.mono hle3
  replace h_b := h_b.mono hle3
  replace hk_b := hk_b.mono hle3
  replace hs_b := hs_b.mono hle3
  replace hrw_b := hrw_b.mono hle3
  replace hU := hU.mono hle3
  replace hc3 := hc3.mono hle3
  replace hTa := hTa.mono hle3
  replace hTb := hTb.mono hle3
  replace hkpa := hkpa.mono hle3
  replace hspa := hspa.mono hle3
  replace hkpb := hkpb.mono hle3
  replace hspb := hspb.mono hle3
  replace hM := hM.trans hle3
  clear hst2 hfr2
  obtain ⟨m4, hle4, hst4, hB_B⟩ := hst3.freezeB (k := 2) rfl
  simp only [List.set_cons_succ, List.set_cons_zero] at hst4
  have hfr4 := hfr3; obtain ⟨a4, rfl⟩ : ∃ a, a = a3 := ⟨_, rfl⟩; obtain ⟨w4, rfl⟩ : ∃ w, w = w3 := ⟨_, rfl⟩
  replace h_a := h_a.mono hle4
  replace hk_a := hk_a.mono hle4
  replace hs_a := hs_a.mono hle4
  replace hrw_a := hrw_a.mono hle4
  replace h_b := h_b.mono hle4
  replace hk_b := hk_b.mono hle4
  replace hs_b := hs_b.mono hle4
  replace hrw_b := hrw_b.mono hle4
  replace hU := hU.mono hle4
  replace hc3 := hc3.mono hle4
  replace hTa := hTa.mono hle4
  replace hTb := hTb.mono hle4
  replace hkpa := hkpa.mono hle4
  replace hspa := hspa.mono hle4
  replace hkpb := hkpb.mono hle4
  replace hspb := hspb.mono hle4
  replace hB_A := hB_A.mono hle4
  replace hM := hM.trans hle4
  clear hst3 hfr3
  refine hK5 _ _ ?_; clear hK5
  refine seq_any fun _ hK8 => ?_
  refine wp_block ?_
  refine seq_any fun _ hK9 => ?_
  refine rp0 hst4 hfr4 (.cons rfl (ob_loadS' rfl hB_A Tryz.isAgg45 Tryz.sizeOf45 rfl rfl) <| .cons rfl (ob_loadS' rfl hB_B Tryz.isAgg45 Tryz.sizeOf45 rfl rfl) <| .cons rfl (ob_callE rfl (.cons rfl <| .cons rfl <| .nil) Tryz.call54 (fun w m hK => by have hle_ := KC.le hK; have hA := KC.agree hK; have hTa := hTa.mono hle_; have hTb := hTb.mono hle_; exact same_c pa (u := pb) hA hTa hTb)) <| .cons rfl (ob_assign rfl) <| .nil) ?_
  intro a5 w5 m5 hst5 hle5 hk5
  have hfr5 := hk5.fr (T' := [(3, _), (4, _), (5, _), (19, _)]) (.old rfl rfl <| .old rfl rfl <| .old rfl rfl <| .new rfl <| .nil)
  replace h_a := h_a.mono hle5
  replace hk_a := hk_a.mono hle5
  replace hs_a := hs_a.mono hle5
  replace hrw_a := hrw_a.mono hle5
  replace h_b := h_b.mono hle5
  replace hk_b := hk_b.mono hle5
  replace hs_b := hs_b.mono hle5
  replace hrw_b := hrw_b.mono hle5
  replace hU := hU.mono hle5
  replace hc3 := hc3.mono hle5
  replace hTa := hTa.mono hle5
  replace hTb := hTb.mono hle5
  replace hkpa := hkpa.mono hle5
  replace hspa := hspa.mono hle5
  replace hkpb := hkpb.mono hle5
  replace hspb := hspb.mono hle5
  replace hB_A := hB_A.mono hle5
  replace hB_B := hB_B.mono hle5
  replace hM := hM.trans hle5
  clear hst4 hfr4 hk5
  refine hK9 _ _ ?_; clear hK9
  refine cond_any hfr5 rfl rfl (fun hb19 => ?_) (fun hb19 => ?_)
  · try simp only [nq1, nq2, nq3, nq4, nq5, nq6, nq7, nq8, nq9, u8_eq] at hb19
    have he9 := hsm.1 hb19
    rw [typesB, if_pos he9] at hB
    injection hB with hB
    subst hB
    refine seq_any fun _ hK10 => ?_
    refine rp0 hst5 hfr5 (.cons rfl (ob_assign rfl) <| .nil) ?_
    intro a6 w6 m6 hst6 hle6 hk6
    have hfr6 := hk6.fr (T' := [(6, _)]) (.new rfl <| .nil)
    replace hU := hU.mono hle6
    clear hst5 hfr5 hk6
    refine hK10 _ _ ?_; clear hK10
    refine wp_ret ?_
    repeat (with_reducible first | refine then_ret ?_ | refine block_ret ?_)
    exact fn_ret hst6 hfr6 rfl (.tmp rfl <| .nil) (⟨q, (hst6.take 1).loc, hU, rfl⟩)
  · try simp only [nq1, nq2, nq3, nq4, nq5, nq6, nq7, nq8, nq9, u8_eq] at hb19
    have he9 : ¬ pa = pb := fun h => by rw [hsm.2 h] at hb19; cases hb19
    rw [typesB, if_neg he9] at hB
    refine seq_any fun _ hK12 => ?_
    refine rp0 hst5 hfr5 (.cons rfl (ob_fieldAddrO (off := 0) rfl Tryz.underlying45 rfl rfl Tryz.sizeOf3 rfl) <| .cons rfl (ob_load1 rfl hB_A Tryz.isAgg3 rfl) <| .cons rfl (ob_eql rfl rfl) <| .cons rfl (ob_assign rfl) <| .nil) ?_
    intro a6 w6 m6 hst6 hle6 hk6
    have hfr6 := hk6.fr (T' := [(3, _), (4, _), (5, _), (23, _)]) (.old rfl rfl <| .old rfl rfl <| .old rfl rfl <| .new rfl <| .nil)
    replace h_a := h_a.mono hle6
    replace hk_a := hk_a.mono hle6
    replace hs_a := hs_a.mono hle6
    replace hrw_a := hrw_a.mono hle6
    replace h_b := h_b.mono hle6
    replace hk_b := hk_b.mono hle6
    replace hs_b := hs_b.mono hle6
    replace hrw_b := hrw_b.mono hle6
    replace hU := hU.mono hle6
    replace hc3 := hc3.mono hle6
    replace hTa := hTa.mono hle6
    replace hTb := hTb.mono hle6
    replace hkpa := hkpa.mono hle6
    replace hspa := hspa.mono hle6
    replace hkpb := hkpb.mono hle6
    replace hspb := hspb.mono hle6
    replace hB_A := hB_A.mono hle6
    replace hB_B := hB_B.mono hle6
    replace hM := hM.trans hle6
    clear hst5 hfr5 hk6
    refine hK12 _ _ ?_; clear hK12
    refine cond_any hfr6 rfl rfl (fun hb23 => ?_) (fun hb23 => ?_)
    · try simp only [nq1, nq2, nq3, nq4, nq5, nq6, nq7, nq8, nq9, u8_eq] at hb23
      rw [if_pos hb23] at hB
      injection hB with hB
      subst hB
      refine seq_any fun _ hK13 => ?_
      refine ra0 (tch := [(4, 0, (fun _ => UK g (isU pa.var pb U).2))]) hst6 hfr6 (.cons rfl (ob_load1' rfl hc3 Tryz.isAgg86 rfl) <| .cons rfl (ob_fieldAddrO (off := 2) rfl Tryz.underlying45 rfl rfl Tryz.sizeOf3 rfl) <| .cons rfl (ob_load1 rfl hB_A Tryz.isAgg3 rfl) <| .cons rfl (ob_loadS' rfl hB_B Tryz.isAgg45 Tryz.sizeOf45 rfl rfl) <| .consT rfl rfl (fun _ => rfl) rfl (ob_callT rfl (.cons rfl <| .cons rfl <| .cons rfl <| .nil) Tryz.call55 (κ := .eq (.int .i64 (isU pa.var pb U).1)) (fun σ w m hK hr hkn => by have hle_ := KC.le hK; have hA := KC.agree hK; have hM := hM.trans hle_; have h_a := h_a.mono hle_; have hk_a := hk_a.mono hle_; have hs_a := hs_a.mono hle_; have hrw_a := hrw_a.mono hle_; have h_b := h_b.mono hle_; have hk_b := hk_b.mono hle_; have hs_b := hs_b.mono hle_; have hrw_b := hrw_b.mono hle_; have hU := hU.mono hle_; have hc3 := hc3.mono hle_; have hTa := hTa.mono hle_; have hTb := hTb.mono hle_; have hkpa := hkpa.mono hle_; have hspa := hspa.mono hle_; have hkpb := hkpb.mono hle_; have hspb := hspb.mono hle_; have hB_A := hB_A.mono hle_; have hB_B := hB_B.mono hle_; exact up_T (is_g (n := pa.var) (t := pb) hA hr hU hTb hok (by omega) (by omega)))) <| .cons rfl (ob_assign rfl) <| .nil) ?_
      intro a7 w7 m7 hst7 hle7 hk7
      have hfr7 := hk7.fr (T' := [(6, _)]) (.new rfl <| .nil)
      replace hst7 := hst7.fin (L' := [_, _, _]) (.cons rfl <| .nil)
      clear hst6 hfr6 hk7
      obtain ⟨q3, hst7, hU3⟩ := up_open (k := 0) hst7 rfl
      simp only [List.set_cons_zero] at hst7
      refine hK13 _ _ ?_; clear hK13
      refine wp_ret ?_
      repeat (with_reducible first | refine then_ret ?_ | refine block_ret ?_)
      exact fn_ret hst7 hfr7 rfl (.tmp rfl <| .nil) (⟨q3, (hst7.take 1).loc, hU3, rfl⟩)
    · try simp only [nq1, nq2, nq3, nq4, nq5, nq6, nq7, nq8, nq9, u8_eq] at hb23
      rw [if_neg hb23] at hB
      refine seq_any fun _ hK15 => ?_
      refine rp0 hst6 hfr6 (.cons rfl (ob_fieldAddrO (off := 0) rfl Tryz.underlying45 rfl rfl Tryz.sizeOf3 rfl) <| .cons rfl (ob_load1 rfl hB_B Tryz.isAgg3 rfl) <| .cons rfl (ob_eql rfl rfl) <| .cons rfl (ob_assign rfl) <| .nil) ?_
      intro a7 w7 m7 hst7 hle7 hk7
      have hfr7 := hk7.fr (T' := [(3, _), (4, _), (5, _), (32, _)]) (.old rfl rfl <| .old rfl rfl <| .old rfl rfl <| .new rfl <| .nil)
      replace h_a := h_a.mono hle7
      replace hk_a := hk_a.mono hle7
      replace hs_a := hs_a.mono hle7
      replace hrw_a := hrw_a.mono hle7
      replace h_b := h_b.mono hle7
      replace hk_b := hk_b.mono hle7
      replace hs_b := hs_b.mono hle7
      replace hrw_b := hrw_b.mono hle7
      replace hU := hU.mono hle7
      replace hc3 := hc3.mono hle7
      replace hTa := hTa.mono hle7
      replace hTb := hTb.mono hle7
      replace hkpa := hkpa.mono hle7
      replace hspa := hspa.mono hle7
      replace hkpb := hkpb.mono hle7
      replace hspb := hspb.mono hle7
      replace hB_A := hB_A.mono hle7
      replace hB_B := hB_B.mono hle7
      replace hM := hM.trans hle7
      clear hst6 hfr6 hk7
      refine hK15 _ _ ?_; clear hK15
      refine cond_any hfr7 rfl rfl (fun hb32 => ?_) (fun hb32 => ?_)
      · try simp only [nq1, nq2, nq3, nq4, nq5, nq6, nq7, nq8, nq9, u8_eq] at hb32
        rw [if_pos hb32] at hB
        injection hB with hB
        subst hB
        refine seq_any fun _ hK16 => ?_
        refine ra0 (tch := [(4, 0, (fun _ => UK g (isU pb.var pa U).2))]) hst7 hfr7 (.cons rfl (ob_load1' rfl hc3 Tryz.isAgg86 rfl) <| .cons rfl (ob_fieldAddrO (off := 2) rfl Tryz.underlying45 rfl rfl Tryz.sizeOf3 rfl) <| .cons rfl (ob_load1 rfl hB_B Tryz.isAgg3 rfl) <| .cons rfl (ob_loadS' rfl hB_A Tryz.isAgg45 Tryz.sizeOf45 rfl rfl) <| .consT rfl rfl (fun _ => rfl) rfl (ob_callT rfl (.cons rfl <| .cons rfl <| .cons rfl <| .nil) Tryz.call55 (κ := .eq (.int .i64 (isU pb.var pa U).1)) (fun σ w m hK hr hkn => by have hle_ := KC.le hK; have hA := KC.agree hK; have hM := hM.trans hle_; have h_a := h_a.mono hle_; have hk_a := hk_a.mono hle_; have hs_a := hs_a.mono hle_; have hrw_a := hrw_a.mono hle_; have h_b := h_b.mono hle_; have hk_b := hk_b.mono hle_; have hs_b := hs_b.mono hle_; have hrw_b := hrw_b.mono hle_; have hU := hU.mono hle_; have hc3 := hc3.mono hle_; have hTa := hTa.mono hle_; have hTb := hTb.mono hle_; have hkpa := hkpa.mono hle_; have hspa := hspa.mono hle_; have hkpb := hkpb.mono hle_; have hspb := hspb.mono hle_; have hB_A := hB_A.mono hle_; have hB_B := hB_B.mono hle_; exact up_T (is_g (n := pb.var) (t := pa) hA hr hU hTa hok (by omega) (by omega)))) <| .cons rfl (ob_assign rfl) <| .nil) ?_
        intro a8 w8 m8 hst8 hle8 hk8
        have hfr8 := hk8.fr (T' := [(6, _)]) (.new rfl <| .nil)
        replace hst8 := hst8.fin (L' := [_, _, _]) (.cons rfl <| .nil)
        clear hst7 hfr7 hk8
        obtain ⟨q3, hst8, hU3⟩ := up_open (k := 0) hst8 rfl
        simp only [List.set_cons_zero] at hst8
        refine hK16 _ _ ?_; clear hK16
        refine wp_ret ?_
        repeat (with_reducible first | refine then_ret ?_ | refine block_ret ?_)
        exact fn_ret hst8 hfr8 rfl (.tmp rfl <| .nil) (⟨q3, (hst8.take 1).loc, hU3, rfl⟩)
      · try simp only [nq1, nq2, nq3, nq4, nq5, nq6, nq7, nq8, nq9, u8_eq] at hb32
        rw [if_neg hb32] at hB
        refine seq_any fun _ hK18 => ?_
        refine rp0 hst7 hfr7 (.cons rfl (ob_fieldAddrO (off := 0) rfl Tryz.underlying45 rfl rfl Tryz.sizeOf3 rfl) <| .cons rfl (ob_load1 rfl hB_A Tryz.isAgg3 rfl) <| .cons rfl (ob_fieldAddrO (off := 0) rfl Tryz.underlying45 rfl rfl Tryz.sizeOf3 rfl) <| .cons rfl (ob_load1 rfl hB_B Tryz.isAgg3 rfl) <| .cons rfl (ob_neq rfl rfl) <| .cons rfl (ob_move rfl) <| .cons rfl (ob_fieldAddrO (off := 3) rfl Tryz.underlying45 rfl rfl Tryz.sizeOf33 rfl) <| .cons rfl (ob_load1 rfl hB_A Tryz.isAgg33 rfl) <| .cons rfl (ob_len rfl Tryz.underlying33) <| .cons rfl (ob_fieldAddrO (off := 3) rfl Tryz.underlying45 rfl rfl Tryz.sizeOf33 rfl) <| .cons rfl (ob_load1 rfl hB_B Tryz.isAgg33 rfl) <| .cons rfl (ob_len rfl Tryz.underlying33) <| .cons rfl (ob_neq rfl rfl) <| .cons rfl (ob_or rfl rfl rfl) <| .cons rfl (ob_assign rfl) <| .nil) ?_
        intro a8 w8 m8 hst8 hle8 hk8
        have hfr8 := hk8.fr (T' := [(3, _), (4, _), (5, _), (41, _)]) (.old rfl rfl <| .old rfl rfl <| .old rfl rfl <| .new rfl <| .nil)
        replace h_a := h_a.mono hle8
        replace hk_a := hk_a.mono hle8
        replace hs_a := hs_a.mono hle8
        replace hrw_a := hrw_a.mono hle8
        replace h_b := h_b.mono hle8
        replace hk_b := hk_b.mono hle8
        replace hs_b := hs_b.mono hle8
        replace hrw_b := hrw_b.mono hle8
        replace hU := hU.mono hle8
        replace hc3 := hc3.mono hle8
        replace hTa := hTa.mono hle8
        replace hTb := hTb.mono hle8
        replace hkpa := hkpa.mono hle8
        replace hspa := hspa.mono hle8
        replace hkpb := hkpb.mono hle8
        replace hspb := hspb.mono hle8
        replace hB_A := hB_A.mono hle8
        replace hB_B := hB_B.mono hle8
        replace hM := hM.trans hle8
        clear hst7 hfr7 hk8
        refine hK18 _ _ ?_; clear hK18
        refine cond_any hfr8 rfl rfl (fun hb41 => ?_) (fun hb41 => ?_)
        · try simp only [nq1, nq2, nq3, nq4, nq5, nq6, nq7, nq8, nq9, u8_eq] at hb41
          rw [if_pos (by rcases hb41 with h | h; (exact .inl h); exact .inr (by omega))] at hB
          injection hB with hB
          subst hB
          refine seq_any fun _ hK19 => ?_
          refine rp0 hst8 hfr8 (.cons rfl (ob_assign rfl) <| .nil) ?_
          intro a9 w9 m9 hst9 hle9 hk9
          have hfr9 := hk9.fr (T' := [(6, _)]) (.new rfl <| .nil)
          replace hU := hU.mono hle9
          clear hst8 hfr8 hk9
          refine hK19 _ _ ?_; clear hK19
          refine wp_ret ?_
          repeat (with_reducible first | refine then_ret ?_ | refine block_ret ?_)
          exact fn_ret hst9 hfr9 rfl (.tmp rfl <| .nil) (⟨q, (hst9.take 1).loc, hU, rfl⟩)
        · try simp only [nq1, nq2, nq3, nq4, nq5, nq6, nq7, nq8, nq9, u8_eq] at hb41
          have hc41 : ¬ (pa.kind ≠ pb.kind ∨ pa.args.length ≠ pb.args.length) := fun h => by rcases h with h | h; (exact h hb41.1); exact h (by omega)
          rw [if_neg hc41] at hB
          have hln : pa.args.length = pb.args.length := by omega
          refine seq_any fun _ hK21 => ?_
          refine rp0 hst8 hfr8 (.cons rfl (ob_fieldAddrO (off := 0) rfl Tryz.underlying45 rfl rfl Tryz.sizeOf3 rfl) <| .cons rfl (ob_load1 rfl hB_A Tryz.isAgg3 rfl) <| .cons rfl (ob_eql rfl rfl) <| .cons rfl (ob_move rfl) <| .cons rfl (ob_fieldAddrO (off := 3) rfl Tryz.underlying45 rfl rfl Tryz.sizeOf33 rfl) <| .cons rfl (ob_load1 rfl hB_A Tryz.isAgg33 rfl) <| .cons rfl (ob_len rfl Tryz.underlying33) <| .cons rfl (ob_eql rfl rfl) <| .cons rfl (ob_and rfl rfl rfl) <| .cons rfl (ob_assign rfl) <| .nil) ?_
          intro a9 w9 m9 hst9 hle9 hk9
          have hfr9 := hk9.fr (T' := [(3, _), (4, _), (5, _), (56, _)]) (.old rfl rfl <| .old rfl rfl <| .old rfl rfl <| .new rfl <| .nil)
          replace h_a := h_a.mono hle9
          replace hk_a := hk_a.mono hle9
          replace hs_a := hs_a.mono hle9
          replace hrw_a := hrw_a.mono hle9
          replace h_b := h_b.mono hle9
          replace hk_b := hk_b.mono hle9
          replace hs_b := hs_b.mono hle9
          replace hrw_b := hrw_b.mono hle9
          replace hU := hU.mono hle9
          replace hc3 := hc3.mono hle9
          replace hTa := hTa.mono hle9
          replace hTb := hTb.mono hle9
          replace hkpa := hkpa.mono hle9
          replace hspa := hspa.mono hle9
          replace hkpb := hkpb.mono hle9
          replace hspb := hspb.mono hle9
          replace hB_A := hB_A.mono hle9
          replace hB_B := hB_B.mono hle9
          replace hM := hM.trans hle9
          clear hst8 hfr8 hk9
          refine hK21 _ _ ?_; clear hK21
          refine cond_any hfr9 rfl rfl (fun hb56 => ?_) (fun hb56 => ?_)
          · try simp only [nq1, nq2, nq3, nq4, nq5, nq6, nq7, nq8, nq9, u8_eq] at hb56
            have hc56 : pa.kind = 6 ∧ pa.args.length = 1 := ⟨hb56.1, by omega⟩
            rw [if_pos hc56] at hB
            have hl1 := hc56.2
            refine seq_any fun _ hK22 => ?_
            obtain ⟨p23, vs23, x23, ho23, hd23, hm_x23, ht23, hcv23, hl23, hv23⟩ := hkpa.nth (k := 0) (by omega)
            cases ho23
            obtain ⟨o23, c23, oL23, cL23, rfl, hkd23, hs23, hi23, hj23, hr23⟩ := hv23.open_
            have hbg23 := hkd23.big; have hcp23 := hkd23.cap; have hbs23 := hs23.big; have hcs23 := hs23.cap
            have hrw23 : RwR _ ⟨x23.labels, x23.rv⟩ _ := ⟨_, _, rfl, hs23, hr23⟩
            have e1 := argT_at hd23
            obtain ⟨p24, vs24, x24, ho24, hd24, hm_x24, ht24, hcv24, hl24, hv24⟩ := hkpb.nth (k := 0) (by omega)
            cases ho24
            obtain ⟨o24, c24, oL24, cL24, rfl, hkd24, hs24, hi24, hj24, hr24⟩ := hv24.open_
            have hbg24 := hkd24.big; have hcp24 := hkd24.cap; have hbs24 := hs24.big; have hcs24 := hs24.cap
            have hrw24 : RwR _ ⟨x24.labels, x24.rv⟩ _ := ⟨_, _, rfl, hs24, hr24⟩
            have e2 := argT_at hd24
            rw [e1, e2] at hB
            refine region_any (tch := [(9, 0, (fun _ => UK g R.2))]) (fun _ => mixed) hst9 hfr9 (by kernel_rfl) (by kernel_rfl) (by kernel_rfl) (.cons rfl (ob_load1' rfl hc3 Tryz.isAgg86 rfl) <| .cons rfl (ob_fieldAddrO (off := 3) rfl Tryz.underlying45 rfl rfl Tryz.sizeOf33 rfl) <| .cons rfl (ob_load1 rfl hB_A Tryz.isAgg33 rfl) <| .cons rfl (ob_indexAddr (k := 0) rfl rfl Tryz.underlying33 Tryz.sizeOf45 rfl (by omega)) <| .cons rfl (ob_loadS' rfl hcv23 Tryz.isAgg45 Tryz.sizeOf45 rfl rfl) <| .cons rfl (ob_fieldAddrO (off := 3) rfl Tryz.underlying45 rfl rfl Tryz.sizeOf33 rfl) <| .cons rfl (ob_load1 rfl hB_B Tryz.isAgg33 rfl) <| .cons rfl (ob_indexAddr (k := 0) rfl rfl Tryz.underlying33 Tryz.sizeOf45 rfl (by omega)) <| .cons rfl (ob_loadS' rfl hcv24 Tryz.isAgg45 Tryz.sizeOf45 rfl rfl) <| .consT rfl rfl (fun _ => rfl) rfl (ob_callT rfl (.cons rfl <| .cons rfl <| .cons rfl <| .nil) Tryz.call38 (κ := .eq (.int .i64 R.1)) (fun σ w m hK hr hkn => by have hle_ := KC.le hK; have hA := KC.agree hK; have hM := hM.trans hle_; have h_a := h_a.mono hle_; have hk_a := hk_a.mono hle_; have hs_a := hs_a.mono hle_; have hrw_a := hrw_a.mono hle_; have h_b := h_b.mono hle_; have hk_b := hk_b.mono hle_; have hs_b := hs_b.mono hle_; have hrw_b := hrw_b.mono hle_; have hU := hU.mono hle_; have hc3 := hc3.mono hle_; have hTa := hTa.mono hle_; have hTb := hTb.mono hle_; have hkpa := hkpa.mono hle_; have hspa := hspa.mono hle_; have hkpb := hkpb.mono hle_; have hspb := hspb.mono hle_; have hB_A := hB_A.mono hle_; have hB_B := hB_B.mono hle_; have hcv23 := hcv23.mono hle_; have hv23 := hv23.mono hle_; have hkd23 := hkd23.mono hle_; have hs23 := hs23.mono hle_; have hrw23 := hrw23.mono hle_; have hcv24 := hcv24.mono hle_; have hv24 := hv24.mono hle_; have hkd24 := hkd24.mono hle_; have hs24 := hs24.mono hle_; have hrw24 := hrw24.mono hle_; exact up_T (ih _ _ U R hB _ _ g q _ _ hA hr hU hv23 hv24))) <| .cons rfl (ob_assign rfl) <| .nil) ?_
            intro a10 w10 m10 hst10 hle10 hk10
            have hfr10 := hk10.fr (T' := [(6, _)]) (.new rfl <| .nil)
            replace hst10 := hst10.fin (L' := [_, _, _]) (.cons rfl <| .nil)
            clear hst9 hfr9 hk10
            obtain ⟨q3, hst10, hU3⟩ := up_open (k := 0) hst10 rfl
            simp only [List.set_cons_zero] at hst10
            refine hK22 _ _ ?_; clear hK22
            refine wp_ret ?_
            repeat (with_reducible first | refine then_ret ?_ | refine block_ret ?_)
            exact fn_ret hst10 hfr10 rfl (.tmp rfl <| .nil) (⟨q3, (hst10.take 1).loc, hU3, rfl⟩)
          · try simp only [nq1, nq2, nq3, nq4, nq5, nq6, nq7, nq8, nq9, u8_eq] at hb56
            rw [if_neg (fun h => by rcases hb56 with h9 | h9; (exact h9 h.1); (have := h.2; omega))] at hB
            refine seq_any fun _ hK26 => ?_
            refine rp0 hst9 hfr9 (.cons rfl (ob_fieldAddrO (off := 0) rfl Tryz.underlying45 rfl rfl Tryz.sizeOf3 rfl) <| .cons rfl (ob_load1 rfl hB_A Tryz.isAgg3 rfl) <| .cons rfl (ob_eql rfl rfl) <| .cons rfl (ob_move rfl) <| .cons rfl (ob_fieldAddrO (off := 3) rfl Tryz.underlying45 rfl rfl Tryz.sizeOf33 rfl) <| .cons rfl (ob_load1 rfl hB_A Tryz.isAgg33 rfl) <| .cons rfl (ob_len rfl Tryz.underlying33) <| .cons rfl (ob_eql rfl rfl) <| .cons rfl (ob_and rfl rfl rfl) <| .cons rfl (ob_assign rfl) <| .nil) ?_
            intro a10 w10 m10 hst10 hle10 hk10
            have hfr10 := hk10.fr (T' := [(3, _), (4, _), (5, _), (76, _)]) (.old rfl rfl <| .old rfl rfl <| .old rfl rfl <| .new rfl <| .nil)
            replace h_a := h_a.mono hle10
            replace hk_a := hk_a.mono hle10
            replace hs_a := hs_a.mono hle10
            replace hrw_a := hrw_a.mono hle10
            replace h_b := h_b.mono hle10
            replace hk_b := hk_b.mono hle10
            replace hs_b := hs_b.mono hle10
            replace hrw_b := hrw_b.mono hle10
            replace hU := hU.mono hle10
            replace hc3 := hc3.mono hle10
            replace hTa := hTa.mono hle10
            replace hTb := hTb.mono hle10
            replace hkpa := hkpa.mono hle10
            replace hspa := hspa.mono hle10
            replace hkpb := hkpb.mono hle10
            replace hspb := hspb.mono hle10
            replace hB_A := hB_A.mono hle10
            replace hB_B := hB_B.mono hle10
            replace hM := hM.trans hle10
            clear hst9 hfr9 hk10
            refine hK26 _ _ ?_; clear hK26
            refine cond_any hfr10 rfl rfl (fun hb76 => ?_) (fun hb76 => ?_)
            · try simp only [nq1, nq2, nq3, nq4, nq5, nq6, nq7, nq8, nq9, u8_eq] at hb76
              have hc76 : pa.kind = 5 ∧ pa.args.length = 2 := ⟨hb76.1, by omega⟩
              rw [if_pos hc76] at hB
              have hl2 := hc76.2
              refine seq_any fun _ hK27 => ?_
              refine region_cut 4 (by kernel_rfl) ?_
              refine ops_seq (tch := []) hst10 hfr10 (by kernel_rfl) (by kernel_rfl) (by kernel_rfl) (.cons rfl (ob_makeFunc (.cons rfl <| .cons rfl <| .cons rfl <| .nil)) <| .cons rfl (ob_makeFunc (.cons rfl <| .cons rfl <| .cons rfl <| .nil)) <| .cons rfl (ob_makeFunc (.cons rfl <| .cons rfl <| .cons rfl <| .nil)) <| .cons rfl (ob_buildSlice (.cons rfl <| .cons rfl <| .cons rfl <| .nil) Tryz.underlying112 Tryz.sizeOf89 Tryz.zeroValue89 rfl rfl rfl rfl) <| .nil) ?_
              intro a11 w11 m11 hst11 hle11 hk11
              have hfr11 := hk11.fr (T' := [(3, _), (4, _), (5, _)]) (.old rfl rfl <| .old rfl rfl <| .old rfl rfl <| .nil)
              obtain ⟨gF, e28, hcF⟩ := hk11.ex 89 rfl
              replace hfr11 := hfr11.cons e28
              replace h_a := h_a.mono hle11
              replace hk_a := hk_a.mono hle11
              replace hs_a := hs_a.mono hle11
              replace hrw_a := hrw_a.mono hle11
              replace h_b := h_b.mono hle11
              replace hk_b := hk_b.mono hle11
              replace hs_b := hs_b.mono hle11
              replace hrw_b := hrw_b.mono hle11
              replace hU := hU.mono hle11
              replace hc3 := hc3.mono hle11
              replace hTa := hTa.mono hle11
              replace hTb := hTb.mono hle11
              replace hkpa := hkpa.mono hle11
              replace hspa := hspa.mono hle11
              replace hkpb := hkpb.mono hle11
              replace hspb := hspb.mono hle11
              replace hB_A := hB_A.mono hle11
              replace hB_B := hB_B.mono hle11
              replace hM := hM.trans hle11
              clear hst10 hfr10 hk11
              obtain ⟨l9, hl9⟩ : ∃ l, l = ([⟨57, [.pointer (some ⟨g3, 0, none⟩), .pointer (some ⟨gA, 0, none⟩), .pointer (some ⟨gB, 0, none⟩)], typesU k (argT pa 0) (argT pb 0)⟩, ⟨58, [.pointer (some ⟨g3, 0, none⟩), .pointer (some ⟨gA, 0, none⟩), .pointer (some ⟨gB, 0, none⟩)], rowsO ⟨pa.labels, pa.rv⟩ ⟨pb.labels, pb.rv⟩⟩, ⟨59, [.pointer (some ⟨g3, 0, none⟩), .pointer (some ⟨gA, 0, none⟩), .pointer (some ⟨gB, 0, none⟩)], typesU k (argT pa 1) (argT pb 1)⟩] : List Step) := ⟨_, rfl⟩
              have hsF : Stps m11 (some ⟨gF, 0, none⟩) l9.length l9.length l9 := Stps.of (by rw [hl9]; exact hcF) (by rw [hl9]; simp)
              have hR9 : runU (l9.map Step.f) U = some R := by rw [hl9]; exact hB
              have hlen9 : l9.length = 3 := by rw [hl9]; rfl
              have hs9 : ∀ s ∈ l9, ∀ (args : Array Value) (w : World), (callFunc s.fid args).run Tryz.prog w = .ok (.enter s.fid args) w := fun s hs => by rw [hl9] at hs; simp only [List.mem_cons, List.not_mem_nil, or_false] at hs; rcases hs with rfl | rfl | rfl; exact Tryz.call57; exact Tryz.call58; exact Tryz.call59
              have hf9 : ∀ {m : Mem}, MLe m11 m → ∀ s ∈ l9, ∀ (U : USt) (r : Int × USt), s.f U = some r → ∀ (w : World) (m2 : Mem) (q : QQ), MLe m m2 → Agree w m2 → (UB g q U.nx).holds w m2 → SubQ m2 U.s (subV q) → FnG Tryz.prog s.fid s.caps.toArray [g] w m2 (UPost g w.heap.size r) := fun hm s hs U r hf w m2 q hm2 hA hr hU => by have hx := (hc3.mono hm).mono hm2; have ha := (hB_A.mono hm).mono hm2; have hb := (hB_B.mono hm).mono hm2; have h1 := (hTa.mono hm).mono hm2; have h2 := (hTb.mono hm).mono hm2; rw [hl9] at hs; simp only [List.mem_cons, List.not_mem_nil, or_false] at hs; rcases hs with rfl | rfl | rfl; exact types1_g hA hx ha hb hr hU h1 h2 ih ⟨hl2, by omega⟩ hf; exact types2_g hA hx ha hb hr hU h1 h2 hf; exact types3_g hA hx ha hb hr hU h1 h2 ih ⟨hl2, by omega⟩ hf
              refine ops_seq (tch := [(0, 0, (fun _ => UK g R.2))]) hst11 hfr11 (by kernel_rfl) (by kernel_rfl) (by kernel_rfl) (.consT rfl rfl (fun _ => rfl) rfl (ob_callT rfl (.cons rfl <| .nil) Tryz.call56 (κ := .eq (.int .i64 R.1)) (fun σ w m hK hr hkn => by have hle_ := KC.le hK; have hA := KC.agree hK; have hM := hM.trans hle_; have h_a := h_a.mono hle_; have hk_a := hk_a.mono hle_; have hs_a := hs_a.mono hle_; have hrw_a := hrw_a.mono hle_; have h_b := h_b.mono hle_; have hk_b := hk_b.mono hle_; have hs_b := hs_b.mono hle_; have hrw_b := hrw_b.mono hle_; have hU := hU.mono hle_; have hc3 := hc3.mono hle_; have hTa := hTa.mono hle_; have hTb := hTb.mono hle_; have hkpa := hkpa.mono hle_; have hspa := hspa.mono hle_; have hkpb := hkpb.mono hle_; have hspb := hspb.mono hle_; have hB_A := hB_A.mono hle_; have hB_B := hB_B.mono hle_; have hcF := hcF.mono hle_; have hsF := hsF.mono hle_; exact (by have h9 := up_T (q := q) (n := U.nx) (first_g (l := l9) (g := g) (R := R) hA hsF hr hU (hf9 hle_) hs9 hR9); rw [hlen9] at h9; exact h9))) <| .cons rfl (ob_assign rfl) <| .nil) ?_
              intro a12 w12 m12 hst12 hle12 hk12
              have hfr12 := hk12.fr (T' := [(3, _), (4, _), (5, _), (89, _), (6, _)]) (.old rfl rfl <| .old rfl rfl <| .old rfl rfl <| .old rfl rfl <| .new rfl <| .nil)
              replace hst12 := hst12.fin (L' := [_, _, _]) (.cons rfl <| .nil)
              clear hst11 hfr11 hk12
              obtain ⟨q3, hst12, hU3⟩ := up_open (k := 0) hst12 rfl
              simp only [List.set_cons_zero] at hst12
              refine hK27 _ _ ?_; clear hK27
              refine wp_ret ?_
              repeat (with_reducible first | refine then_ret ?_ | refine block_ret ?_)
              exact fn_ret hst12 hfr12 rfl (.tmp rfl <| .nil) (⟨q3, (hst12.take 1).loc, hU3, rfl⟩)
            · try simp only [nq1, nq2, nq3, nq4, nq5, nq6, nq7, nq8, nq9, u8_eq] at hb76
              rw [if_neg (fun h => by rcases hb76 with h9 | h9; (exact h9 h.1); (have := h.2; omega))] at hB
              injection hB with hB
              subst hB
              refine wp_skip ?_
              refine hK8 _ _ ?_; clear hK8
              refine seq_any fun _ hK30 => ?_
              refine rp0 hst10 hfr10 (.cons rfl (ob_assign rfl) <| .nil) ?_
              intro a11 w11 m11 hst11 hle11 hk11
              have hfr11 := hk11.fr (T' := [(6, _)]) (.new rfl <| .nil)
              replace hU := hU.mono hle11
              clear hst10 hfr10 hk11
              refine hK30 _ _ ?_; clear hK30
              refine wp_ret ?_
              repeat (with_reducible first | refine then_ret ?_ | refine block_ret ?_)
              exact fn_ret hst11 hfr11 rfl (.tmp rfl <| .nil) (⟨q, (hst11.take 1).loc, hU, rfl⟩)

theorem types_t : ∀ k, TG k
  | 0 => fun a b U r h => by rw [typesU] at h; cases h
  | k + 1 => fun a b U r h w m g q va vb hA hr hU ha hb => types_s hA hr hU ha hb (types_t k) h

end Go.Proofs.YtlidonjpgigocaaGreat
