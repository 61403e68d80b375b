/-
  Package types: what may be, what is the same, texts. Conditions: those of each theorem.
-/
import Derived.Test.YtembdjghbphcdaaDoorVars1
import Derived.Test.YtembdjghbphcdaaDoorLib1
namespace Go.Proofs.YtembdjghbphcdaaDoor
set_option linter.all false
set_option maxRecDepth 4000
open Go.RowKit
open Go.Lib (itoa decDigits)
def rowTextS (ls : List Str) (rv : Int) : Str :=
  if ls = [] ∧ rv = 0 then [] else [60] ++ (Go.Lib.join ls [44] ++ (if 0 < rv then [124] ++ itoa rv else [])) ++ [62, 32]
def parS (b : Bool) (s : Str) : Str := if b then [40] ++ s ++ [41] else s
mutual
def textT : Ty → Str
  | ⟨k, nm, v, ts, ls, rv⟩ => if k = 1 then [105, 110, 116] else if k = 2 then [98, 111, 111, 108] else if k = 3 then [117, 110, 105, 116] else if k = 7 then [39] ++ itoa v
    else textTs k nm ls rv ts
def textTs (k : Int) (nm : Str) (ls : List Str) (rv : Int) : List Ty → Str
  | [x] => if k = 6 then [114, 101, 102, 32] ++ parS (decide (x.kind = 5 ∨ x.kind = 6)) (textT x) else nm
  | [x, z] => if k = 5 then parS (decide (x.kind = 5)) (textT x) ++ [32, 45, 62, 32] ++ rowTextS ls rv ++ textT z else nm
  | _ => nm
end
theorem textT_eq (t : Ty) : textT t = if t.kind = 1 then [105, 110, 116] else if t.kind = 2 then [98, 111, 111, 108] else if t.kind = 3 then [117, 110, 105, 116] else if t.kind = 7 then [39] ++ itoa t.var
    else textTs t.kind t.name t.labels t.rv t.args := by obtain ⟨k, n, v, ts, ls, r⟩ := t; rw [textT]; rfl
theorem textTs_one (k : Int) (nm : Str) (ls : List Str) (rv : Int) (x : Ty) : textTs k nm ls rv [x] = if k = 6 then [114, 101, 102, 32] ++ parS (decide (x.kind = 5 ∨ x.kind = 6)) (textT x) else nm := by rw [textTs]
theorem textTs_two (k : Int) (nm : Str) (ls : List Str) (rv : Int) (x z : Ty) : textTs k nm ls rv [x, z] = if k = 5 then parS (decide (x.kind = 5)) (textT x) ++ [32, 45, 62, 32] ++ rowTextS ls rv ++ textT z else nm := by rw [textTs]
theorem textTs_other {k : Int} {nm : Str} {ls : List Str} {rv : Int} {l : List Ty} (h1 : ¬ (k = 6 ∧ l.length = 1)) (h2 : ¬ (k = 5 ∧ l.length = 2)) : textTs k nm ls rv l = nm := by
  match l with
  | [] => rw [textTs]; all_goals simp
  | [x] => rw [textTs_one, if_neg (fun e => h1 ⟨e, rfl⟩)]
  | [x, z] => rw [textTs_two, if_neg (fun e => h2 ⟨e, rfl⟩)]
  | x :: z :: y :: r => rw [textTs] <;> simp
/-- How much there is in a type: nodes, and all letters. -/
def lensS (ls : List Str) : Nat := (ls.map fun s => s.length + 2).sum
mutual
def bulkT : Ty → Nat
  | ⟨_, nm, _, ts, ls, _⟩ => 1 + nm.length + lensS ls + bulkTs ts
def bulkTs : List Ty → Nat
  | [] => 0
  | t :: ts => bulkT t + bulkTs ts
end
theorem bulkT_eq (t : Ty) : bulkT t = 1 + t.name.length + lensS t.labels + bulkTs t.args := by obtain ⟨k, n, v, ts, ls, r⟩ := t; rw [bulkT]; rfl
theorem bulkTs_mem : ∀ {l : List Ty} {u : Ty}, u ∈ l → bulkT u ≤ bulkTs l
  | t :: ts, u, h => by
    rw [bulkTs]
    rcases List.mem_cons.1 h with rfl | h
    · omega
    · have := bulkTs_mem h; omega
theorem bulkT_arg {t u : Ty} (h : u ∈ t.args) : bulkT u ≤ bulkT t := by rw [bulkT_eq t]; have := bulkTs_mem h; omega
theorem lensS_len (ls : List Str) : ls.length ≤ lensS ls := by
  unfold lensS; induction ls with
  | nil => simp
  | cons x l ih => simp only [List.length_cons, List.map_cons, List.sum_cons]; omega
theorem join1_len (l : List Str) : (Go.Lib.join l [44]).length ≤ lensS l := by
  unfold lensS
  induction l with
  | nil => simp [Go.Lib.join]
  | cons x l ih =>
    cases l with
    | nil => simp [Go.Lib.join]
    | cons y l => rw [show Go.Lib.join (x :: y :: l) [44] = x ++ [44] ++ Go.Lib.join (y :: l) [44] from by simp [Go.Lib.join, List.intercalate, List.intersperse]]; simp only [List.length_append, List.map_cons, List.sum_cons, List.length_cons, List.length_nil] at ih ⊢; omega
theorem dec_eq (n : Nat) : decDigits n = if n < 10 then [UInt8.ofNat (48 + n)] else decDigits (n / 10) ++ [UInt8.ofNat (48 + n % 10)] := by
  rw [decDigits]; split <;> rfl
theorem dec_len : ∀ (k n : Nat), n < 10 ^ (k + 1) → (decDigits n).length ≤ k + 1
  | 0, n, h => by rw [dec_eq, if_pos (by simpa using h)]; simp
  | k + 1, n, h => by
    rw [dec_eq]
    split
    · simp
    · have := dec_len k (n / 10) (by rw [Nat.pow_succ] at h; omega)
      simp only [List.length_append, List.length_cons, List.length_nil]; omega
theorem dec_len20 {n : Nat} (h : n ≤ 9223372036854775808) : (decDigits n).length ≤ 20 := dec_len 19 n (by omega)
theorem itoa_len {n : Int} (h : InI64 n) : (itoa n).length ≤ 21 := by
  obtain ⟨h1, h2⟩ := h
  unfold itoa; split
  · have := dec_len20 (n := n.natAbs) (by omega)
    simp only [List.length_cons]; omega
  · have := dec_len20 (n := n.toNat) (by omega); omega
theorem digit_byte {k : Nat} (h : k < 10) : UInt8.ofNat (IntKind.u8.wrap (48 + (k : Int))).toNat = UInt8.ofNat (48 + k) := by
  have : k = 0 ∨ k = 1 ∨ k = 2 ∨ k = 3 ∨ k = 4 ∨ k = 5 ∨ k = 6 ∨ k = 7 ∨ k = 8 ∨ k = 9 := by omega
  rcases this with rfl | rfl | rfl | rfl | rfl | rfl | rfl | rfl | rfl | rfl <;> rfl
theorem rowTextS_len {ls : List Str} {rv : Int} (h : InI64 rv) : (rowTextS ls rv).length ≤ lensS ls + 26 := by
  have h1 := join1_len ls; have h2 := itoa_len h
  unfold rowTextS
  split
  · simp
  · split <;> simp only [List.length_append, List.length_cons, List.length_nil] <;> omega
theorem parS_len (b : Bool) (s : Str) : (parS b s).length ≤ s.length + 2 := by
  unfold parS; split
  · simp only [List.length_append, List.length_cons, List.length_nil]; omega
  · omega
theorem list2 {α : Type} : ∀ {l : List α}, l.length = 2 → ∃ x z, l = [x, z]
  | [x, z], _ => ⟨x, z, rfl⟩
theorem list1 {α : Type} : ∀ {l : List α}, l.length = 1 → ∃ x, l = [x]
  | [x], _ => ⟨x, rfl⟩
theorem TyR.text_len {m : Mem} : ∀ (t : Ty) {vs : List Value}, TyR m t vs → (textT t).length ≤ 64 * bulkT t := by
  intro t
  induction t using Ty.rec_ with
  | h t ih =>
    intro vs h
    obtain ⟨o, c, o2, c2, rfl, hk, hs, hi, hj, hr⟩ := h.open_
    have h1 : ∀ u ∈ t.args, (textT u).length ≤ 64 * bulkT u := fun u hu => by
      obtain ⟨i, hi', e⟩ := List.mem_iff_getElem.1 hu
      obtain ⟨p, vs, _, _, _, hv⟩ := hk.at_ i u (by rw [List.getElem?_eq_getElem hi', e])
      exact ih u hu hv
    have h4 := itoa_len hj
    have h5 := bulkT_eq t
    have h6 := rowTextS_len (ls := t.labels) hr
    rw [textT_eq]
    split; simp; omega
    split; simp; omega
    split; simp; omega
    split; simp only [List.length_append, List.length_cons, List.length_nil]; omega
    by_cases ha : t.kind = 6 ∧ t.args.length = 1
    · obtain ⟨x, hx⟩ := list1 ha.2
      have h2 := h1 x (by rw [hx]; exact .head _)
      have h3 := parS_len (decide (x.kind = 5 ∨ x.kind = 6)) (textT x)
      rw [hx, textTs_one, if_pos ha.1]
      rw [hx, bulkTs, bulkTs] at h5
      simp only [List.length_append, List.length_cons, List.length_nil]; omega
    · by_cases hb : t.kind = 5 ∧ t.args.length = 2
      · obtain ⟨x, z, hx⟩ := list2 hb.2
        have h2 := h1 x (by rw [hx]; exact .head _)
        have h2z := h1 z (by rw [hx]; exact .tail _ (.head _))
        have h3 := parS_len (decide (x.kind = 5)) (textT x)
        rw [hx, textTs_two, if_pos hb.1]
        rw [hx, bulkTs, bulkTs, bulkTs] at h5
        simp only [List.length_append, List.length_cons, List.length_nil]; omega
      · rw [textTs_other ha hb]; omega

mutual
def sameT : Ty → Ty → Bool
  | ⟨k, s, v, ts, ls, r⟩, ⟨k', s', v', ts', ls', r'⟩ => decide (k = k') && decide (s = s') && decide (v = v') && (decide (r = r') && decide (ls = ls')) && sameTs ts ts'
def sameTs : List Ty → List Ty → Bool
  | [], [] => true
  | t :: ts, u :: us => sameT t u && sameTs ts us
  | [], _ :: _ => false
  | _ :: _, [] => false
end
theorem sameTs_all2 : ∀ (l l' : List Ty), all2 sameT l l' = sameTs l l'
  | [], [] => by simp [all2, sameTs]
  | [], _ :: _ => by simp [all2, sameTs]
  | _ :: _, [] => by simp [all2, sameTs]
  | t :: ts, u :: us => by simp [all2, sameTs, sameTs_all2 ts us]
theorem sameT_eq (t u : Ty) : sameT t u = (decide (t.kind = u.kind) && decide (t.name = u.name) && decide (t.var = u.var) && (decide (t.rv = u.rv) && decide (t.labels = u.labels)) && sameTs t.args u.args) := by
  obtain ⟨k, n, v, ts, ls, r⟩ := t; obtain ⟨k', n', v', ts', ls', r'⟩ := u; rw [sameT]; rfl
theorem sameT_iff (t u : Ty) : sameT t u = true ↔ t = u := by
  induction t using Ty.rec_ generalizing u with
  | h t ih =>
    have hk := args_all t ih (fun l => ∀ l' : List Ty, sameTs l l' = true ↔ l = l') (fun l' => by cases l' <;> simp [sameTs]) (fun x l hx hl l' => by
      cases l' with
      | nil => simp [sameTs]
      | cons y l' => simp [sameTs, hx, hl])
    rw [sameT_eq]
    obtain ⟨k, n, v, ts, ls, r⟩ := t; obtain ⟨k', n', v', ts', ls', r'⟩ := u
    simp only [Ty.kind, Ty.name, Ty.var, Ty.args, Ty.labels, Ty.rv] at *
    simp only [hk, Bool.and_eq_true, Ty.mk.injEq, and_assoc]
    exact ⟨fun ⟨a, b, c, d, e, f⟩ => ⟨of_decide_eq_true a, of_decide_eq_true b, of_decide_eq_true c, f, of_decide_eq_true e, of_decide_eq_true d⟩, fun ⟨a, b, c, f, e, d⟩ => ⟨decide_eq_true a, decide_eq_true b, decide_eq_true c, decide_eq_true d, decide_eq_true e, f⟩⟩

set_option maxHeartbeats 400000 in
theorem samerow_c {w : World} {m : Mem} {a : Rw} {vs_a : List Value} {b : Rw} {vs_b : List Value} (hA : Agree w m) (h_a : RwR m a vs_a) (h_b : RwR m b vs_b) : FnV Tryd.prog 26 #[.agg vs_a.toArray, .agg vs_b.toArray] w m (fun _ _ v => v = .bool (decide (a.var = b.var) && decide (a.labels = b.labels))) := by
  obtain ⟨o_a, c_a, rfl, hs_a, hr_a⟩ := h_a.open_
  have hbs_a := hs_a.big; have hcs_a := hs_a.cap
  obtain ⟨o_b, c_b, rfl, hs_b, hr_b⟩ := h_b.open_
  have hbs_b := hs_b.big; have hcs_b := hs_b.cap
  refine fn_enter (vs := [_, _]) Tryd.func26 rfl rfl rfl fun a0 hfr0 => ?_
  have hst0 := st_enter hA (loc_nil [] _ w m)
  have hM : MLe m m := MLe.refl m
  refine seq_any fun K1 hK1 => ?_
  refine region_plain (fun h => by cases h) hst0 hfr0 (by kernel_rfl) (by kernel_rfl) (.cons rfl (ob_box rfl rfl) <|
      .cons rfl (ob_box rfl rfl) <|
      .cons rfl (ob_assign rfl) <|
      .nil) ?_
  intro a1 w1 m1 hst1 hle1 hk1
  have hfr1 := hk1.fr (T' := [(0, _), (1, _), (4, _)]) (.old rfl rfl <| .old rfl rfl <| .new rfl <| .nil)
  obtain ⟨g2, e2, hc2⟩ := hk1.ex 2 rfl
  replace hfr1 := hfr1.cons e2
  obtain ⟨g3, e3, hc3⟩ := hk1.ex 3 rfl
  replace hfr1 := hfr1.cons e3
  replace h_a := h_a.mono hle1
  replace hs_a := hs_a.mono hle1
  replace h_b := h_b.mono hle1
  replace hs_b := hs_b.mono hle1
  replace hM := hM.trans hle1
  clear hst0 hfr0 hk1
  refine hK1 _ _ ?_; try clear hK1 K1
  refine seq_any fun K4 hK4 => ?_
  refine region_plain (fun h => by cases h) hst1 hfr1 (by kernel_rfl) (by kernel_rfl) (.cons rfl (ob_fieldAddr rfl Tryd.underlying25 rfl Tryd.sizeOf3 rfl) <|
      .cons rfl (ob_load1 rfl hc2 Tryd.isAgg3 rfl) <|
      .cons rfl (ob_fieldAddr rfl Tryd.underlying25 rfl Tryd.sizeOf3 rfl) <|
      .cons rfl (ob_load1 rfl hc3 Tryd.isAgg3 rfl) <|
      .cons rfl (ob_eql rfl rfl) <|
      .cons rfl (ob_move rfl) <|
      .cons rfl (ob_fieldAddr rfl Tryd.underlying25 rfl Tryd.sizeOf23 rfl) <|
      .cons rfl (ob_load1 rfl hc2 Tryd.isAgg23 rfl) <|
      .cons rfl (ob_fieldAddr rfl Tryd.underlying25 rfl Tryd.sizeOf23 rfl) <|
      .cons rfl (ob_load1 rfl hc3 Tryd.isAgg23 rfl) <|
      .cons rfl (ob_callE rfl (.cons rfl <| .cons rfl <| .nil) Tryd.call44 (fun w m hK => by have hle_ := KC.le hK; have hA := KC.agree hK; have hM := hM.trans hle_; have h_a := h_a.mono hle_; have hs_a := hs_a.mono hle_; have h_b := h_b.mono hle_; have hs_b := hs_b.mono hle_; have hc2 := hc2.mono hle_; have hc3 := hc3.mono hle_; exact equalS_c hA (by first | assumption | omega | simp_all) (by first | assumption | omega | simp_all))) <|
      .cons rfl (ob_and rfl rfl rfl) <|
      .cons rfl (ob_assign rfl) <|
      .nil) ?_
  intro a2 w2 m2 hst2 hle2 hk2
  have hfr2 := hk2.fr (T' := [(0, _), (1, _), (2, _), (3, _), (4, _)]) (.old rfl rfl <| .old rfl rfl <| .old rfl rfl <| .old rfl rfl <| .new rfl <| .nil)
  replace h_a := h_a.mono hle2
  replace hs_a := hs_a.mono hle2
  replace h_b := h_b.mono hle2
  replace hs_b := hs_b.mono hle2
  replace hc2 := hc2.mono hle2
  replace hc3 := hc3.mono hle2
  replace hM := hM.trans hle2
  clear hst1 hfr1 hk2
  refine hK4 _ _ ?_; try clear hK4 K4
  refine wp_ret ?_
  repeat (with_reducible first | refine then_ret ?_ | refine block_ret ?_)
  exact fn_ret hst2 hfr2 rfl (.tmp rfl <| .nil) (rfl)

set_option maxHeartbeats 400000 in
theorem rightrow_c {w : World} {m : Mem} {r : Rw} {vs_r : List Value} (hA : Agree w m) (h_r : RwR m r vs_r) : FnV Tryd.prog 19 #[.agg vs_r.toArray] w m (fun _ _ v => v = .bool (rowOk r.labels r.var)) := by
  obtain ⟨o_r, c_r, rfl, hs_r, hr_r⟩ := h_r.open_
  have hbs_r := hs_r.big; have hcs_r := hs_r.cap
  refine fn_enter (vs := [_]) Tryd.func19 rfl rfl rfl fun a0 hfr0 => ?_
  have hst0 := st_enter hA (loc_nil [] _ w m)
  have hM : MLe m m := MLe.refl m
  refine seq_any fun K1 hK1 => ?_
  refine region_plain (fun h => by cases h) hst0 hfr0 (by kernel_rfl) (by kernel_rfl) (.cons rfl (ob_box rfl rfl) <|
      .cons rfl (ob_assign rfl) <|
      .nil) ?_
  intro a1 w1 m1 hst1 hle1 hk1
  have hfr1 := hk1.fr (T' := [(0, _), (2, _)]) (.old rfl rfl <| .new rfl <| .nil)
  obtain ⟨g2, e2, hc1⟩ := hk1.ex 1 rfl
  replace hfr1 := hfr1.cons e2
  replace h_r := h_r.mono hle1
  replace hs_r := hs_r.mono hle1
  replace hM := hM.trans hle1
  clear hst0 hfr0 hk1
  refine hK1 _ _ ?_; try clear hK1 K1
  refine seq_any fun K3 hK3 => ?_
  refine region_plain (fun h => by cases h) hst1 hfr1 (by kernel_rfl) (by kernel_rfl) (.cons rfl (ob_fieldAddr rfl Tryd.underlying25 rfl Tryd.sizeOf3 rfl) <|
      .cons rfl (ob_load1 rfl hc1 Tryd.isAgg3 rfl) <|
      .cons rfl (ob_geq rfl rfl) <|
      .cons rfl (ob_move rfl) <|
      .cons rfl (ob_fieldAddr rfl Tryd.underlying25 rfl Tryd.sizeOf23 rfl) <|
      .cons rfl (ob_load1 rfl hc1 Tryd.isAgg23 rfl) <|
      .cons rfl (ob_callE rfl (.cons rfl <| .nil) Tryd.call40 (fun w m hK => by have hle_ := KC.le hK; have hA := KC.agree hK; have hM := hM.trans hle_; have h_r := h_r.mono hle_; have hs_r := hs_r.mono hle_; have hc1 := hc1.mono hle_; exact issorted_c hA (by first | assumption | omega | simp_all))) <|
      .cons rfl (ob_and rfl rfl rfl) <|
      .cons rfl (ob_move rfl) <|
      .cons rfl (ob_fieldAddr rfl Tryd.underlying25 rfl Tryd.sizeOf23 rfl) <|
      .cons rfl (ob_load1 rfl hc1 Tryd.isAgg23 rfl) <|
      .cons rfl (ob_callE rfl (.cons rfl <| .cons rfl <| .nil) Tryd.call41 (fun w m hK => by have hle_ := KC.le hK; have hA := KC.agree hK; have hM := hM.trans hle_; have hs_r := hs_r.mono hle_; exact containsS_c (s := []) hA hs_r)) <|
      .cons rfl (ob_not rfl) <|
      .cons rfl (ob_and rfl rfl rfl) <|
      .cons rfl (ob_assign rfl) <|
      .nil) ?_
  intro a2 w2 m2 hst2 hle2 hk2
  have hfr2 := hk2.fr (T' := [(0, _), (1, _), (2, _)]) (.old rfl rfl <| .old rfl rfl <| .new rfl <| .nil)
  replace h_r := h_r.mono hle2
  replace hs_r := hs_r.mono hle2
  replace hc1 := hc1.mono hle2
  replace hM := hM.trans hle2
  clear hst1 hfr1 hk2
  refine hK3 _ _ ?_; try clear hK3 K3
  refine wp_ret ?_
  repeat (with_reducible first | refine then_ret ?_ | refine block_ret ?_)
  exact fn_ret hst2 hfr2 rfl (.tmp rfl <| .nil) (by refine congrArg Value.bool ?_; unfold rowOk; simp)

abbrev depth_G (t : Ty) : Prop := ∀ {w : World} {m : Mem} {vs_t : List Value} {left : Nat} (hA : Agree w m) (h_t : TyR m t vs_t) (hl : left ≤ 1000), FnV Tryd.prog 39 #[.agg vs_t.toArray, .int .i64 (left : Int)] w m (fun _ _ v => v = .int .i64 (depthT left t : Int))
set_option maxHeartbeats 400000 in
theorem depth_s {t : Ty} (ih : ∀ u ∈ t.args, depth_G u) {w : World} {m : Mem} {vs_t : List Value} {left : Nat} (hA : Agree w m) (h_t : TyR m t vs_t) (hl : left ≤ 1000) : FnV Tryd.prog 39 #[.agg vs_t.toArray, .int .i64 (left : Int)] w m (fun _ _ v => v = .int .i64 (depthT left t : Int)) := by
  obtain ⟨o_t, c_t, oL_t, cL_t, rfl, hk_t, hs_t, hi_t, hj_t, hr_t⟩ := h_t.open_
  have hbg_t := hk_t.big; have hcp_t := hk_t.cap; have hbs_t := hs_t.big; have hcs_t := hs_t.cap
  have hrw_t : RwR _ ⟨t.labels, t.rv⟩ _ := ⟨_, _, rfl, hs_t, hr_t⟩
  refine fn_enter (vs := [_, _]) Tryd.func39 rfl rfl rfl fun a0 hfr0 => ?_
  have hst0 := st_enter hA (loc_nil [] _ w m)
  have hM : MLe m m := MLe.refl m
  have hdm := depthT_min t left
  refine seq_any fun K1 hK1 => ?_
  refine region_plain (fun h => by cases h) hst0 hfr0 (by kernel_rfl) (by kernel_rfl) (.cons rfl (ob_box rfl rfl) <|
      .cons rfl (ob_assign rfl) <|
      .nil) ?_
  intro a1 w1 m1 hst1 hle1 hk1
  have hfr1 := hk1.fr (T' := [(0, _), (1, _), (4, _)]) (.old rfl rfl <| .old rfl rfl <| .new rfl <| .nil)
  obtain ⟨g2, e2, hc2⟩ := hk1.ex 2 rfl
  replace hfr1 := hfr1.cons e2
  replace h_t := h_t.mono hle1
  replace hk_t := hk_t.mono hle1
  replace hs_t := hs_t.mono hle1
  replace hrw_t := hrw_t.mono hle1
  replace hM := hM.trans hle1
  clear hst0 hfr0 hk1
  refine hK1 _ _ ?_; try clear hK1 K1
  refine seq_any fun K3 hK3 => ?_
  refine seq_any fun K4 hK4 => ?_
  refine region_plain (fun h => by cases h) hst1 hfr1 (by kernel_rfl) (by kernel_rfl) (.cons rfl (ob_move rfl) <|
      .cons rfl (ob_eql rfl rfl) <|
      .nil) ?_
  intro a2 w2 m2 hst2 hle2 hk2
  have hfr2 := hk2.fr (T' := [(0, _), (1, _), (4, _), (2, _), (9, _)]) (.old rfl rfl <| .old rfl rfl <| .old rfl rfl <| .old rfl rfl <| .new rfl <| .nil)
  replace h_t := h_t.mono hle2
  replace hk_t := hk_t.mono hle2
  replace hs_t := hs_t.mono hle2
  replace hrw_t := hrw_t.mono hle2
  replace hc2 := hc2.mono hle2
  replace hM := hM.trans hle2
  clear hst1 hfr1 hk2
  refine hK4 _ _ ?_; try clear hK4 K4
  refine cond_any hfr2 rfl rfl (fun hb9 => ?_) (fun hb9 => ?_)
  · try simp only [Bool.not_eq_true', Bool.not_eq_false', decide_eq_true_eq, decide_eq_false_iff_not, Bool.and_eq_true, Bool.or_eq_true, Bool.and_eq_false_iff, Bool.or_eq_false_iff, Bool.not_not, u8_eq] at hb9
    refine seq_any fun K5 hK5 => ?_
    refine region_plain (fun h => by cases h) hst2 hfr2 (by kernel_rfl) (by kernel_rfl) (.cons rfl (ob_assign rfl) <|
        .nil) ?_
    intro a3 w3 m3 hst3 hle3 hk3
    have hfr3 := hk3.fr (T' := [(0, _), (1, _), (2, _), (4, _)]) (.old rfl rfl <| .old rfl rfl <| .old rfl rfl <| .new rfl <| .nil)
    replace h_t := h_t.mono hle3
    replace hk_t := hk_t.mono hle3
    replace hs_t := hs_t.mono hle3
    replace hrw_t := hrw_t.mono hle3
    replace hc2 := hc2.mono hle3
    replace hM := hM.trans hle3
    clear hst2 hfr2 hk3
    refine hK5 _ _ ?_; try clear hK5 K5
    refine wp_ret ?_
    repeat (with_reducible first | refine then_ret ?_ | refine block_ret ?_)
    exact fn_ret hst3 hfr3 rfl (.tmp rfl <| .nil) (by refine congrArg (Value.int _) ?_; rw [depthT_eq]; split <;> omega)
  · try simp only [Bool.not_eq_true', Bool.not_eq_false', decide_eq_true_eq, decide_eq_false_iff_not, Bool.and_eq_true, Bool.or_eq_true, Bool.and_eq_false_iff, Bool.or_eq_false_iff, Bool.not_not, u8_eq] at hb9
    refine wp_skip ?_
    refine hK3 _ _ ?_; try clear hK3 K3
    refine seq_any fun K7 hK7 => ?_
    refine region_plain (fun h => by cases h) hst2 hfr2 (by kernel_rfl) (by kernel_rfl) (.cons rfl (ob_assign rfl) <|
        .nil) ?_
    intro a3 w3 m3 hst3 hle3 hk3
    have hfr3 := hk3.fr (T' := [(0, _), (1, _), (4, _), (2, _), (5, _)]) (.old rfl rfl <| .old rfl rfl <| .old rfl rfl <| .old rfl rfl <| .new rfl <| .nil)
    replace h_t := h_t.mono hle3
    replace hk_t := hk_t.mono hle3
    replace hs_t := hs_t.mono hle3
    replace hrw_t := hrw_t.mono hle3
    replace hc2 := hc2.mono hle3
    replace hM := hM.trans hle3
    clear hst2 hfr2 hk3
    refine hK7 _ _ ?_; try clear hK7 K7
    refine seq_any fun K8 hK8 => ?_
    refine seq_any fun K9 hK9 => ?_
    refine region_plain (fun h => by cases h) hst3 hfr3 (by kernel_rfl) (by kernel_rfl) (.cons rfl (ob_fieldAddr rfl Tryd.underlying27 rfl Tryd.sizeOf22 rfl) <|
        .cons rfl (ob_load1 rfl hc2 Tryd.isAgg22 rfl) <|
        .cons rfl (ob_len rfl Tryd.underlying22) <|
        .cons rfl (ob_move rfl) <|
        .nil) ?_
    intro a4 w4 m4 hst4 hle4 hk4
    have hfr4 := hk4.fr (T' := [(0, _), (1, _), (4, _), (2, _), (5, _), (11, _), (12, _), (13, _)]) (.old rfl rfl <| .old rfl rfl <| .old rfl rfl <| .old rfl rfl <| .old rfl rfl <| .new rfl <| .new rfl <| .new rfl <| .nil)
    replace h_t := h_t.mono hle4
    replace hk_t := hk_t.mono hle4
    replace hs_t := hs_t.mono hle4
    replace hrw_t := hrw_t.mono hle4
    replace hc2 := hc2.mono hle4
    replace hM := hM.trans hle4
    clear hst3 hfr3 hk4
    refine hK9 _ _ ?_; try clear hK9 K9
    refine wp_block ?_
    refine loop_any (T := [(0, _), (1, _), (4, _), (2, _), (11, _), (12, _)]) (fun (y : Nat × Int) => ([(5, .int .i64 y.2), (13, .int .i64 (y.1 : Int))] : List (Nat × Value))) (fun y => []) (fun (y : Nat × Int) m => (fun (y : Nat) (a : Int) => (y ≤ t.args.length) ∧ (a = (depthTs (left - 1) (t.args.take y) : Int)) ∧ (a ≤ 1000)) y.1 y.2) (fun y => t.args.length - y.1) ((0, 0)) ⟨hst4, MLe.refl _, hfr4.sub (.cons rfl <| .cons rfl <| .cons rfl <| .cons rfl <| .cons rfl <| .cons rfl <| .cons rfl <| .cons rfl <| .nil), ⟨Nat.zero_le _, rfl, by omega⟩⟩ fun y a5 w5 m5 hh5 => ?_
    have hst5 := hh5.st; have hle5 := hh5.le; have hfr5 := hh5.fr; have hrel := hh5.rel; clear hh5
    replace h_t := h_t.mono hle5
    replace hk_t := hk_t.mono hle5
    replace hs_t := hs_t.mono hle5
    replace hrw_t := hrw_t.mono hle5
    replace hc2 := hc2.mono hle5
    clear hst4 hfr4
    replace hM := hM.trans hle5
    obtain ⟨y, a⟩ := y
    dsimp only at hrel hfr5 hst5
    obtain ⟨hyn, ha, ha2⟩ := hrel
    have hlh5 := hle5
    refine seq_any fun K11 hK11 => ?_
    refine region_plain (fun h => by cases h) hst5 hfr5 (by kernel_rfl) (by kernel_rfl) (.cons rfl (ob_lss rfl rfl) <|
        .nil) ?_
    intro a6 w6 m6 hst6 hle6 hk6
    have hfr6 := hk6.fr (T' := [(5, _), (13, _), (0, _), (1, _), (4, _), (2, _), (11, _), (12, _), (14, _)]) (.old rfl rfl <| .old rfl rfl <| .old rfl rfl <| .old rfl rfl <| .old rfl rfl <| .old rfl rfl <| .old rfl rfl <| .old rfl rfl <| .new rfl <| .nil)
    replace h_t := h_t.mono hle6
    replace hk_t := hk_t.mono hle6
    replace hs_t := hs_t.mono hle6
    replace hrw_t := hrw_t.mono hle6
    replace hc2 := hc2.mono hle6
    have hlh6 := hlh5.trans hle6
    replace hM := hM.trans hle6
    clear hst5 hfr5 hk6
    refine hK11 _ _ ?_; try clear hK11 K11
    refine seq_any fun K12 hK12 => ?_
    refine cond_any hfr6 rfl rfl (fun hb14 => ?_) (fun hb14 => ?_)
    · try simp only [Bool.not_eq_true', Bool.not_eq_false', decide_eq_true_eq, decide_eq_false_iff_not, Bool.and_eq_true, Bool.or_eq_true, Bool.and_eq_false_iff, Bool.or_eq_false_iff, Bool.not_not, u8_eq] at hb14
      refine wp_skip ?_
      refine hK12 _ _ ?_; try clear hK12 K12
      refine seq_any fun K13 hK13 => ?_
      refine wp_block ?_
      refine seq_any fun K14 hK14 => ?_
      obtain ⟨p15, vs15, x15, ho15, hd15, hm_x15, ht15, hcv15, hl15, hv15⟩ := hk_t.nth (k := y) (by omega)
      cases ho15
      obtain ⟨o15, c15, oL15, cL15, rfl, hkd15, hs15, hi15, hj15, hr15⟩ := hv15.open_
      have hbg15 := hkd15.big; have hcp15 := hkd15.cap; have hbs15 := hs15.big; have hcs15 := hs15.cap
      have hrw15 : RwR _ ⟨x15.labels, x15.rv⟩ _ := ⟨_, _, rfl, hs15, hr15⟩
      replace hst6 := hst6.more (r := .free) trivial List.nodup_nil (by simp [Res.blocks])
      refine region_any (tch := [(2, 0, (fun v => .blk v _)), (3, 0, (fun v => .blk v _))]) (fun h => by cases h) hst6 hfr6 (by kernel_rfl) (by kernel_rfl) (by kernel_rfl) (.cons rfl (ob_indexAddr (k := y) rfl rfl Tryd.underlying22 Tryd.sizeOf27 rfl (by omega)) <|
          .cons rfl (ob_loadS' rfl hcv15 Tryd.isAgg27 Tryd.sizeOf27 rfl rfl) <|
          .consT rfl rfl (fun _ => rfl) rfl (ob_allocL Tryd.zeroValue27 rfl) <|
          .consT rfl rfl (fun _ => rfl) rfl (ob_imgT 7 rfl rfl rfl fun y7 => ob_storeF rfl rfl rfl rfl rfl Tryd.sizeOf27 rfl rfl rfl) <|
          .nil) ?_
      intro a7 w7 m7 hst7 hle7 hk7
      have hfr7 := hk7.fr (T' := [(5, _), (13, _), (0, _), (1, _), (4, _), (2, _), (11, _), (12, _)]) (.old rfl rfl <| .old rfl rfl <| .old rfl rfl <| .old rfl rfl <| .old rfl rfl <| .old rfl rfl <| .old rfl rfl <| .old rfl rfl <| .nil)
      obtain ⟨g16, e16, _⟩ := hk7.ex 7 rfl
      replace hfr7 := hfr7.cons e16
      replace hst7 := hst7.fin (L' := [_]) (.cons e16 <| .cons e16 <| .nil)
      replace h_t := h_t.mono hle7
      replace hk_t := hk_t.mono hle7
      replace hs_t := hs_t.mono hle7
      replace hrw_t := hrw_t.mono hle7
      replace hc2 := hc2.mono hle7
      replace hcv15 := hcv15.mono hle7
      replace hv15 := hv15.mono hle7
      replace hkd15 := hkd15.mono hle7
      replace hs15 := hs15.mono hle7
      replace hrw15 := hrw15.mono hle7
      have hlh7 := hlh6.trans hle7
      replace hM := hM.trans hle7
      clear hst6 hfr6 hk7
      refine hK14 _ _ ?_; try clear hK14 K14
      have el : ((left - 1 : Nat) : Int) = (left : Int) - 1 := by omega
      refine region_plain (fun h => by cases h) hst7 hfr7 (by kernel_rfl) (by kernel_rfl) (.cons rfl (ob_move rfl) <|
          .cons rfl (ob_loadLS' (j := 0) rfl rfl Tryd.isAgg27 Tryd.sizeOf27 rfl rfl) <|
          .cons rfl (ob_move rfl) <|
          .cons rfl (ob_sub rfl rfl ⟨by omega, by omega⟩) <|
          .cons rfl (ob_callE rfl (.cons rfl <| .cons rfl <| .nil) Tryd.call39 (fun w m hK => by have hle_ := KC.le hK; have hA := KC.agree hK; have hM := hM.trans hle_; have h_t := h_t.mono hle_; have hk_t := hk_t.mono hle_; have hs_t := hs_t.mono hle_; have hrw_t := hrw_t.mono hle_; have hc2 := hc2.mono hle_; have hcv15 := hcv15.mono hle_; have hv15 := hv15.mono hle_; have hkd15 := hkd15.mono hle_; have hs15 := hs15.mono hle_; have hrw15 := hrw15.mono hle_; exact (show FnV Tryd.prog 39 #[_, .int .i64 ((left : Int) - 1)] _ _ _ from by rw [← el]; exact ih _ (by assumption) hA (by assumption) (by omega)))) <|
          .cons rfl (ob_max2 rfl rfl) <|
          .cons rfl (ob_assign rfl) <|
          .nil) ?_
      intro a8 w8 m8 hst8 hle8 hk8
      have hfr8 := hk8.fr (T' := [(13, _), (0, _), (1, _), (4, _), (2, _), (11, _), (12, _), (7, _), (5, _)]) (.old rfl rfl <| .old rfl rfl <| .old rfl rfl <| .old rfl rfl <| .old rfl rfl <| .old rfl rfl <| .old rfl rfl <| .old rfl rfl <| .new rfl <| .nil)
      replace h_t := h_t.mono hle8
      replace hk_t := hk_t.mono hle8
      replace hs_t := hs_t.mono hle8
      replace hrw_t := hrw_t.mono hle8
      replace hc2 := hc2.mono hle8
      replace hcv15 := hcv15.mono hle8
      replace hv15 := hv15.mono hle8
      replace hkd15 := hkd15.mono hle8
      replace hs15 := hs15.mono hle8
      replace hrw15 := hrw15.mono hle8
      have hlh8 := hlh7.trans hle8
      replace hM := hM.trans hle8
      clear hst7 hfr7 hk8
      refine hK13 _ _ ?_; try clear hK13 K13
      refine region_plain (fun h => by cases h) hst8 hfr8 (by kernel_rfl) (by kernel_rfl) (.cons rfl (ob_add rfl rfl ⟨by omega, by omega⟩) <|
          .cons rfl (ob_move rfl) <|
          .nil) ?_
      intro a9 w9 m9 hst9 hle9 hk9
      have hfr9 := hk9.fr (T' := [(0, _), (1, _), (4, _), (2, _), (11, _), (12, _), (7, _), (5, _), (13, _)]) (.old rfl rfl <| .old rfl rfl <| .old rfl rfl <| .old rfl rfl <| .old rfl rfl <| .old rfl rfl <| .old rfl rfl <| .old rfl rfl <| .new rfl <| .nil)
      replace h_t := h_t.mono hle9
      replace hk_t := hk_t.mono hle9
      replace hs_t := hs_t.mono hle9
      replace hrw_t := hrw_t.mono hle9
      replace hc2 := hc2.mono hle9
      replace hcv15 := hcv15.mono hle9
      replace hv15 := hv15.mono hle9
      replace hkd15 := hkd15.mono hle9
      replace hs15 := hs15.mono hle9
      replace hrw15 := hrw15.mono hle9
      have hlh9 := hlh8.trans hle9
      replace hM := hM.trans hle9
      clear hst8 hfr8 hk9
      have hst9 := hst9.take 0
      have hz : (if ((depthT (left - 1) x15 : Nat) : Int) > a then ((depthT (left - 1) x15 : Nat) : Int) else a) = ((depthTs (left - 1) (t.args.take (y + 1)) : Nat) : Int) := by rw [ht15, depthTs_snoc, ha]; split <;> omega
      rw [hz] at hfr9
      exact ⟨(y + 1, _), m9, by show t.args.length - (y + 1) < t.args.length - y; omega, ⟨hst9, hlh9, hfr9.sub (.cons rfl <| .cons rfl <| .cons rfl <| .cons rfl <| .cons rfl <| .cons rfl <| .cons rfl <| .cons rfl <| .nil), ⟨by show y + 1 ≤ t.args.length; omega, rfl, by have h8 := depthT_min x15 (left - 1); show ((depthTs (left - 1) (t.args.take (y + 1)) : Nat) : Int) ≤ 1000; rw [ht15, depthTs_snoc]; omega⟩⟩⟩
    · try simp only [Bool.not_eq_true', Bool.not_eq_false', decide_eq_true_eq, decide_eq_false_iff_not, Bool.and_eq_true, Bool.or_eq_true, Bool.and_eq_false_iff, Bool.or_eq_false_iff, Bool.not_not, u8_eq] at hb14
      have hge : y = t.args.length := by omega
      rw [List.take_of_length_le (by omega)] at ha
      refine wp_exit ?_
      refine hK8 _ _ ?_; try clear hK8 K8
      refine seq_any fun K17 hK17 => ?_
      refine region_plain (fun h => by cases h) hst6 hfr6 (by kernel_rfl) (by kernel_rfl) (.cons rfl (ob_move rfl) <|
          .cons rfl (ob_add rfl rfl ⟨by omega, by omega⟩) <|
          .cons rfl (ob_assign rfl) <|
          .nil) ?_
      intro a7 w7 m7 hst7 hle7 hk7
      have hfr7 := hk7.fr (T' := [(5, _), (13, _), (0, _), (1, _), (2, _), (11, _), (12, _), (4, _)]) (.old rfl rfl <| .old rfl rfl <| .old rfl rfl <| .old rfl rfl <| .old rfl rfl <| .old rfl rfl <| .old rfl rfl <| .new rfl <| .nil)
      replace h_t := h_t.mono hle7
      replace hk_t := hk_t.mono hle7
      replace hs_t := hs_t.mono hle7
      replace hrw_t := hrw_t.mono hle7
      replace hc2 := hc2.mono hle7
      have hlh7 := hlh6.trans hle7
      replace hM := hM.trans hle7
      clear hst6 hfr6 hk7
      refine hK17 _ _ ?_; try clear hK17 K17
      refine wp_ret ?_
      repeat (with_reducible first | refine then_ret ?_ | refine block_ret ?_)
      exact fn_ret hst7 hfr7 rfl (.tmp rfl <| .nil) (by refine congrArg (Value.int _) ?_; rw [depthT_eq]; split <;> omega)
theorem depth_c (t : Ty) : depth_G t := Ty.rec_ (p := depth_G) (fun t ih => depth_s ih) t

set_option maxHeartbeats 400000 in
theorem depth0_c {w : World} {m : Mem} {t : Ty} {vs_t : List Value} (hA : Agree w m) (h_t : TyR m t vs_t) : FnV Tryd.prog 18 #[.agg vs_t.toArray] w m (fun _ _ v => v = .int .i64 (min 201 (deepT t) : Nat)) := by
  obtain ⟨o_t, c_t, oL_t, cL_t, rfl, hk_t, hs_t, hi_t, hj_t, hr_t⟩ := h_t.open_
  have hbg_t := hk_t.big; have hcp_t := hk_t.cap; have hbs_t := hs_t.big; have hcs_t := hs_t.cap
  have hrw_t : RwR _ ⟨t.labels, t.rv⟩ _ := ⟨_, _, rfl, hs_t, hr_t⟩
  refine fn_enter (vs := [_]) Tryd.func18 rfl rfl rfl fun a0 hfr0 => ?_
  have hst0 := st_enter hA (loc_nil [] _ w m)
  have hM : MLe m m := MLe.refl m
  have hdm := depthT_min t 200
  refine seq_any fun K1 hK1 => ?_
  refine region_plain (fun h => by cases h) hst0 hfr0 (by kernel_rfl) (by kernel_rfl) (.cons rfl (ob_box rfl rfl) <|
      .cons rfl (ob_assign rfl) <|
      .nil) ?_
  intro a1 w1 m1 hst1 hle1 hk1
  have hfr1 := hk1.fr (T' := [(0, _), (2, _)]) (.old rfl rfl <| .new rfl <| .nil)
  obtain ⟨g2, e2, hc1⟩ := hk1.ex 1 rfl
  replace hfr1 := hfr1.cons e2
  replace h_t := h_t.mono hle1
  replace hk_t := hk_t.mono hle1
  replace hs_t := hs_t.mono hle1
  replace hrw_t := hrw_t.mono hle1
  replace hM := hM.trans hle1
  clear hst0 hfr0 hk1
  refine hK1 _ _ ?_; try clear hK1 K1
  refine seq_any fun K3 hK3 => ?_
  refine region_plain (fun h => by cases h) hst1 hfr1 (by kernel_rfl) (by kernel_rfl) (.cons rfl (ob_loadS' rfl hc1 Tryd.isAgg27 Tryd.sizeOf27 rfl rfl) <|
      .cons rfl (ob_callE rfl (.cons rfl <| .cons rfl <| .nil) Tryd.call39 (fun w m hK => by have hle_ := KC.le hK; have hA := KC.agree hK; have hM := hM.trans hle_; have h_t := h_t.mono hle_; exact depth_c t (left := 200) hA h_t (by omega))) <|
      .cons rfl (ob_min2 rfl rfl) <|
      .cons rfl (ob_assign rfl) <|
      .nil) ?_
  intro a2 w2 m2 hst2 hle2 hk2
  have hfr2 := hk2.fr (T' := [(0, _), (1, _), (2, _)]) (.old rfl rfl <| .old rfl rfl <| .new rfl <| .nil)
  replace h_t := h_t.mono hle2
  replace hk_t := hk_t.mono hle2
  replace hs_t := hs_t.mono hle2
  replace hrw_t := hrw_t.mono hle2
  replace hc1 := hc1.mono hle2
  replace hM := hM.trans hle2
  clear hst1 hfr1 hk2
  refine hK3 _ _ ?_; try clear hK3 K3
  refine wp_ret ?_
  repeat (with_reducible first | refine then_ret ?_ | refine block_ret ?_)
  exact fn_ret hst2 hfr2 rfl (.tmp rfl <| .nil) (by refine congrArg (Value.int _) ?_; split <;> omega)

def arN (k : Int) : Int := if k = 5 then 2 else if k = 6 then 1 else 0
def arOk (k : Int) : Bool := decide (1 ≤ k) && decide (k ≤ 6)
theorem ar_look (k : Int) : (match alook k [((1 : Int), Value.int .i64 0), (2, .int .i64 0), (3, .int .i64 0), (4, .int .i64 0), (5, .int .i64 2), (6, .int .i64 1)] with | some u => (u, true) | none => (.int .i64 0, false)) = (Value.int .i64 (arN k), arOk k) := by
  by_cases h1 : k = 1; subst h1; rfl
  by_cases h2 : k = 2; subst h2; rfl
  by_cases h3 : k = 3; subst h3; rfl
  by_cases h4 : k = 4; subst h4; rfl
  by_cases h5 : k = 5; subst h5; rfl
  by_cases h6 : k = 6; subst h6; rfl
  simp only [alook, h1, h2, h3, h4, h5, h6, if_false, arN]
  rw [show arOk k = false from by unfold arOk; rw [Bool.and_eq_false_iff, decide_eq_false_iff_not, decide_eq_false_iff_not]; omega]
theorem ar_arity (k : Int) : arity k = if arOk k then some (arN k).toNat else none := by
  unfold arity arOk arN
  by_cases h : 1 ≤ k ∧ k ≤ 6
  · rw [decide_eq_true h.1, decide_eq_true h.2]
    have : k = 1 ∨ k = 2 ∨ k = 3 ∨ k = 4 ∨ k = 5 ∨ k = 6 := by omega
    rcases this with rfl | rfl | rfl | rfl | rfl | rfl <;> rfl
  · rw [if_neg (by omega), if_neg (by omega), if_neg (by omega), if_neg (by simp; omega)]
theorem arN_nn (k : Int) : 0 ≤ arN k := by unfold arN; split; omega; split <;> omega

abbrev right_G (t : Ty) : Prop := ∀ {w : World} {m : Mem} {vs_t : List Value} (hA : Agree w m) (h_t : TyR m t vs_t), FnV Tryd.prog 32 #[.agg vs_t.toArray] w m (fun _ _ v => v = .bool (rightT t))
set_option maxHeartbeats 400000 in
theorem right1_c {w : World} {m : Mem} {t : Ty} {vs_t : List Value} (hA : Agree w m) (h_t : TyR m t vs_t) (hp : right_G t) : FnV Tryd.prog 51 #[.agg vs_t.toArray] w m (fun _ _ v => v = .bool (!rightT t)) := by
  obtain ⟨o_t, c_t, oL_t, cL_t, rfl, hk_t, hs_t, hi_t, hj_t, hr_t⟩ := h_t.open_
  have hbg_t := hk_t.big; have hcp_t := hk_t.cap; have hbs_t := hs_t.big; have hcs_t := hs_t.cap
  have hrw_t : RwR _ ⟨t.labels, t.rv⟩ _ := ⟨_, _, rfl, hs_t, hr_t⟩
  refine fn_enter (vs := [_]) Tryd.func51 rfl rfl rfl fun a0 hfr0 => ?_
  have hst0 := st_enter hA (loc_nil [] _ w m)
  have hM : MLe m m := MLe.refl m
  refine seq_any fun K1 hK1 => ?_
  refine region_plain (fun h => by cases h) hst0 hfr0 (by kernel_rfl) (by kernel_rfl) (.cons rfl (ob_box rfl rfl) <|
      .cons rfl (ob_assign rfl) <|
      .nil) ?_
  intro a1 w1 m1 hst1 hle1 hk1
  have hfr1 := hk1.fr (T' := [(0, _), (2, _)]) (.old rfl rfl <| .new rfl <| .nil)
  obtain ⟨g2, e2, hc1⟩ := hk1.ex 1 rfl
  replace hfr1 := hfr1.cons e2
  replace h_t := h_t.mono hle1
  replace hk_t := hk_t.mono hle1
  replace hs_t := hs_t.mono hle1
  replace hrw_t := hrw_t.mono hle1
  replace hM := hM.trans hle1
  clear hst0 hfr0 hk1
  refine hK1 _ _ ?_; try clear hK1 K1
  refine seq_any fun K3 hK3 => ?_
  refine region_plain (fun h => by cases h) hst1 hfr1 (by kernel_rfl) (by kernel_rfl) (.cons rfl (ob_loadS' rfl hc1 Tryd.isAgg27 Tryd.sizeOf27 rfl rfl) <|
      .cons rfl (ob_callE rfl (.cons rfl <| .nil) Tryd.call32 (fun w m hK => by have hle_ := KC.le hK; have hA := KC.agree hK; have hM := hM.trans hle_; have h_t := h_t.mono hle_; exact hp hA h_t)) <|
      .cons rfl (ob_not rfl) <|
      .cons rfl (ob_assign rfl) <|
      .nil) ?_
  intro a2 w2 m2 hst2 hle2 hk2
  have hfr2 := hk2.fr (T' := [(0, _), (1, _), (2, _)]) (.old rfl rfl <| .old rfl rfl <| .new rfl <| .nil)
  replace h_t := h_t.mono hle2
  replace hk_t := hk_t.mono hle2
  replace hs_t := hs_t.mono hle2
  replace hrw_t := hrw_t.mono hle2
  replace hc1 := hc1.mono hle2
  replace hM := hM.trans hle2
  clear hst1 hfr1 hk2
  refine hK3 _ _ ?_; try clear hK3 K3
  refine wp_ret ?_
  repeat (with_reducible first | refine then_ret ?_ | refine block_ret ?_)
  exact fn_ret hst2 hfr2 rfl (.tmp rfl <| .nil) (rfl)
set_option maxHeartbeats 400000 in
theorem right_s {t : Ty} (ih : ∀ u ∈ t.args, right_G u) {w : World} {m : Mem} {vs_t : List Value} (hA : Agree w m) (h_t : TyR m t vs_t) : FnV Tryd.prog 32 #[.agg vs_t.toArray] w m (fun _ _ v => v = .bool (rightT t)) := by
  obtain ⟨o_t, c_t, oL_t, cL_t, rfl, hk_t, hs_t, hi_t, hj_t, hr_t⟩ := h_t.open_
  have hbg_t := hk_t.big; have hcp_t := hk_t.cap; have hbs_t := hs_t.big; have hcs_t := hs_t.cap
  have hrw_t : RwR _ ⟨t.labels, t.rv⟩ _ := ⟨_, _, rfl, hs_t, hr_t⟩
  refine fn_enter (vs := [_]) Tryd.func32 rfl rfl rfl fun a0 hfr0 => ?_
  have hst0 := st_enter hA (loc_nil [] _ w m)
  have hM : MLe m m := MLe.refl m
  have hla := rightTs_any t.args
  have haa := ar_arity t.kind
  have han := arN_nn t.kind
  refine seq_any fun K1 hK1 => ?_
  refine region_plain (fun h => by cases h) hst0 hfr0 (by kernel_rfl) (by kernel_rfl) (.cons rfl (ob_box rfl rfl) <|
      .cons rfl (ob_assign rfl) <|
      .nil) ?_
  intro a1 w1 m1 hst1 hle1 hk1
  have hfr1 := hk1.fr (T' := [(0, _), (2, _)]) (.old rfl rfl <| .new rfl <| .nil)
  obtain ⟨g2, e2, hc1⟩ := hk1.ex 1 rfl
  replace hfr1 := hfr1.cons e2
  replace h_t := h_t.mono hle1
  replace hk_t := hk_t.mono hle1
  replace hs_t := hs_t.mono hle1
  replace hrw_t := hrw_t.mono hle1
  replace hM := hM.trans hle1
  clear hst0 hfr0 hk1
  refine hK1 _ _ ?_; try clear hK1 K1
  refine seq_any fun K3 hK3 => ?_
  refine seq_any fun K4 hK4 => ?_
  refine region_plain (fun h => by cases h) hst1 hfr1 (by kernel_rfl) (by kernel_rfl) (.cons rfl (ob_fieldAddr rfl Tryd.underlying27 rfl Tryd.sizeOf3 rfl) <|
      .cons rfl (ob_load1 rfl hc1 Tryd.isAgg3 rfl) <|
      .cons rfl (ob_neq rfl rfl) <|
      .cons rfl (ob_move rfl) <|
      .cons rfl (ob_fieldAddr rfl Tryd.underlying27 rfl Tryd.sizeOf25 rfl) <|
      .cons rfl (ob_loadS rfl hc1 Tryd.isAgg25 Tryd.sizeOf25 rfl rfl) <|
      .cons rfl (ob_buildS (.nil) Tryd.underlying25 Tryd.zeroValue25 (.cons Tryd.sizeOf23 <| .cons Tryd.sizeOf3 <| .nil) rfl) <|
      .cons rfl (ob_callE rfl (.cons rfl <| .cons rfl <| .nil) Tryd.call26 (fun w m hK => by have hle_ := KC.le hK; have hA := KC.agree hK; have hM := hM.trans hle_; have hrw_t := hrw_t.mono hle_; exact samerow_c (a := ⟨t.labels, t.rv⟩) (b := ⟨[], 0⟩) hA hrw_t ⟨none, 0, rfl, Sl.empty, show InI64 0 from ⟨by omega, by omega⟩⟩)) <|
      .cons rfl (ob_not rfl) <|
      .cons rfl (ob_and rfl rfl rfl) <|
      .cons rfl (ob_move rfl) <|
      .cons rfl (ob_fieldAddr rfl Tryd.underlying27 rfl Tryd.sizeOf9 rfl) <|
      .cons rfl (ob_load1 rfl hc1 Tryd.isAgg9 rfl) <|
      .cons rfl (ob_sneq rfl rfl) <|
      .cons rfl (ob_fieldAddr rfl Tryd.underlying27 rfl Tryd.sizeOf3 rfl) <|
      .cons rfl (ob_load1 rfl hc1 Tryd.isAgg3 rfl) <|
      .cons rfl (ob_eql rfl rfl) <|
      .cons rfl (ob_bneq rfl rfl Tryd.underlying4) <|
      .cons rfl (ob_or rfl rfl rfl) <|
      .nil) ?_
  intro a2 w2 m2 hst2 hle2 hk2
  have hfr2 := hk2.fr (T' := [(0, _), (2, _), (1, _), (24, _)]) (.old rfl rfl <| .old rfl rfl <| .old rfl rfl <| .new rfl <| .nil)
  replace h_t := h_t.mono hle2
  replace hk_t := hk_t.mono hle2
  replace hs_t := hs_t.mono hle2
  replace hrw_t := hrw_t.mono hle2
  replace hc1 := hc1.mono hle2
  replace hM := hM.trans hle2
  clear hst1 hfr1 hk2
  refine hK4 _ _ ?_; try clear hK4 K4
  refine cond_any hfr2 rfl rfl (fun hb24 => ?_) (fun hb24 => ?_)
  · try simp only [Bool.not_eq_true', Bool.not_eq_false', decide_eq_true_eq, decide_eq_false_iff_not, Bool.and_eq_true, Bool.or_eq_true, Bool.and_eq_false_iff, Bool.or_eq_false_iff, Bool.not_not, u8_eq] at hb24
    have hc : ((t.kind ≠ 5 ∧ ¬ (t.rv = 0 ∧ t.labels = [])) ∨ ((t.name ≠ []) ≠ (t.kind = 4))) := by by_cases h1 : t.kind = 5 <;> by_cases h2 : t.name = [] <;> by_cases h3 : t.kind = 4 <;> simp_all <;> (try (intro h; simp_all))
    refine seq_any fun K5 hK5 => ?_
    refine region_plain (fun h => by cases h) hst2 hfr2 (by kernel_rfl) (by kernel_rfl) (.cons rfl (ob_assign rfl) <|
        .nil) ?_
    intro a3 w3 m3 hst3 hle3 hk3
    have hfr3 := hk3.fr (T' := [(0, _), (1, _), (2, _)]) (.old rfl rfl <| .old rfl rfl <| .new rfl <| .nil)
    replace h_t := h_t.mono hle3
    replace hk_t := hk_t.mono hle3
    replace hs_t := hs_t.mono hle3
    replace hrw_t := hrw_t.mono hle3
    replace hc1 := hc1.mono hle3
    replace hM := hM.trans hle3
    clear hst2 hfr2 hk3
    refine hK5 _ _ ?_; try clear hK5 K5
    refine wp_ret ?_
    repeat (with_reducible first | refine then_ret ?_ | refine block_ret ?_)
    exact fn_ret hst3 hfr3 rfl (.tmp rfl <| .nil) (by refine congrArg Value.bool ?_; rw [rightT_eq]; unfold rightTB; rw [if_pos hc])
  · try simp only [Bool.not_eq_true', Bool.not_eq_false', decide_eq_true_eq, decide_eq_false_iff_not, Bool.and_eq_true, Bool.or_eq_true, Bool.and_eq_false_iff, Bool.or_eq_false_iff, Bool.not_not, u8_eq] at hb24
    have hc : ¬ ((t.kind ≠ 5 ∧ ¬ (t.rv = 0 ∧ t.labels = [])) ∨ ((t.name ≠ []) ≠ (t.kind = 4))) := by by_cases h1 : t.kind = 5 <;> by_cases h2 : t.name = [] <;> by_cases h3 : t.kind = 4 <;> simp_all <;> (try (intro h; simp_all))
    refine wp_skip ?_
    refine hK3 _ _ ?_; try clear hK3 K3
    refine seq_any fun K7 hK7 => ?_
    refine seq_any fun K8 hK8 => ?_
    refine region_plain (fun h => by cases h) hst2 hfr2 (by kernel_rfl) (by kernel_rfl) (.cons rfl (ob_fieldAddr rfl Tryd.underlying27 rfl Tryd.sizeOf3 rfl) <|
        .cons rfl (ob_load1 rfl hc1 Tryd.isAgg3 rfl) <|
        .cons rfl (ob_eql rfl rfl) <|
        .nil) ?_
    intro a3 w3 m3 hst3 hle3 hk3
    have hfr3 := hk3.fr (T' := [(0, _), (2, _), (1, _), (27, _)]) (.old rfl rfl <| .old rfl rfl <| .old rfl rfl <| .new rfl <| .nil)
    replace h_t := h_t.mono hle3
    replace hk_t := hk_t.mono hle3
    replace hs_t := hs_t.mono hle3
    replace hrw_t := hrw_t.mono hle3
    replace hc1 := hc1.mono hle3
    replace hM := hM.trans hle3
    clear hst2 hfr2 hk3
    refine hK8 _ _ ?_; try clear hK8 K8
    refine cond_any hfr3 rfl rfl (fun hb27 => ?_) (fun hb27 => ?_)
    · try simp only [Bool.not_eq_true', Bool.not_eq_false', decide_eq_true_eq, decide_eq_false_iff_not, Bool.and_eq_true, Bool.or_eq_true, Bool.and_eq_false_iff, Bool.or_eq_false_iff, Bool.not_not, u8_eq] at hb27
      refine seq_any fun K9 hK9 => ?_
      refine region_plain (fun h => by cases h) hst3 hfr3 (by kernel_rfl) (by kernel_rfl) (.cons rfl (ob_fieldAddr rfl Tryd.underlying27 rfl Tryd.sizeOf3 rfl) <|
          .cons rfl (ob_load1 rfl hc1 Tryd.isAgg3 rfl) <|
          .cons rfl (ob_geq rfl rfl) <|
          .cons rfl (ob_move rfl) <|
          .cons rfl (ob_fieldAddr rfl Tryd.underlying27 rfl Tryd.sizeOf22 rfl) <|
          .cons rfl (ob_load1 rfl hc1 Tryd.isAgg22 rfl) <|
          .cons rfl (ob_len rfl Tryd.underlying22) <|
          .cons rfl (ob_eql rfl rfl) <|
          .cons rfl (ob_and rfl rfl rfl) <|
          .cons rfl (ob_assign rfl) <|
          .nil) ?_
      intro a4 w4 m4 hst4 hle4 hk4
      have hfr4 := hk4.fr (T' := [(0, _), (1, _), (2, _)]) (.old rfl rfl <| .old rfl rfl <| .new rfl <| .nil)
      replace h_t := h_t.mono hle4
      replace hk_t := hk_t.mono hle4
      replace hs_t := hs_t.mono hle4
      replace hrw_t := hrw_t.mono hle4
      replace hc1 := hc1.mono hle4
      replace hM := hM.trans hle4
      clear hst3 hfr3 hk4
      refine hK9 _ _ ?_; try clear hK9 K9
      refine wp_ret ?_
      repeat (with_reducible first | refine then_ret ?_ | refine block_ret ?_)
      exact fn_ret hst4 hfr4 rfl (.tmp rfl <| .nil) (by refine congrArg Value.bool ?_; rw [rightT_eq]; unfold rightTB; rw [if_neg hc, if_pos hb27]; rw [show decide (t.args.length = 0) = decide ((t.args.length : Int) = 0) from by rw [decide_eq_decide]; omega])
    · try simp only [Bool.not_eq_true', Bool.not_eq_false', decide_eq_true_eq, decide_eq_false_iff_not, Bool.and_eq_true, Bool.or_eq_true, Bool.and_eq_false_iff, Bool.or_eq_false_iff, Bool.not_not, u8_eq] at hb27
      refine wp_skip ?_
      refine hK7 _ _ ?_; try clear hK7 K7
      refine seq_any fun K11 hK11 => ?_
      replace hst3 := hst3.more (r := .free) trivial List.nodup_nil (by simp [Res.blocks])
      refine region_seq (tch := [(0, 0, (fun v => .map v _)), (1, 0, (fun v => .map v _)), (2, 0, (fun v => .map v _)), (3, 0, (fun v => .map v _)), (4, 0, (fun v => .map v _)), (5, 0, (fun v => .map v _)), (6, 0, (fun v => .map v _))]) hst3 hfr3 (by kernel_rfl) (by kernel_rfl) (by kernel_rfl) (.consT rfl rfl (fun _ => rfl) rfl (ob_makeMapK (fun n : Int => Value.int .i64 n)) <|
          .consT rfl rfl (fun _ => rfl) rfl (ob_insertF keys_I rfl rfl rfl Tryd.underlying69 Tryd.underlying3) <|
          .consT rfl rfl (fun _ => rfl) rfl (ob_insertF keys_I rfl rfl rfl Tryd.underlying69 Tryd.underlying3) <|
          .consT rfl rfl (fun _ => rfl) rfl (ob_insertF keys_I rfl rfl rfl Tryd.underlying69 Tryd.underlying3) <|
          .consT rfl rfl (fun _ => rfl) rfl (ob_insertF keys_I rfl rfl rfl Tryd.underlying69 Tryd.underlying3) <|
          .consT rfl rfl (fun _ => rfl) rfl (ob_insertF keys_I rfl rfl rfl Tryd.underlying69 Tryd.underlying3) <|
          .consT rfl rfl (fun _ => rfl) rfl (ob_insertF keys_I rfl rfl rfl Tryd.underlying69 Tryd.underlying3) <|
          .consA 37 rfl rfl <|
          .consA 38 rfl rfl <|
          .nil) ?_
      intro a4 w4 m4 hst4 hle4 hk4
      have hfr4 := hk4.fr (T' := [(0, _), (2, _), (1, _)]) (.old rfl rfl <| .old rfl rfl <| .old rfl rfl <| .nil)
      obtain ⟨gm, e12, _⟩ := hk4.ex 37 rfl
      replace hfr4 := hfr4.cons e12
      have es13 := hk4.same 38 rfl e12
      replace hfr4 := hfr4.cons (hk4.same 3 rfl es13)
      replace hst4 := hst4.fin (L' := [_]) (.cons e12 <| .cons e12 <| .cons e12 <| .cons e12 <| .cons e12 <| .cons e12 <| .cons e12 <| .nil)
      replace h_t := h_t.mono hle4
      replace hk_t := hk_t.mono hle4
      replace hs_t := hs_t.mono hle4
      replace hrw_t := hrw_t.mono hle4
      replace hc1 := hc1.mono hle4
      replace hM := hM.trans hle4
      clear hst3 hfr3 hk4
      refine hK11 _ _ ?_; try clear hK11 K11
      refine seq_any fun K14 hK14 => ?_
      refine region_plain (fun h => by cases h) hst4 hfr4 (by kernel_rfl) (by kernel_rfl) (.cons rfl (ob_move rfl) <|
          .cons rfl (ob_fieldAddr rfl Tryd.underlying27 rfl Tryd.sizeOf3 rfl) <|
          .cons rfl (ob_load1 rfl hc1 Tryd.isAgg3 rfl) <|
          .cons rfl (ob_lookup (j := 0) (v := .int .i64 (arN t.kind)) (b := arOk t.kind) keys_I rfl rfl rfl Tryd.underlying69 Tryd.underlying3 Tryd.zeroValue3 (ar_look t.kind)) <|
          .cons rfl (ob_move rfl) <|
          .cons rfl (ob_extract rfl rfl) <|
          .cons rfl (ob_extract rfl rfl) <|
          .cons rfl (ob_assign rfl) <|
          .cons rfl (ob_assign rfl) <|
          .nil) ?_
      intro a5 w5 m5 hst5 hle5 hk5
      have hfr5 := hk5.fr (T' := [(0, _), (2, _), (1, _), (3, _), (4, _), (5, _)]) (.old rfl rfl <| .old rfl rfl <| .old rfl rfl <| .old rfl rfl <| .new rfl <| .new rfl <| .nil)
      replace h_t := h_t.mono hle5
      replace hk_t := hk_t.mono hle5
      replace hs_t := hs_t.mono hle5
      replace hrw_t := hrw_t.mono hle5
      replace hc1 := hc1.mono hle5
      replace hM := hM.trans hle5
      clear hst4 hfr4 hk5
      refine hK14 _ _ ?_; try clear hK14 K14
      refine seq_any fun K15 hK15 => ?_
      refine region_plain (fun h => by cases h) hst5 hfr5 (by kernel_rfl) (by kernel_rfl) (.cons rfl (ob_move rfl) <|
          .cons rfl (ob_move rfl) <|
          .cons rfl (ob_fieldAddr rfl Tryd.underlying27 rfl Tryd.sizeOf3 rfl) <|
          .cons rfl (ob_load1 rfl hc1 Tryd.isAgg3 rfl) <|
          .cons rfl (ob_eql rfl rfl) <|
          .cons rfl (ob_and rfl rfl rfl) <|
          .cons rfl (ob_move rfl) <|
          .cons rfl (ob_fieldAddr rfl Tryd.underlying27 rfl Tryd.sizeOf22 rfl) <|
          .cons rfl (ob_load1 rfl hc1 Tryd.isAgg22 rfl) <|
          .cons rfl (ob_len rfl Tryd.underlying22) <|
          .cons rfl (ob_move rfl) <|
          .cons rfl (ob_eql rfl rfl) <|
          .cons rfl (ob_and rfl rfl rfl) <|
          .cons rfl (ob_move rfl) <|
          .cons rfl (ob_fieldAddr rfl Tryd.underlying27 rfl Tryd.sizeOf25 rfl) <|
          .cons rfl (ob_loadS rfl hc1 Tryd.isAgg25 Tryd.sizeOf25 rfl rfl) <|
          .cons rfl (ob_callE rfl (.cons rfl <| .nil) Tryd.call19 (fun w m hK => by have hle_ := KC.le hK; have hA := KC.agree hK; have hM := hM.trans hle_; have hrw_t := hrw_t.mono hle_; exact rightrow_c (r := ⟨t.labels, t.rv⟩) hA hrw_t)) <|
          .cons rfl (ob_and rfl rfl rfl) <|
          .cons rfl (ob_move rfl) <|
          .cons rfl (ob_fieldAddr rfl Tryd.underlying27 rfl Tryd.sizeOf22 rfl) <|
          .cons rfl (ob_load1 rfl hc1 Tryd.isAgg22 rfl) <|
          .cons rfl (ob_callE rfl (.cons rfl <| .cons rfl <| .nil) Tryd.call50 (fun w m hK => by have hle_ := KC.le hK; have hA := KC.agree hK; have hM := hM.trans hle_; have hk_t := hk_t.mono hle_; exact containsfT_c (φ := fun u => !rightT u) (cap := []) hA hk_t Tryd.call51 (fun w m2 u vs hm ha hv hu => right1_c ha hv (ih u hu)))) <|
          .cons rfl (ob_not rfl) <|
          .cons rfl (ob_and rfl rfl rfl) <|
          .cons rfl (ob_assign rfl) <|
          .nil) ?_
      intro a6 w6 m6 hst6 hle6 hk6
      have hfr6 := hk6.fr (T' := [(0, _), (1, _), (3, _), (4, _), (5, _), (2, _)]) (.old rfl rfl <| .old rfl rfl <| .old rfl rfl <| .old rfl rfl <| .old rfl rfl <| .new rfl <| .nil)
      replace h_t := h_t.mono hle6
      replace hk_t := hk_t.mono hle6
      replace hs_t := hs_t.mono hle6
      replace hrw_t := hrw_t.mono hle6
      replace hc1 := hc1.mono hle6
      replace hM := hM.trans hle6
      clear hst5 hfr5 hk6
      refine hK15 _ _ ?_; try clear hK15 K15
      refine wp_ret ?_
      repeat (with_reducible first | refine then_ret ?_ | refine block_ret ?_)
      exact fn_ret hst6 hfr6 rfl (.tmp rfl <| .nil) (by refine congrArg Value.bool ?_; rw [rightT_eq]; unfold rightTB; rw [if_neg hc, if_neg hb27, haa, ← hla]; cases arOk t.kind; (simp); (simp only [if_true]; rw [show decide (t.args.length = (arN t.kind).toNat) = decide ((t.args.length : Int) = arN t.kind) from by rw [decide_eq_decide]; omega]; simp))
theorem right_c (t : Ty) : right_G t := Ty.rec_ (p := right_G) (fun t ih => right_s ih) t

set_option maxHeartbeats 400000 in
theorem right0_c {w : World} {m : Mem} {t : Ty} {vs_t : List Value} (hA : Agree w m) (h_t : TyR m t vs_t) : FnV Tryd.prog 13 #[.agg vs_t.toArray] w m (fun _ _ v => v = .bool (decide (deepT t ≤ 200) && rightT t)) := by
  obtain ⟨o_t, c_t, oL_t, cL_t, rfl, hk_t, hs_t, hi_t, hj_t, hr_t⟩ := h_t.open_
  have hbg_t := hk_t.big; have hcp_t := hk_t.cap; have hbs_t := hs_t.big; have hcs_t := hs_t.cap
  have hrw_t : RwR _ ⟨t.labels, t.rv⟩ _ := ⟨_, _, rfl, hs_t, hr_t⟩
  refine fn_enter (vs := [_]) Tryd.func13 rfl rfl rfl fun a0 hfr0 => ?_
  have hst0 := st_enter hA (loc_nil [] _ w m)
  have hM : MLe m m := MLe.refl m
  refine seq_any fun K1 hK1 => ?_
  refine region_plain (fun h => by cases h) hst0 hfr0 (by kernel_rfl) (by kernel_rfl) (.cons rfl (ob_box rfl rfl) <|
      .cons rfl (ob_assign rfl) <|
      .nil) ?_
  intro a1 w1 m1 hst1 hle1 hk1
  have hfr1 := hk1.fr (T' := [(0, _), (2, _)]) (.old rfl rfl <| .new rfl <| .nil)
  obtain ⟨g2, e2, hc1⟩ := hk1.ex 1 rfl
  replace hfr1 := hfr1.cons e2
  replace h_t := h_t.mono hle1
  replace hk_t := hk_t.mono hle1
  replace hs_t := hs_t.mono hle1
  replace hrw_t := hrw_t.mono hle1
  replace hM := hM.trans hle1
  clear hst0 hfr0 hk1
  refine hK1 _ _ ?_; try clear hK1 K1
  refine seq_any fun K3 hK3 => ?_
  refine region_plain (fun h => by cases h) hst1 hfr1 (by kernel_rfl) (by kernel_rfl) (.cons rfl (ob_loadS' rfl hc1 Tryd.isAgg27 Tryd.sizeOf27 rfl rfl) <|
      .cons rfl (ob_callE rfl (.cons rfl <| .nil) Tryd.call18 (fun w m hK => by have hle_ := KC.le hK; have hA := KC.agree hK; have hM := hM.trans hle_; have h_t := h_t.mono hle_; have hk_t := hk_t.mono hle_; have hs_t := hs_t.mono hle_; have hrw_t := hrw_t.mono hle_; have hc1 := hc1.mono hle_; exact depth0_c hA (by first | assumption | omega | simp_all))) <|
      .cons rfl (ob_leq rfl rfl) <|
      .cons rfl (ob_move rfl) <|
      .cons rfl (ob_loadS' rfl hc1 Tryd.isAgg27 Tryd.sizeOf27 rfl rfl) <|
      .cons rfl (ob_callE rfl (.cons rfl <| .nil) Tryd.call32 (fun w m hK => by have hle_ := KC.le hK; have hA := KC.agree hK; have hM := hM.trans hle_; have h_t := h_t.mono hle_; have hk_t := hk_t.mono hle_; have hs_t := hs_t.mono hle_; have hrw_t := hrw_t.mono hle_; have hc1 := hc1.mono hle_; exact right_c _ hA (by first | assumption | omega | simp_all))) <|
      .cons rfl (ob_and rfl rfl rfl) <|
      .cons rfl (ob_assign rfl) <|
      .nil) ?_
  intro a2 w2 m2 hst2 hle2 hk2
  have hfr2 := hk2.fr (T' := [(0, _), (1, _), (2, _)]) (.old rfl rfl <| .old rfl rfl <| .new rfl <| .nil)
  replace h_t := h_t.mono hle2
  replace hk_t := hk_t.mono hle2
  replace hs_t := hs_t.mono hle2
  replace hrw_t := hrw_t.mono hle2
  replace hc1 := hc1.mono hle2
  replace hM := hM.trans hle2
  clear hst1 hfr1 hk2
  refine hK3 _ _ ?_; try clear hK3 K3
  refine wp_ret ?_
  repeat (with_reducible first | refine then_ret ?_ | refine block_ret ?_)
  exact fn_ret hst2 hfr2 rfl (.tmp rfl <| .nil) (by refine congrArg Value.bool ?_; congr 1; rw [decide_eq_decide]; omega)

abbrev same_G (t : Ty) : Prop := ∀ {w : World} {m : Mem} {vs_t : List Value} {u : Ty} {vs_u : List Value} (hA : Agree w m) (h_t : TyR m t vs_t) (h_u : TyR m u vs_u), FnV Tryd.prog 17 #[.agg vs_t.toArray, .agg vs_u.toArray] w m (fun _ _ v => v = .bool (sameT t u))
set_option maxHeartbeats 400000 in
theorem same_s {t : Ty} (ih : ∀ u ∈ t.args, same_G u) {w : World} {m : Mem} {vs_t : List Value} {u : Ty} {vs_u : List Value} (hA : Agree w m) (h_t : TyR m t vs_t) (h_u : TyR m u vs_u) : FnV Tryd.prog 17 #[.agg vs_t.toArray, .agg vs_u.toArray] w m (fun _ _ v => v = .bool (sameT t u)) := by
  obtain ⟨o_t, c_t, oL_t, cL_t, rfl, hk_t, hs_t, hi_t, hj_t, hr_t⟩ := h_t.open_
  have hbg_t := hk_t.big; have hcp_t := hk_t.cap; have hbs_t := hs_t.big; have hcs_t := hs_t.cap
  have hrw_t : RwR _ ⟨t.labels, t.rv⟩ _ := ⟨_, _, rfl, hs_t, hr_t⟩
  obtain ⟨o_u, c_u, oL_u, cL_u, rfl, hk_u, hs_u, hi_u, hj_u, hr_u⟩ := h_u.open_
  have hbg_u := hk_u.big; have hcp_u := hk_u.cap; have hbs_u := hs_u.big; have hcs_u := hs_u.cap
  have hrw_u : RwR _ ⟨u.labels, u.rv⟩ _ := ⟨_, _, rfl, hs_u, hr_u⟩
  refine fn_enter (vs := [_, _]) Tryd.func17 rfl rfl rfl fun a0 hfr0 => ?_
  have hst0 := st_enter hA (loc_nil [] _ w m)
  have hM : MLe m m := MLe.refl m
  refine seq_any fun K1 hK1 => ?_
  refine region_plain (fun h => by cases h) hst0 hfr0 (by kernel_rfl) (by kernel_rfl) (.cons rfl (ob_box rfl rfl) <|
      .cons rfl (ob_box rfl rfl) <|
      .cons rfl (ob_assign rfl) <|
      .nil) ?_
  intro a1 w1 m1 hst1 hle1 hk1
  have hfr1 := hk1.fr (T' := [(0, _), (1, _), (4, _)]) (.old rfl rfl <| .old rfl rfl <| .new rfl <| .nil)
  obtain ⟨g2, e2, hc2⟩ := hk1.ex 2 rfl
  replace hfr1 := hfr1.cons e2
  obtain ⟨g3, e3, hc3⟩ := hk1.ex 3 rfl
  replace hfr1 := hfr1.cons e3
  replace h_t := h_t.mono hle1
  replace hk_t := hk_t.mono hle1
  replace hs_t := hs_t.mono hle1
  replace hrw_t := hrw_t.mono hle1
  replace h_u := h_u.mono hle1
  replace hk_u := hk_u.mono hle1
  replace hs_u := hs_u.mono hle1
  replace hrw_u := hrw_u.mono hle1
  replace hM := hM.trans hle1
  clear hst0 hfr0 hk1
  refine hK1 _ _ ?_; try clear hK1 K1
  refine seq_any fun K4 hK4 => ?_
  refine region_plain (fun h => by cases h) hst1 hfr1 (by kernel_rfl) (by kernel_rfl) (.cons rfl (ob_fieldAddr rfl Tryd.underlying27 rfl Tryd.sizeOf3 rfl) <|
      .cons rfl (ob_load1 rfl hc2 Tryd.isAgg3 rfl) <|
      .cons rfl (ob_fieldAddr rfl Tryd.underlying27 rfl Tryd.sizeOf3 rfl) <|
      .cons rfl (ob_load1 rfl hc3 Tryd.isAgg3 rfl) <|
      .cons rfl (ob_eql rfl rfl) <|
      .cons rfl (ob_move rfl) <|
      .cons rfl (ob_fieldAddr rfl Tryd.underlying27 rfl Tryd.sizeOf9 rfl) <|
      .cons rfl (ob_load1 rfl hc2 Tryd.isAgg9 rfl) <|
      .cons rfl (ob_fieldAddr rfl Tryd.underlying27 rfl Tryd.sizeOf9 rfl) <|
      .cons rfl (ob_load1 rfl hc3 Tryd.isAgg9 rfl) <|
      .cons rfl (ob_seql rfl rfl) <|
      .cons rfl (ob_and rfl rfl rfl) <|
      .cons rfl (ob_move rfl) <|
      .cons rfl (ob_fieldAddr rfl Tryd.underlying27 rfl Tryd.sizeOf3 rfl) <|
      .cons rfl (ob_load1 rfl hc2 Tryd.isAgg3 rfl) <|
      .cons rfl (ob_fieldAddr rfl Tryd.underlying27 rfl Tryd.sizeOf3 rfl) <|
      .cons rfl (ob_load1 rfl hc3 Tryd.isAgg3 rfl) <|
      .cons rfl (ob_eql rfl rfl) <|
      .cons rfl (ob_and rfl rfl rfl) <|
      .cons rfl (ob_move rfl) <|
      .cons rfl (ob_fieldAddr rfl Tryd.underlying27 rfl Tryd.sizeOf25 rfl) <|
      .cons rfl (ob_loadS rfl hc2 Tryd.isAgg25 Tryd.sizeOf25 rfl rfl) <|
      .cons rfl (ob_fieldAddr rfl Tryd.underlying27 rfl Tryd.sizeOf25 rfl) <|
      .cons rfl (ob_loadS rfl hc3 Tryd.isAgg25 Tryd.sizeOf25 rfl rfl) <|
      .cons rfl (ob_callE rfl (.cons rfl <| .cons rfl <| .nil) Tryd.call26 (fun w m hK => by have hle_ := KC.le hK; have hA := KC.agree hK; have hM := hM.trans hle_; have hrw_t := hrw_t.mono hle_; have hrw_u := hrw_u.mono hle_; exact samerow_c (a := ⟨t.labels, t.rv⟩) (b := ⟨u.labels, u.rv⟩) hA hrw_t hrw_u)) <|
      .cons rfl (ob_and rfl rfl rfl) <|
      .cons rfl (ob_move rfl) <|
      .cons rfl (ob_fieldAddr rfl Tryd.underlying27 rfl Tryd.sizeOf22 rfl) <|
      .cons rfl (ob_load1 rfl hc2 Tryd.isAgg22 rfl) <|
      .cons rfl (ob_fieldAddr rfl Tryd.underlying27 rfl Tryd.sizeOf22 rfl) <|
      .cons rfl (ob_load1 rfl hc3 Tryd.isAgg22 rfl) <|
      .cons rfl (ob_callE rfl (.cons rfl <| .cons rfl <| .cons rfl <| .nil) Tryd.call38 (fun w m hK => by have hle_ := KC.le hK; have hA := KC.agree hK; have hM := hM.trans hle_; have hk_t := hk_t.mono hle_; have hk_u := hk_u.mono hle_; exact equalfT_c (ψ := sameT) (cap := []) hA hk_t hk_u Tryd.call17 (fun w m2 u1 u2 vs us hm ha hv hu h1 h2 => ih u1 h1 ha hv hu))) <|
      .cons rfl (ob_and rfl rfl rfl) <|
      .cons rfl (ob_assign rfl) <|
      .nil) ?_
  intro a2 w2 m2 hst2 hle2 hk2
  have hfr2 := hk2.fr (T' := [(0, _), (1, _), (2, _), (3, _), (4, _)]) (.old rfl rfl <| .old rfl rfl <| .old rfl rfl <| .old rfl rfl <| .new rfl <| .nil)
  replace h_t := h_t.mono hle2
  replace hk_t := hk_t.mono hle2
  replace hs_t := hs_t.mono hle2
  replace hrw_t := hrw_t.mono hle2
  replace h_u := h_u.mono hle2
  replace hk_u := hk_u.mono hle2
  replace hs_u := hs_u.mono hle2
  replace hrw_u := hrw_u.mono hle2
  replace hc2 := hc2.mono hle2
  replace hc3 := hc3.mono hle2
  replace hM := hM.trans hle2
  clear hst1 hfr1 hk2
  refine hK4 _ _ ?_; try clear hK4 K4
  refine wp_ret ?_
  repeat (with_reducible first | refine then_ret ?_ | refine block_ret ?_)
  exact fn_ret hst2 hfr2 rfl (.tmp rfl <| .nil) (by refine congrArg Value.bool ?_; rw [sameT_eq, sameTs_all2])
theorem same_c (t : Ty) : same_G t := Ty.rec_ (p := same_G) (fun t ih => same_s ih) t

set_option maxHeartbeats 400000 in
theorem rowtext_c {w : World} {m : Mem} {r : Rw} {vs_r : List Value} (hA : Agree w m) (h_r : RwR m r vs_r) (hT : Tab w) (hb : lensS r.labels ≤ 1073741824) : FnV Tryd.prog 35 #[.agg vs_r.toArray] w m (fun _ _ v => v = S (rowTextS r.labels r.var)) := by
  obtain ⟨o_r, c_r, rfl, hs_r, hr_r⟩ := h_r.open_
  have hbs_r := hs_r.big; have hcs_r := hs_r.cap
  refine fn_enter (vs := [_]) Tryd.func35 rfl rfl rfl fun a0 hfr0 => ?_
  have hst0 := st_enter hA (loc_nil [] _ w m)
  have hM : MLe m m := MLe.refl m
  have hj := join1_len r.labels
  have hil := itoa_len hr_r
  have hln := lensS_len r.labels
  have hl0 : ((r.labels.length : Int) = 0) ↔ r.labels = [] := by constructor; (intro h; exact List.eq_nil_of_length_eq_zero (by omega)); (intro h; rw [h]; rfl)
  refine seq_any fun K1 hK1 => ?_
  refine region_plain (fun h => by cases h) hst0 hfr0 (by kernel_rfl) (by kernel_rfl) (.cons rfl (ob_box rfl rfl) <|
      .cons rfl (ob_assign rfl) <|
      .nil) ?_
  intro a1 w1 m1 hst1 hle1 hk1
  have hfr1 := hk1.fr (T' := [(0, _), (2, _)]) (.old rfl rfl <| .new rfl <| .nil)
  obtain ⟨g2, e2, hc1⟩ := hk1.ex 1 rfl
  replace hfr1 := hfr1.cons e2
  replace h_r := h_r.mono hle1
  replace hs_r := hs_r.mono hle1
  replace hM := hM.trans hle1
  clear hst0 hfr0 hk1
  refine hK1 _ _ ?_; try clear hK1 K1
  refine seq_any fun K3 hK3 => ?_
  refine seq_any fun K4 hK4 => ?_
  refine region_plain (fun h => by cases h) hst1 hfr1 (by kernel_rfl) (by kernel_rfl) (.cons rfl (ob_fieldAddr rfl Tryd.underlying25 rfl Tryd.sizeOf23 rfl) <|
      .cons rfl (ob_load1 rfl hc1 Tryd.isAgg23 rfl) <|
      .cons rfl (ob_len rfl Tryd.underlying23) <|
      .cons rfl (ob_eql rfl rfl) <|
      .cons rfl (ob_move rfl) <|
      .cons rfl (ob_fieldAddr rfl Tryd.underlying25 rfl Tryd.sizeOf3 rfl) <|
      .cons rfl (ob_load1 rfl hc1 Tryd.isAgg3 rfl) <|
      .cons rfl (ob_eql rfl rfl) <|
      .cons rfl (ob_and rfl rfl rfl) <|
      .nil) ?_
  intro a2 w2 m2 hst2 hle2 hk2
  have hfr2 := hk2.fr (T' := [(0, _), (2, _), (1, _), (12, _)]) (.old rfl rfl <| .old rfl rfl <| .old rfl rfl <| .new rfl <| .nil)
  replace h_r := h_r.mono hle2
  replace hs_r := hs_r.mono hle2
  replace hc1 := hc1.mono hle2
  replace hM := hM.trans hle2
  clear hst1 hfr1 hk2
  refine hK4 _ _ ?_; try clear hK4 K4
  refine cond_any hfr2 rfl rfl (fun hb12 => ?_) (fun hb12 => ?_)
  · try simp only [Bool.not_eq_true', Bool.not_eq_false', decide_eq_true_eq, decide_eq_false_iff_not, Bool.and_eq_true, Bool.or_eq_true, Bool.and_eq_false_iff, Bool.or_eq_false_iff, Bool.not_not, u8_eq] at hb12
    have hcc : r.labels = [] ∧ r.var = 0 := by rw [← hl0]; omega
    refine seq_any fun K5 hK5 => ?_
    refine region_plain (fun h => by cases h) hst2 hfr2 (by kernel_rfl) (by kernel_rfl) (.cons rfl (ob_assign rfl) <|
        .nil) ?_
    intro a3 w3 m3 hst3 hle3 hk3
    have hfr3 := hk3.fr (T' := [(0, _), (1, _), (2, _)]) (.old rfl rfl <| .old rfl rfl <| .new rfl <| .nil)
    replace h_r := h_r.mono hle3
    replace hs_r := hs_r.mono hle3
    replace hc1 := hc1.mono hle3
    replace hM := hM.trans hle3
    clear hst2 hfr2 hk3
    refine hK5 _ _ ?_; try clear hK5 K5
    refine wp_ret ?_
    repeat (with_reducible first | refine then_ret ?_ | refine block_ret ?_)
    exact fn_ret hst3 hfr3 rfl (.tmp rfl <| .nil) (by refine congrArg S ?_; unfold rowTextS; rw [if_pos hcc])
  · try simp only [Bool.not_eq_true', Bool.not_eq_false', decide_eq_true_eq, decide_eq_false_iff_not, Bool.and_eq_true, Bool.or_eq_true, Bool.and_eq_false_iff, Bool.or_eq_false_iff, Bool.not_not, u8_eq] at hb12
    have hcc : ¬ (r.labels = [] ∧ r.var = 0) := by rw [← hl0]; omega
    refine wp_skip ?_
    refine hK3 _ _ ?_; try clear hK3 K3
    refine seq_any fun K7 hK7 => ?_
    refine region_plain (fun h => by cases h) hst2 hfr2 (by kernel_rfl) (by kernel_rfl) (.cons rfl (ob_fieldAddr rfl Tryd.underlying25 rfl Tryd.sizeOf23 rfl) <|
        .cons rfl (ob_load1 rfl hc1 Tryd.isAgg23 rfl) <|
        .cons rfl (ob_callE rfl (.cons rfl <| .cons rfl <| .nil) Tryd.call54 (fun w m hK => by have hle_ := KC.le hK; have hA := KC.agree hK; have hM := hM.trans hle_; have hT := tab_keep hT hK.st.ext; have hs_r := hs_r.mono hle_; exact join_c hA hs_r (by omega) (by omega))) <|
        .cons rfl (ob_assign rfl) <|
        .nil) ?_
    intro a3 w3 m3 hst3 hle3 hk3
    have hfr3 := hk3.fr (T' := [(0, _), (2, _), (1, _), (3, _)]) (.old rfl rfl <| .old rfl rfl <| .old rfl rfl <| .new rfl <| .nil)
    replace h_r := h_r.mono hle3
    replace hs_r := hs_r.mono hle3
    replace hc1 := hc1.mono hle3
    replace hM := hM.trans hle3
    clear hst2 hfr2 hk3
    refine hK7 _ _ ?_; try clear hK7 K7
    refine seq_any fun K8 hK8 => ?_
    refine seq_any fun K9 hK9 => ?_
    refine region_plain (fun h => by cases h) hst3 hfr3 (by kernel_rfl) (by kernel_rfl) (.cons rfl (ob_fieldAddr rfl Tryd.underlying25 rfl Tryd.sizeOf3 rfl) <|
        .cons rfl (ob_load1 rfl hc1 Tryd.isAgg3 rfl) <|
        .cons rfl (ob_gtr rfl rfl) <|
        .nil) ?_
    intro a4 w4 m4 hst4 hle4 hk4
    have hfr4 := hk4.fr (T' := [(0, _), (2, _), (1, _), (3, _), (18, _)]) (.old rfl rfl <| .old rfl rfl <| .old rfl rfl <| .old rfl rfl <| .new rfl <| .nil)
    replace h_r := h_r.mono hle4
    replace hs_r := hs_r.mono hle4
    replace hc1 := hc1.mono hle4
    replace hM := hM.trans hle4
    clear hst3 hfr3 hk4
    refine hK9 _ _ ?_; try clear hK9 K9
    refine cond_any hfr4 rfl rfl (fun hb18 => ?_) (fun hb18 => ?_)
    · try simp only [Bool.not_eq_true', Bool.not_eq_false', decide_eq_true_eq, decide_eq_false_iff_not, Bool.and_eq_true, Bool.or_eq_true, Bool.and_eq_false_iff, Bool.or_eq_false_iff, Bool.not_not, u8_eq] at hb18
      refine region_plain (fun h => by cases h) hst4 hfr4 (by kernel_rfl) (by kernel_rfl) (.cons rfl (ob_move rfl) <|
          .cons rfl (ob_fieldAddr rfl Tryd.underlying25 rfl Tryd.sizeOf3 rfl) <|
          .cons rfl (ob_load1 rfl hc1 Tryd.isAgg3 rfl) <|
          .cons rfl (ob_callE rfl (.cons rfl <| .nil) Tryd.call33 (fun w m hK => by have hle_ := KC.le hK; have hA := KC.agree hK; have hM := hM.trans hle_; have hT := tab_keep hT hK.st.ext; have h_r := h_r.mono hle_; have hs_r := hs_r.mono hle_; have hc1 := hc1.mono hle_; exact itoa_c hA hT (by assumption))) <|
          .cons rfl (ob_sadd rfl rfl (by first | omega | (simp only [List.length_append, List.length_cons, List.length_nil, List.length_map]; omega))) <|
          .cons rfl (ob_sadd rfl rfl (by first | omega | (simp only [List.length_append, List.length_cons, List.length_nil, List.length_map]; omega))) <|
          .cons rfl (ob_assign rfl) <|
          .nil) ?_
      intro a5 w5 m5 hst5 hle5 hk5
      have hfr5 := hk5.fr (T' := [(0, _), (2, _), (1, _), (3, _)]) (.old rfl rfl <| .old rfl rfl <| .old rfl rfl <| .new rfl <| .nil)
      replace h_r := h_r.mono hle5
      replace hs_r := hs_r.mono hle5
      replace hc1 := hc1.mono hle5
      replace hM := hM.trans hle5
      clear hst4 hfr4 hk5
      refine hK8 _ _ ?_; try clear hK8 K8
      refine seq_any fun K10 hK10 => ?_
      refine region_plain (fun h => by cases h) hst5 hfr5 (by kernel_rfl) (by kernel_rfl) (.cons rfl (ob_move rfl) <|
          .cons rfl (ob_sadd rfl rfl (by first | omega | (simp only [List.length_append, List.length_cons, List.length_nil, List.length_map]; omega))) <|
          .cons rfl (ob_sadd rfl rfl (by first | omega | (simp only [List.length_append, List.length_cons, List.length_nil, List.length_map]; omega))) <|
          .cons rfl (ob_assign rfl) <|
          .nil) ?_
      intro a6 w6 m6 hst6 hle6 hk6
      have hfr6 := hk6.fr (T' := [(0, _), (1, _), (3, _), (2, _)]) (.old rfl rfl <| .old rfl rfl <| .old rfl rfl <| .new rfl <| .nil)
      replace h_r := h_r.mono hle6
      replace hs_r := hs_r.mono hle6
      replace hc1 := hc1.mono hle6
      replace hM := hM.trans hle6
      clear hst5 hfr5 hk6
      refine hK10 _ _ ?_; try clear hK10 K10
      refine wp_ret ?_
      repeat (with_reducible first | refine then_ret ?_ | refine block_ret ?_)
      exact fn_ret hst6 hfr6 rfl (.tmp rfl <| .nil) (by refine congrArg S ?_; unfold rowTextS; rw [if_neg hcc]; first | rw [if_pos hb18] | rw [if_neg hb18, List.append_nil])
    · try simp only [Bool.not_eq_true', Bool.not_eq_false', decide_eq_true_eq, decide_eq_false_iff_not, Bool.and_eq_true, Bool.or_eq_true, Bool.and_eq_false_iff, Bool.or_eq_false_iff, Bool.not_not, u8_eq] at hb18
      refine wp_skip ?_
      refine hK8 _ _ ?_; try clear hK8 K8
      refine seq_any fun K12 hK12 => ?_
      refine region_plain (fun h => by cases h) hst4 hfr4 (by kernel_rfl) (by kernel_rfl) (.cons rfl (ob_move rfl) <|
          .cons rfl (ob_sadd rfl rfl (by first | omega | (simp only [List.length_append, List.length_cons, List.length_nil, List.length_map]; omega))) <|
          .cons rfl (ob_sadd rfl rfl (by first | omega | (simp only [List.length_append, List.length_cons, List.length_nil, List.length_map]; omega))) <|
          .cons rfl (ob_assign rfl) <|
          .nil) ?_
      intro a5 w5 m5 hst5 hle5 hk5
      have hfr5 := hk5.fr (T' := [(0, _), (1, _), (3, _), (2, _)]) (.old rfl rfl <| .old rfl rfl <| .old rfl rfl <| .new rfl <| .nil)
      replace h_r := h_r.mono hle5
      replace hs_r := hs_r.mono hle5
      replace hc1 := hc1.mono hle5
      replace hM := hM.trans hle5
      clear hst4 hfr4 hk5
      refine hK12 _ _ ?_; try clear hK12 K12
      refine wp_ret ?_
      repeat (with_reducible first | refine then_ret ?_ | refine block_ret ?_)
      exact fn_ret hst5 hfr5 rfl (.tmp rfl <| .nil) (by refine congrArg S ?_; unfold rowTextS; rw [if_neg hcc]; first | rw [if_pos hb18] | rw [if_neg hb18, List.append_nil])

abbrev text_G (t : Ty) : Prop := ∀ {w : World} {m : Mem} {vs_t : List Value} (hA : Agree w m) (h_t : TyR m t vs_t) (hT : Tab w) (hb : bulkT t ≤ 1073741824), FnV Tryd.prog 14 #[.agg vs_t.toArray] w m (fun _ _ v => v = S (textT t))
set_option maxHeartbeats 400000 in
theorem within_c {w : World} {m : Mem} {t : Ty} {vs_t : List Value} {o_ks : Option Addr} {c_ks : Nat} {ks : List Int} (hA : Agree w m) (h_t : TyR m t vs_t) (h_ks : Ints m o_ks ks.length c_ks ks) (hT : Tab w) (hp : text_G t) (hb : bulkT t ≤ 1073741824) : FnV Tryd.prog 34 #[.agg vs_t.toArray, .slice o_ks ks.length c_ks] w m (fun _ _ v => v = S (parS (decide (t.kind ∈ ks)) (textT t))) := by
  obtain ⟨o_t, c_t, oL_t, cL_t, rfl, hk_t, hs_t, hi_t, hj_t, hr_t⟩ := h_t.open_
  have hbg_t := hk_t.big; have hcp_t := hk_t.cap; have hbs_t := hs_t.big; have hcs_t := hs_t.cap
  have hrw_t : RwR _ ⟨t.labels, t.rv⟩ _ := ⟨_, _, rfl, hs_t, hr_t⟩
  have hb_ks := h_ks.big; have hc_ks := h_ks.cap
  refine fn_enter (vs := [_, _]) Tryd.func34 rfl rfl rfl fun a0 hfr0 => ?_
  have hst0 := st_enter hA (loc_nil [] _ w m)
  have hM : MLe m m := MLe.refl m
  have htl := TyR.text_len t h_t
  refine seq_any fun K1 hK1 => ?_
  refine region_plain (fun h => by cases h) hst0 hfr0 (by kernel_rfl) (by kernel_rfl) (.cons rfl (ob_box rfl rfl) <|
      .cons rfl (ob_assign rfl) <|
      .nil) ?_
  intro a1 w1 m1 hst1 hle1 hk1
  have hfr1 := hk1.fr (T' := [(0, _), (1, _), (4, _)]) (.old rfl rfl <| .old rfl rfl <| .new rfl <| .nil)
  obtain ⟨g2, e2, hc2⟩ := hk1.ex 2 rfl
  replace hfr1 := hfr1.cons e2
  replace h_t := h_t.mono hle1
  replace hk_t := hk_t.mono hle1
  replace hs_t := hs_t.mono hle1
  replace hrw_t := hrw_t.mono hle1
  replace h_ks := h_ks.mono hle1
  replace hM := hM.trans hle1
  clear hst0 hfr0 hk1
  refine hK1 _ _ ?_; try clear hK1 K1
  refine seq_any fun K3 hK3 => ?_
  refine region_plain (fun h => by cases h) hst1 hfr1 (by kernel_rfl) (by kernel_rfl) (.cons rfl (ob_loadS' rfl hc2 Tryd.isAgg27 Tryd.sizeOf27 rfl rfl) <|
      .cons rfl (ob_callE rfl (.cons rfl <| .nil) Tryd.call14 (fun w m hK => by have hle_ := KC.le hK; have hA := KC.agree hK; have hM := hM.trans hle_; have hT := tab_keep hT hK.st.ext; have h_t := h_t.mono hle_; exact hp hA h_t hT hb)) <|
      .cons rfl (ob_assign rfl) <|
      .nil) ?_
  intro a2 w2 m2 hst2 hle2 hk2
  have hfr2 := hk2.fr (T' := [(0, _), (1, _), (4, _), (2, _), (5, _)]) (.old rfl rfl <| .old rfl rfl <| .old rfl rfl <| .old rfl rfl <| .new rfl <| .nil)
  replace h_t := h_t.mono hle2
  replace hk_t := hk_t.mono hle2
  replace hs_t := hs_t.mono hle2
  replace hrw_t := hrw_t.mono hle2
  replace h_ks := h_ks.mono hle2
  replace hc2 := hc2.mono hle2
  replace hM := hM.trans hle2
  clear hst1 hfr1 hk2
  refine hK3 _ _ ?_; try clear hK3 K3
  refine seq_any fun K4 hK4 => ?_
  refine seq_any fun K5 hK5 => ?_
  refine region_plain (fun h => by cases h) hst2 hfr2 (by kernel_rfl) (by kernel_rfl) (.cons rfl (ob_move rfl) <|
      .cons rfl (ob_fieldAddr rfl Tryd.underlying27 rfl Tryd.sizeOf3 rfl) <|
      .cons rfl (ob_load1 rfl hc2 Tryd.isAgg3 rfl) <|
      .cons rfl (ob_callE rfl (.cons rfl <| .cons rfl <| .nil) Tryd.call53 (fun w m hK => by have hle_ := KC.le hK; have hA := KC.agree hK; have hM := hM.trans hle_; have hT := tab_keep hT hK.st.ext; have h_t := h_t.mono hle_; have hk_t := hk_t.mono hle_; have hs_t := hs_t.mono hle_; have hrw_t := hrw_t.mono hle_; have h_ks := h_ks.mono hle_; have hc2 := hc2.mono hle_; exact containsI_c hA (by first | assumption | omega | simp_all))) <|
      .nil) ?_
  intro a3 w3 m3 hst3 hle3 hk3
  have hfr3 := hk3.fr (T' := [(0, _), (1, _), (4, _), (2, _), (5, _), (11, _)]) (.old rfl rfl <| .old rfl rfl <| .old rfl rfl <| .old rfl rfl <| .old rfl rfl <| .new rfl <| .nil)
  replace h_t := h_t.mono hle3
  replace hk_t := hk_t.mono hle3
  replace hs_t := hs_t.mono hle3
  replace hrw_t := hrw_t.mono hle3
  replace h_ks := h_ks.mono hle3
  replace hc2 := hc2.mono hle3
  replace hM := hM.trans hle3
  clear hst2 hfr2 hk3
  refine hK5 _ _ ?_; try clear hK5 K5
  refine cond_any hfr3 rfl rfl (fun hb11 => ?_) (fun hb11 => ?_)
  · try simp only [Bool.not_eq_true', Bool.not_eq_false', decide_eq_true_eq, decide_eq_false_iff_not, Bool.and_eq_true, Bool.or_eq_true, Bool.and_eq_false_iff, Bool.or_eq_false_iff, Bool.not_not, u8_eq] at hb11
    refine seq_any fun K6 hK6 => ?_
    refine region_plain (fun h => by cases h) hst3 hfr3 (by kernel_rfl) (by kernel_rfl) (.cons rfl (ob_move rfl) <|
        .cons rfl (ob_sadd rfl rfl (by first | omega | (simp only [List.length_append, List.length_cons, List.length_nil, List.length_map]; omega))) <|
        .cons rfl (ob_sadd rfl rfl (by first | omega | (simp only [List.length_append, List.length_cons, List.length_nil, List.length_map]; omega))) <|
        .cons rfl (ob_assign rfl) <|
        .nil) ?_
    intro a4 w4 m4 hst4 hle4 hk4
    have hfr4 := hk4.fr (T' := [(0, _), (1, _), (2, _), (5, _), (4, _)]) (.old rfl rfl <| .old rfl rfl <| .old rfl rfl <| .old rfl rfl <| .new rfl <| .nil)
    replace h_t := h_t.mono hle4
    replace hk_t := hk_t.mono hle4
    replace hs_t := hs_t.mono hle4
    replace hrw_t := hrw_t.mono hle4
    replace h_ks := h_ks.mono hle4
    replace hc2 := hc2.mono hle4
    replace hM := hM.trans hle4
    clear hst3 hfr3 hk4
    refine hK6 _ _ ?_; try clear hK6 K6
    refine wp_ret ?_
    repeat (with_reducible first | refine then_ret ?_ | refine block_ret ?_)
    exact fn_ret hst4 hfr4 rfl (.tmp rfl <| .nil) (by refine congrArg S ?_; unfold parS; simp_all)
  · try simp only [Bool.not_eq_true', Bool.not_eq_false', decide_eq_true_eq, decide_eq_false_iff_not, Bool.and_eq_true, Bool.or_eq_true, Bool.and_eq_false_iff, Bool.or_eq_false_iff, Bool.not_not, u8_eq] at hb11
    refine wp_skip ?_
    refine hK4 _ _ ?_; try clear hK4 K4
    refine seq_any fun K8 hK8 => ?_
    refine region_plain (fun h => by cases h) hst3 hfr3 (by kernel_rfl) (by kernel_rfl) (.cons rfl (ob_move rfl) <|
        .cons rfl (ob_assign rfl) <|
        .nil) ?_
    intro a4 w4 m4 hst4 hle4 hk4
    have hfr4 := hk4.fr (T' := [(0, _), (1, _), (2, _), (5, _), (4, _)]) (.old rfl rfl <| .old rfl rfl <| .old rfl rfl <| .old rfl rfl <| .new rfl <| .nil)
    replace h_t := h_t.mono hle4
    replace hk_t := hk_t.mono hle4
    replace hs_t := hs_t.mono hle4
    replace hrw_t := hrw_t.mono hle4
    replace h_ks := h_ks.mono hle4
    replace hc2 := hc2.mono hle4
    replace hM := hM.trans hle4
    clear hst3 hfr3 hk4
    refine hK8 _ _ ?_; try clear hK8 K8
    refine wp_ret ?_
    repeat (with_reducible first | refine then_ret ?_ | refine block_ret ?_)
    exact fn_ret hst4 hfr4 rfl (.tmp rfl <| .nil) (by refine congrArg S ?_; unfold parS; simp_all)
set_option maxHeartbeats 400000 in
theorem text_s {t : Ty} (ih : ∀ u ∈ t.args, text_G u) {w : World} {m : Mem} {vs_t : List Value} (hA : Agree w m) (h_t : TyR m t vs_t) (hT : Tab w) (hb : bulkT t ≤ 1073741824) : FnV Tryd.prog 14 #[.agg vs_t.toArray] w m (fun _ _ v => v = S (textT t)) := by
  obtain ⟨o_t, c_t, oL_t, cL_t, rfl, hk_t, hs_t, hi_t, hj_t, hr_t⟩ := h_t.open_
  have hbg_t := hk_t.big; have hcp_t := hk_t.cap; have hbs_t := hs_t.big; have hcs_t := hs_t.cap
  have hrw_t : RwR _ ⟨t.labels, t.rv⟩ _ := ⟨_, _, rfl, hs_t, hr_t⟩
  refine fn_enter (vs := [_]) Tryd.func14 rfl rfl rfl fun a0 hfr0 => ?_
  have hst0 := st_enter hA (loc_nil [] _ w m)
  have hM : MLe m m := MLe.refl m
  have hbk := fun u (hu : u ∈ t.args) => bulkT_arg hu
  have hil := itoa_len hj_t
  have htl := TyR.text_len t h_t
  have hbe := bulkT_eq t
  refine seq_any fun K1 hK1 => ?_
  refine region_plain (fun h => by cases h) hst0 hfr0 (by kernel_rfl) (by kernel_rfl) (.cons rfl (ob_box rfl rfl) <|
      .cons rfl (ob_assign rfl) <|
      .nil) ?_
  intro a1 w1 m1 hst1 hle1 hk1
  have hfr1 := hk1.fr (T' := [(0, _), (2, _)]) (.old rfl rfl <| .new rfl <| .nil)
  obtain ⟨g2, e2, hc1⟩ := hk1.ex 1 rfl
  replace hfr1 := hfr1.cons e2
  replace h_t := h_t.mono hle1
  replace hk_t := hk_t.mono hle1
  replace hs_t := hs_t.mono hle1
  replace hrw_t := hrw_t.mono hle1
  replace hM := hM.trans hle1
  clear hst0 hfr0 hk1
  refine hK1 _ _ ?_; try clear hK1 K1
  refine seq_any fun K3 hK3 => ?_
  refine seq_any fun K4 hK4 => ?_
  refine region_plain (fun h => by cases h) hst1 hfr1 (by kernel_rfl) (by kernel_rfl) (.cons rfl (ob_fieldAddr rfl Tryd.underlying27 rfl Tryd.sizeOf3 rfl) <|
      .cons rfl (ob_load1 rfl hc1 Tryd.isAgg3 rfl) <|
      .nil) ?_
  intro a2 w2 m2 hst2 hle2 hk2
  have hfr2 := hk2.fr (T' := [(0, _), (2, _), (1, _), (4, _)]) (.old rfl rfl <| .old rfl rfl <| .old rfl rfl <| .new rfl <| .nil)
  replace h_t := h_t.mono hle2
  replace hk_t := hk_t.mono hle2
  replace hs_t := hs_t.mono hle2
  replace hrw_t := hrw_t.mono hle2
  replace hc1 := hc1.mono hle2
  replace hM := hM.trans hle2
  clear hst1 hfr1 hk2
  refine hK4 _ _ ?_; try clear hK4 K4
  refine wp_block ?_
  refine seq_any fun K5 hK5 => ?_
  refine region_plain (fun h => by cases h) hst2 hfr2 (by kernel_rfl) (by kernel_rfl) (.cons rfl (ob_eql rfl rfl) <|
      .cons rfl (ob_assign rfl) <|
      .nil) ?_
  intro a3 w3 m3 hst3 hle3 hk3
  have hfr3 := hk3.fr (T' := [(0, _), (2, _), (1, _), (4, _), (5, _)]) (.old rfl rfl <| .old rfl rfl <| .old rfl rfl <| .old rfl rfl <| .new rfl <| .nil)
  replace h_t := h_t.mono hle3
  replace hk_t := hk_t.mono hle3
  replace hs_t := hs_t.mono hle3
  replace hrw_t := hrw_t.mono hle3
  replace hc1 := hc1.mono hle3
  replace hM := hM.trans hle3
  clear hst2 hfr2 hk3
  refine hK5 _ _ ?_; try clear hK5 K5
  refine cond_any hfr3 rfl rfl (fun hb5 => ?_) (fun hb5 => ?_)
  · try simp only [Bool.not_eq_true', Bool.not_eq_false', decide_eq_true_eq, decide_eq_false_iff_not, Bool.and_eq_true, Bool.or_eq_true, Bool.and_eq_false_iff, Bool.or_eq_false_iff, Bool.not_not, u8_eq] at hb5
    refine seq_any fun K6 hK6 => ?_
    refine region_plain (fun h => by cases h) hst3 hfr3 (by kernel_rfl) (by kernel_rfl) (.cons rfl (ob_assign rfl) <|
        .nil) ?_
    intro a4 w4 m4 hst4 hle4 hk4
    have hfr4 := hk4.fr (T' := [(0, _), (1, _), (4, _), (2, _)]) (.old rfl rfl <| .old rfl rfl <| .old rfl rfl <| .new rfl <| .nil)
    replace h_t := h_t.mono hle4
    replace hk_t := hk_t.mono hle4
    replace hs_t := hs_t.mono hle4
    replace hrw_t := hrw_t.mono hle4
    replace hc1 := hc1.mono hle4
    replace hM := hM.trans hle4
    clear hst3 hfr3 hk4
    refine hK6 _ _ ?_; try clear hK6 K6
    refine wp_ret ?_
    repeat (with_reducible first | refine then_ret ?_ | refine block_ret ?_)
    exact fn_ret hst4 hfr4 rfl (.tmp rfl <| .nil) (by rw [textT_eq t, if_pos hb5]; rfl)
  · try simp only [Bool.not_eq_true', Bool.not_eq_false', decide_eq_true_eq, decide_eq_false_iff_not, Bool.and_eq_true, Bool.or_eq_true, Bool.and_eq_false_iff, Bool.or_eq_false_iff, Bool.not_not, u8_eq] at hb5
    refine seq_any fun K8 hK8 => ?_
    refine region_plain (fun h => by cases h) hst3 hfr3 (by kernel_rfl) (by kernel_rfl) (.cons rfl (ob_eql rfl rfl) <|
        .cons rfl (ob_assign rfl) <|
        .nil) ?_
    intro a4 w4 m4 hst4 hle4 hk4
    have hfr4 := hk4.fr (T' := [(0, _), (2, _), (1, _), (4, _), (7, _)]) (.old rfl rfl <| .old rfl rfl <| .old rfl rfl <| .old rfl rfl <| .new rfl <| .nil)
    replace h_t := h_t.mono hle4
    replace hk_t := hk_t.mono hle4
    replace hs_t := hs_t.mono hle4
    replace hrw_t := hrw_t.mono hle4
    replace hc1 := hc1.mono hle4
    replace hM := hM.trans hle4
    clear hst3 hfr3 hk4
    refine hK8 _ _ ?_; try clear hK8 K8
    refine cond_any hfr4 rfl rfl (fun hb7 => ?_) (fun hb7 => ?_)
    · try simp only [Bool.not_eq_true', Bool.not_eq_false', decide_eq_true_eq, decide_eq_false_iff_not, Bool.and_eq_true, Bool.or_eq_true, Bool.and_eq_false_iff, Bool.or_eq_false_iff, Bool.not_not, u8_eq] at hb7
      refine seq_any fun K9 hK9 => ?_
      refine region_plain (fun h => by cases h) hst4 hfr4 (by kernel_rfl) (by kernel_rfl) (.cons rfl (ob_assign rfl) <|
          .nil) ?_
      intro a5 w5 m5 hst5 hle5 hk5
      have hfr5 := hk5.fr (T' := [(0, _), (1, _), (4, _), (2, _)]) (.old rfl rfl <| .old rfl rfl <| .old rfl rfl <| .new rfl <| .nil)
      replace h_t := h_t.mono hle5
      replace hk_t := hk_t.mono hle5
      replace hs_t := hs_t.mono hle5
      replace hrw_t := hrw_t.mono hle5
      replace hc1 := hc1.mono hle5
      replace hM := hM.trans hle5
      clear hst4 hfr4 hk5
      refine hK9 _ _ ?_; try clear hK9 K9
      refine wp_ret ?_
      repeat (with_reducible first | refine then_ret ?_ | refine block_ret ?_)
      exact fn_ret hst5 hfr5 rfl (.tmp rfl <| .nil) (by rw [textT_eq t, if_neg hb5, if_pos hb7]; rfl)
    · try simp only [Bool.not_eq_true', Bool.not_eq_false', decide_eq_true_eq, decide_eq_false_iff_not, Bool.and_eq_true, Bool.or_eq_true, Bool.and_eq_false_iff, Bool.or_eq_false_iff, Bool.not_not, u8_eq] at hb7
      refine seq_any fun K11 hK11 => ?_
      refine region_plain (fun h => by cases h) hst4 hfr4 (by kernel_rfl) (by kernel_rfl) (.cons rfl (ob_eql rfl rfl) <|
          .cons rfl (ob_assign rfl) <|
          .nil) ?_
      intro a5 w5 m5 hst5 hle5 hk5
      have hfr5 := hk5.fr (T' := [(0, _), (2, _), (1, _), (4, _), (9, _)]) (.old rfl rfl <| .old rfl rfl <| .old rfl rfl <| .old rfl rfl <| .new rfl <| .nil)
      replace h_t := h_t.mono hle5
      replace hk_t := hk_t.mono hle5
      replace hs_t := hs_t.mono hle5
      replace hrw_t := hrw_t.mono hle5
      replace hc1 := hc1.mono hle5
      replace hM := hM.trans hle5
      clear hst4 hfr4 hk5
      refine hK11 _ _ ?_; try clear hK11 K11
      refine cond_any hfr5 rfl rfl (fun hb9 => ?_) (fun hb9 => ?_)
      · try simp only [Bool.not_eq_true', Bool.not_eq_false', decide_eq_true_eq, decide_eq_false_iff_not, Bool.and_eq_true, Bool.or_eq_true, Bool.and_eq_false_iff, Bool.or_eq_false_iff, Bool.not_not, u8_eq] at hb9
        refine seq_any fun K12 hK12 => ?_
        refine region_plain (fun h => by cases h) hst5 hfr5 (by kernel_rfl) (by kernel_rfl) (.cons rfl (ob_assign rfl) <|
            .nil) ?_
        intro a6 w6 m6 hst6 hle6 hk6
        have hfr6 := hk6.fr (T' := [(0, _), (1, _), (4, _), (2, _)]) (.old rfl rfl <| .old rfl rfl <| .old rfl rfl <| .new rfl <| .nil)
        replace h_t := h_t.mono hle6
        replace hk_t := hk_t.mono hle6
        replace hs_t := hs_t.mono hle6
        replace hrw_t := hrw_t.mono hle6
        replace hc1 := hc1.mono hle6
        replace hM := hM.trans hle6
        clear hst5 hfr5 hk6
        refine hK12 _ _ ?_; try clear hK12 K12
        refine wp_ret ?_
        repeat (with_reducible first | refine then_ret ?_ | refine block_ret ?_)
        exact fn_ret hst6 hfr6 rfl (.tmp rfl <| .nil) (by rw [textT_eq t, if_neg hb5, if_neg hb7, if_pos hb9]; rfl)
      · try simp only [Bool.not_eq_true', Bool.not_eq_false', decide_eq_true_eq, decide_eq_false_iff_not, Bool.and_eq_true, Bool.or_eq_true, Bool.and_eq_false_iff, Bool.or_eq_false_iff, Bool.not_not, u8_eq] at hb9
        refine seq_any fun K14 hK14 => ?_
        refine region_plain (fun h => by cases h) hst5 hfr5 (by kernel_rfl) (by kernel_rfl) (.cons rfl (ob_eql rfl rfl) <|
            .cons rfl (ob_assign rfl) <|
            .nil) ?_
        intro a6 w6 m6 hst6 hle6 hk6
        have hfr6 := hk6.fr (T' := [(0, _), (2, _), (1, _), (4, _), (11, _)]) (.old rfl rfl <| .old rfl rfl <| .old rfl rfl <| .old rfl rfl <| .new rfl <| .nil)
        replace h_t := h_t.mono hle6
        replace hk_t := hk_t.mono hle6
        replace hs_t := hs_t.mono hle6
        replace hrw_t := hrw_t.mono hle6
        replace hc1 := hc1.mono hle6
        replace hM := hM.trans hle6
        clear hst5 hfr5 hk6
        refine hK14 _ _ ?_; try clear hK14 K14
        refine cond_any hfr6 rfl rfl (fun hb11 => ?_) (fun hb11 => ?_)
        · try simp only [Bool.not_eq_true', Bool.not_eq_false', decide_eq_true_eq, decide_eq_false_iff_not, Bool.and_eq_true, Bool.or_eq_true, Bool.and_eq_false_iff, Bool.or_eq_false_iff, Bool.not_not, u8_eq] at hb11
          refine seq_any fun K15 hK15 => ?_
          refine region_plain (fun h => by cases h) hst6 hfr6 (by kernel_rfl) (by kernel_rfl) (.cons rfl (ob_fieldAddr rfl Tryd.underlying27 rfl Tryd.sizeOf3 rfl) <|
              .cons rfl (ob_load1 rfl hc1 Tryd.isAgg3 rfl) <|
              .cons rfl (ob_callE rfl (.cons rfl <| .nil) Tryd.call33 (fun w m hK => by have hle_ := KC.le hK; have hA := KC.agree hK; have hM := hM.trans hle_; have hT := tab_keep hT hK.st.ext; have h_t := h_t.mono hle_; have hk_t := hk_t.mono hle_; have hs_t := hs_t.mono hle_; have hrw_t := hrw_t.mono hle_; have hc1 := hc1.mono hle_; exact itoa_c hA hT (by assumption))) <|
              .cons rfl (ob_sadd rfl rfl (by first | omega | (simp only [List.length_append, List.length_cons, List.length_nil, List.length_map]; omega))) <|
              .cons rfl (ob_assign rfl) <|
              .nil) ?_
          intro a7 w7 m7 hst7 hle7 hk7
          have hfr7 := hk7.fr (T' := [(0, _), (1, _), (4, _), (2, _)]) (.old rfl rfl <| .old rfl rfl <| .old rfl rfl <| .new rfl <| .nil)
          replace h_t := h_t.mono hle7
          replace hk_t := hk_t.mono hle7
          replace hs_t := hs_t.mono hle7
          replace hrw_t := hrw_t.mono hle7
          replace hc1 := hc1.mono hle7
          replace hM := hM.trans hle7
          clear hst6 hfr6 hk7
          refine hK15 _ _ ?_; try clear hK15 K15
          refine wp_ret ?_
          repeat (with_reducible first | refine then_ret ?_ | refine block_ret ?_)
          exact fn_ret hst7 hfr7 rfl (.tmp rfl <| .nil) (by rw [textT_eq t, if_neg hb5, if_neg hb7, if_neg hb9, if_pos hb11]; rfl)
        · try simp only [Bool.not_eq_true', Bool.not_eq_false', decide_eq_true_eq, decide_eq_false_iff_not, Bool.and_eq_true, Bool.or_eq_true, Bool.and_eq_false_iff, Bool.or_eq_false_iff, Bool.not_not, u8_eq] at hb11
          refine wp_skip ?_
          refine hK3 _ _ ?_; try clear hK3 K3
          refine seq_any fun K17 hK17 => ?_
          refine wp_block ?_
          refine seq_any fun K18 hK18 => ?_
          refine region_plain (fun h => by cases h) hst6 hfr6 (by kernel_rfl) (by kernel_rfl) (.cons rfl (ob_fieldAddr rfl Tryd.underlying27 rfl Tryd.sizeOf3 rfl) <|
              .cons rfl (ob_load1 rfl hc1 Tryd.isAgg3 rfl) <|
              .cons rfl (ob_eql rfl rfl) <|
              .cons rfl (ob_move rfl) <|
              .cons rfl (ob_fieldAddr rfl Tryd.underlying27 rfl Tryd.sizeOf22 rfl) <|
              .cons rfl (ob_load1 rfl hc1 Tryd.isAgg22 rfl) <|
              .cons rfl (ob_len rfl Tryd.underlying22) <|
              .cons rfl (ob_eql rfl rfl) <|
              .cons rfl (ob_and rfl rfl rfl) <|
              .cons rfl (ob_assign rfl) <|
              .nil) ?_
          intro a7 w7 m7 hst7 hle7 hk7
          have hfr7 := hk7.fr (T' := [(0, _), (2, _), (1, _), (4, _), (17, _)]) (.old rfl rfl <| .old rfl rfl <| .old rfl rfl <| .old rfl rfl <| .new rfl <| .nil)
          replace h_t := h_t.mono hle7
          replace hk_t := hk_t.mono hle7
          replace hs_t := hs_t.mono hle7
          replace hrw_t := hrw_t.mono hle7
          replace hc1 := hc1.mono hle7
          replace hM := hM.trans hle7
          clear hst6 hfr6 hk7
          refine hK18 _ _ ?_; try clear hK18 K18
          refine cond_any hfr7 rfl rfl (fun hb17 => ?_) (fun hb17 => ?_)
          · try simp only [Bool.not_eq_true', Bool.not_eq_false', decide_eq_true_eq, decide_eq_false_iff_not, Bool.and_eq_true, Bool.or_eq_true, Bool.and_eq_false_iff, Bool.or_eq_false_iff, Bool.not_not, u8_eq] at hb17
            obtain ⟨x0, hx0⟩ := list1 (l := t.args) (by omega)
            refine seq_any fun K19 hK19 => ?_
            obtain ⟨p20, vs20, x20, ho20, hd20, hm_x20, ht20, hcv20, hl20, hv20⟩ := hk_t.nth (k := 0) (by omega)
            cases ho20
            obtain ⟨o20, c20, oL20, cL20, rfl, hkd20, hs20, hi20, hj20, hr20⟩ := hv20.open_
            have hbg20 := hkd20.big; have hcp20 := hkd20.cap; have hbs20 := hs20.big; have hcs20 := hs20.cap
            have hrw20 : RwR _ ⟨x20.labels, x20.rv⟩ _ := ⟨_, _, rfl, hs20, hr20⟩
            refine region_plain (fun h => by cases h) hst7 hfr7 (by kernel_rfl) (by kernel_rfl) (.cons rfl (ob_fieldAddr rfl Tryd.underlying27 rfl Tryd.sizeOf22 rfl) <|
                .cons rfl (ob_load1 rfl hc1 Tryd.isAgg22 rfl) <|
                .cons rfl (ob_indexAddr (k := 0) rfl rfl Tryd.underlying22 Tryd.sizeOf27 rfl (by omega)) <|
                .cons rfl (ob_loadS' rfl hcv20 Tryd.isAgg27 Tryd.sizeOf27 rfl rfl) <|
                .cons rfl (ob_buildSlice (.cons rfl <| .cons rfl <| .nil) Tryd.underlying35 Tryd.sizeOf3 Tryd.zeroValue3 rfl rfl rfl rfl) <|
                .cons rfl (ob_imgE 31 rfl rfl rfl fun y31 => ob_callE rfl (.cons rfl <| .cons rfl <| .nil) Tryd.call34 (fun w m hK => by have hle_ := KC.le hK; have hA := KC.agree hK; have hM := hM.trans hle_; have hT := tab_keep hT hK.1.st.ext; have hr0_ := hK.2; have h_t := h_t.mono hle_; have hk_t := hk_t.mono hle_; have hs_t := hs_t.mono hle_; have hrw_t := hrw_t.mono hle_; have hc1 := hc1.mono hle_; have hcv20 := hcv20.mono hle_; have hv20 := hv20.mono hle_; have hkd20 := hkd20.mono hle_; have hs20 := hs20.mono hle_; have hrw20 := hrw20.mono hle_; exact within_c (ks := [5, 6]) hA (by assumption) (Sl.two (vs := [_]) (us := [_]) hr0_ rfl rfl rfl rfl) hT (ih _ (by assumption)) (Nat.le_trans (hbk _ (by assumption)) hb))) <|
                .cons rfl (ob_sadd rfl rfl (by have h1 := parS_len (decide (x20.kind ∈ [5, 6])) (textT x20); have h2 := TyR.text_len x20 hv20; have h3 := hbk _ hm_x20; simp only [List.length_cons, List.length_nil]; omega)) <|
                .cons rfl (ob_assign rfl) <|
                .nil) ?_
            intro a8 w8 m8 hst8 hle8 hk8
            have hfr8 := hk8.fr (T' := [(0, _), (1, _), (4, _), (2, _)]) (.old rfl rfl <| .old rfl rfl <| .old rfl rfl <| .new rfl <| .nil)
            replace h_t := h_t.mono hle8
            replace hk_t := hk_t.mono hle8
            replace hs_t := hs_t.mono hle8
            replace hrw_t := hrw_t.mono hle8
            replace hc1 := hc1.mono hle8
            replace hcv20 := hcv20.mono hle8
            replace hv20 := hv20.mono hle8
            replace hkd20 := hkd20.mono hle8
            replace hs20 := hs20.mono hle8
            replace hrw20 := hrw20.mono hle8
            replace hM := hM.trans hle8
            clear hst7 hfr7 hk8
            have e0 : x0 = x20 := by have h := hd20; rw [hx0] at h; simpa using h
            subst e0
            refine hK19 _ _ ?_; try clear hK19 K19
            refine wp_ret ?_
            repeat (with_reducible first | refine then_ret ?_ | refine block_ret ?_)
            exact fn_ret hst8 hfr8 rfl (.tmp rfl <| .nil) (by rw [textT_eq t, if_neg hb5, if_neg hb7, if_neg hb9, if_neg hb11, hx0, textTs_one, if_pos hb17.1]; simp [bundle])
          · try simp only [Bool.not_eq_true', Bool.not_eq_false', decide_eq_true_eq, decide_eq_false_iff_not, Bool.and_eq_true, Bool.or_eq_true, Bool.and_eq_false_iff, Bool.or_eq_false_iff, Bool.not_not, u8_eq] at hb17
            refine seq_any fun K22 hK22 => ?_
            refine region_plain (fun h => by cases h) hst7 hfr7 (by kernel_rfl) (by kernel_rfl) (.cons rfl (ob_fieldAddr rfl Tryd.underlying27 rfl Tryd.sizeOf3 rfl) <|
                .cons rfl (ob_load1 rfl hc1 Tryd.isAgg3 rfl) <|
                .cons rfl (ob_eql rfl rfl) <|
                .cons rfl (ob_move rfl) <|
                .cons rfl (ob_fieldAddr rfl Tryd.underlying27 rfl Tryd.sizeOf22 rfl) <|
                .cons rfl (ob_load1 rfl hc1 Tryd.isAgg22 rfl) <|
                .cons rfl (ob_len rfl Tryd.underlying22) <|
                .cons rfl (ob_eql rfl rfl) <|
                .cons rfl (ob_and rfl rfl rfl) <|
                .cons rfl (ob_assign rfl) <|
                .nil) ?_
            intro a8 w8 m8 hst8 hle8 hk8
            have hfr8 := hk8.fr (T' := [(0, _), (2, _), (1, _), (4, _), (34, _)]) (.old rfl rfl <| .old rfl rfl <| .old rfl rfl <| .old rfl rfl <| .new rfl <| .nil)
            replace h_t := h_t.mono hle8
            replace hk_t := hk_t.mono hle8
            replace hs_t := hs_t.mono hle8
            replace hrw_t := hrw_t.mono hle8
            replace hc1 := hc1.mono hle8
            replace hM := hM.trans hle8
            clear hst7 hfr7 hk8
            refine hK22 _ _ ?_; try clear hK22 K22
            refine cond_any hfr8 rfl rfl (fun hb34 => ?_) (fun hb34 => ?_)
            · try simp only [Bool.not_eq_true', Bool.not_eq_false', decide_eq_true_eq, decide_eq_false_iff_not, Bool.and_eq_true, Bool.or_eq_true, Bool.and_eq_false_iff, Bool.or_eq_false_iff, Bool.not_not, u8_eq] at hb34
              obtain ⟨x0, z0, hx0⟩ := list2 (l := t.args) (by omega)
              refine seq_any fun K23 hK23 => ?_
              obtain ⟨p24, vs24, x24, ho24, hd24, hm_x24, ht24, hcv24, hl24, hv24⟩ := hk_t.nth (k := 0) (by omega)
              cases ho24
              obtain ⟨o24, c24, oL24, cL24, rfl, hkd24, hs24, hi24, hj24, hr24⟩ := hv24.open_
              have hbg24 := hkd24.big; have hcp24 := hkd24.cap; have hbs24 := hs24.big; have hcs24 := hs24.cap
              have hrw24 : RwR _ ⟨x24.labels, x24.rv⟩ _ := ⟨_, _, rfl, hs24, hr24⟩
              obtain ⟨p25, vs25, x25, ho25, hd25, hm_x25, ht25, hcv25, hl25, hv25⟩ := hk_t.nth (k := 1) (by omega)
              cases ho25
              obtain ⟨o25, c25, oL25, cL25, rfl, hkd25, hs25, hi25, hj25, hr25⟩ := hv25.open_
              have hbg25 := hkd25.big; have hcp25 := hkd25.cap; have hbs25 := hs25.big; have hcs25 := hs25.cap
              have hrw25 : RwR _ ⟨x25.labels, x25.rv⟩ _ := ⟨_, _, rfl, hs25, hr25⟩
              refine region_plain (fun _ => mixed) hst8 hfr8 (by kernel_rfl) (by kernel_rfl) (.cons rfl (ob_fieldAddr rfl Tryd.underlying27 rfl Tryd.sizeOf22 rfl) <|
                  .cons rfl (ob_load1 rfl hc1 Tryd.isAgg22 rfl) <|
                  .cons rfl (ob_indexAddr (k := 0) rfl rfl Tryd.underlying22 Tryd.sizeOf27 rfl (by omega)) <|
                  .cons rfl (ob_loadS' rfl hcv24 Tryd.isAgg27 Tryd.sizeOf27 rfl rfl) <|
                  .cons rfl (ob_buildSlice (.cons rfl <| .nil) Tryd.underlying35 Tryd.sizeOf3 Tryd.zeroValue3 rfl rfl rfl rfl) <|
                  .cons rfl (ob_imgE 48 rfl rfl rfl fun y48 => ob_callE rfl (.cons rfl <| .cons rfl <| .nil) Tryd.call34 (fun w m hK => by have hle_ := KC.le hK; have hA := KC.agree hK; have hM := hM.trans hle_; have hT := tab_keep hT hK.1.st.ext; have hr0_ := hK.2; have h_t := h_t.mono hle_; have hk_t := hk_t.mono hle_; have hs_t := hs_t.mono hle_; have hrw_t := hrw_t.mono hle_; have hc1 := hc1.mono hle_; have hcv24 := hcv24.mono hle_; have hv24 := hv24.mono hle_; have hkd24 := hkd24.mono hle_; have hs24 := hs24.mono hle_; have hrw24 := hrw24.mono hle_; exact within_c (ks := [5]) hA (by assumption) (Sl.one hr0_ rfl rfl) hT (ih _ (by assumption)) (Nat.le_trans (hbk _ (by assumption)) hb))) <|
                  .cons rfl (ob_sadd rfl rfl (by have h1 := parS_len (decide (x24.kind ∈ [5])) (textT x24); have h2 := TyR.text_len x24 hv24; have h3 := hbk _ hm_x24; have h4 := rowTextS_len (ls := t.labels) hr_t; simp only [List.length_append, List.length_cons, List.length_nil]; omega)) <|
                  .cons rfl (ob_fieldAddr rfl Tryd.underlying27 rfl Tryd.sizeOf25 rfl) <|
                  .cons rfl (ob_loadS rfl hc1 Tryd.isAgg25 Tryd.sizeOf25 rfl rfl) <|
                  .cons rfl (ob_callE rfl (.cons rfl <| .nil) Tryd.call35 (fun w m hK => by have hle_ := KC.le hK; have hA := KC.agree hK; have hM := hM.trans hle_; have hT := tab_keep hT hK.st.ext; have hrw_t := hrw_t.mono hle_; exact rowtext_c (r := ⟨t.labels, t.rv⟩) hA hrw_t hT (by show lensS t.labels ≤ _; omega))) <|
                  .cons rfl (ob_sadd rfl rfl (by have h1 := parS_len (decide (x24.kind ∈ [5])) (textT x24); have h2 := TyR.text_len x24 hv24; have h3 := hbk _ hm_x24; have h4 := rowTextS_len (ls := t.labels) hr_t; simp only [List.length_append, List.length_cons, List.length_nil]; omega)) <|
                  .cons rfl (ob_fieldAddr rfl Tryd.underlying27 rfl Tryd.sizeOf22 rfl) <|
                  .cons rfl (ob_load1 rfl hc1 Tryd.isAgg22 rfl) <|
                  .cons rfl (ob_indexAddr (k := 1) rfl rfl Tryd.underlying22 Tryd.sizeOf27 rfl (by omega)) <|
                  .cons rfl (ob_loadS' rfl hcv25 Tryd.isAgg27 Tryd.sizeOf27 rfl rfl) <|
                  .cons rfl (ob_callE rfl (.cons rfl <| .nil) Tryd.call14 (fun w m hK => by have hle_ := KC.le hK; have hA := KC.agree hK; have hM := hM.trans hle_; have hT := tab_keep hT hK.st.ext; have h_t := h_t.mono hle_; have hk_t := hk_t.mono hle_; have hs_t := hs_t.mono hle_; have hrw_t := hrw_t.mono hle_; have hc1 := hc1.mono hle_; have hcv24 := hcv24.mono hle_; have hv24 := hv24.mono hle_; have hkd24 := hkd24.mono hle_; have hs24 := hs24.mono hle_; have hrw24 := hrw24.mono hle_; have hcv25 := hcv25.mono hle_; have hv25 := hv25.mono hle_; have hkd25 := hkd25.mono hle_; have hs25 := hs25.mono hle_; have hrw25 := hrw25.mono hle_; exact ih _ (by assumption) hA hv25 hT (Nat.le_trans (hbk _ (by assumption)) hb))) <|
                  .cons rfl (ob_sadd rfl rfl (by have h1 := parS_len (decide (x24.kind ∈ [5])) (textT x24); have h2 := TyR.text_len x24 hv24; have h3 := hbk _ hm_x24; have h4 := rowTextS_len (ls := t.labels) hr_t; have h5 := TyR.text_len x25 hv25; have h6 := hbk _ hm_x25; simp only [List.length_append, List.length_cons, List.length_nil]; omega)) <|
                  .cons rfl (ob_assign rfl) <|
                  .nil) ?_
              intro a9 w9 m9 hst9 hle9 hk9
              have hfr9 := hk9.fr (T' := [(0, _), (1, _), (4, _), (2, _)]) (.old rfl rfl <| .old rfl rfl <| .old rfl rfl <| .new rfl <| .nil)
              replace h_t := h_t.mono hle9
              replace hk_t := hk_t.mono hle9
              replace hs_t := hs_t.mono hle9
              replace hrw_t := hrw_t.mono hle9
              replace hc1 := hc1.mono hle9
              replace hcv24 := hcv24.mono hle9
              replace hv24 := hv24.mono hle9
              replace hkd24 := hkd24.mono hle9
              replace hs24 := hs24.mono hle9
              replace hrw24 := hrw24.mono hle9
              replace hcv25 := hcv25.mono hle9
              replace hv25 := hv25.mono hle9
              replace hkd25 := hkd25.mono hle9
              replace hs25 := hs25.mono hle9
              replace hrw25 := hrw25.mono hle9
              replace hM := hM.trans hle9
              clear hst8 hfr8 hk9
              have e0 : x0 = x24 := by have h := hd24; rw [hx0] at h; simp at h; exact h
              have e1_ : z0 = x25 := by have h := hd25; rw [hx0] at h; simp at h; exact h
              subst e0; subst e1_
              refine hK23 _ _ ?_; try clear hK23 K23
              refine wp_ret ?_
              repeat (with_reducible first | refine then_ret ?_ | refine block_ret ?_)
              exact fn_ret hst9 hfr9 rfl (.tmp rfl <| .nil) (by rw [textT_eq t, if_neg hb5, if_neg hb7, if_neg hb9, if_neg hb11, hx0, textTs_two, if_pos hb34.1]; simp [bundle])
            · try simp only [Bool.not_eq_true', Bool.not_eq_false', decide_eq_true_eq, decide_eq_false_iff_not, Bool.and_eq_true, Bool.or_eq_true, Bool.and_eq_false_iff, Bool.or_eq_false_iff, Bool.not_not, u8_eq] at hb34
              refine wp_skip ?_
              refine hK17 _ _ ?_; try clear hK17 K17
              refine seq_any fun K27 hK27 => ?_
              refine region_plain (fun h => by cases h) hst8 hfr8 (by kernel_rfl) (by kernel_rfl) (.cons rfl (ob_fieldAddr rfl Tryd.underlying27 rfl Tryd.sizeOf9 rfl) <|
                  .cons rfl (ob_load1 rfl hc1 Tryd.isAgg9 rfl) <|
                  .cons rfl (ob_assign rfl) <|
                  .nil) ?_
              intro a9 w9 m9 hst9 hle9 hk9
              have hfr9 := hk9.fr (T' := [(0, _), (1, _), (4, _), (2, _)]) (.old rfl rfl <| .old rfl rfl <| .old rfl rfl <| .new rfl <| .nil)
              replace h_t := h_t.mono hle9
              replace hk_t := hk_t.mono hle9
              replace hs_t := hs_t.mono hle9
              replace hrw_t := hrw_t.mono hle9
              replace hc1 := hc1.mono hle9
              replace hM := hM.trans hle9
              clear hst8 hfr8 hk9
              refine hK27 _ _ ?_; try clear hK27 K27
              refine wp_ret ?_
              repeat (with_reducible first | refine then_ret ?_ | refine block_ret ?_)
              exact fn_ret hst9 hfr9 rfl (.tmp rfl <| .nil) (by rw [textT_eq t, if_neg hb5, if_neg hb7, if_neg hb9, if_neg hb11, textTs_other (by omega) (by omega)]; rfl)
theorem text_c (t : Ty) : text_G t := Ty.rec_ (p := text_G) (fun t ih => text_s ih) t

end Go.Proofs.YtembdjghbphcdaaDoor
