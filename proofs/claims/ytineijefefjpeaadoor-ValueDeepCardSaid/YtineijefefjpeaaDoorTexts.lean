/-
  Texts of values, of the program and of the document; what may be, by the document. Conditions: those of each theorem.
-/
import Derived.Test.YtineijefefjpeaaDoorTrees
import Derived.Test.YtineijefefjpeaaDoorLib1
namespace Go.Proofs.YtineijefefjpeaaDoor
set_option linter.all false
open Go.RowKit
open Go.Lib (itoa formatBool decDigits)
theorem dec_eq (n : Nat) : decDigits n = if n < 10 then [UInt8.ofNat (48 + n)] else decDigits (n / 10) ++ [UInt8.ofNat (48 + n % 10)] := by
  rw [decDigits]; split <;> rfl
theorem dec_len : ∀ (k n : Nat), n < 10 ^ (k + 1) → (decDigits n).length ≤ k + 1
  | 0, n, h => by rw [dec_eq, if_pos (by simpa using h)]; simp
  | k + 1, n, h => by
    rw [dec_eq]
    split
    · simp
    · have := dec_len k (n / 10) (by rw [Nat.pow_succ] at h; omega)
      simp only [List.length_append, List.length_cons, List.length_nil]; omega
theorem dec_len20 {n : Nat} (h : n ≤ 9223372036854775808) : (decDigits n).length ≤ 20 := dec_len 19 n (by omega)
theorem itoa_len {n : Int} (h : InI64 n) : (itoa n).length ≤ 21 := by
  obtain ⟨h1, h2⟩ := h
  unfold itoa; split
  · have := dec_len20 (n := n.natAbs) (by omega)
    simp only [List.length_cons]; omega
  · have := dec_len20 (n := n.toNat) (by omega); omega
theorem digit_byte {k : Nat} (h : k < 10) : UInt8.ofNat (IntKind.u8.wrap (48 + (k : Int))).toNat = UInt8.ofNat (48 + k) := by
  have : k = 0 ∨ k = 1 ∨ k = 2 ∨ k = 3 ∨ k = 4 ∨ k = 5 ∨ k = 6 ∨ k = 7 ∨ k = 8 ∨ k = 9 := by omega
  rcases this with rfl | rfl | rfl | rfl | rfl | rfl | rfl | rfl | rfl | rfl <;> rfl
def textB (k n : Int) (s : Str) (kt : List Str) : Str :=
  if k = 1 then itoa n else if k = 2 then formatBool (decide (n = 1)) else if k = 3 then [40, 41] else if k = 6 then [102, 117, 110] else if k = 5 then [114, 101, 102] ++ itoa n
  else if kt.length = 0 then s else s ++ [40] ++ Go.Lib.join kt [44, 32] ++ [41]
mutual
def textV : VT → Str
  | ⟨k, n, s, ks⟩ => textB k n s (textL ks)
def textL : List VT → List Str
  | [] => []
  | t :: ts => textV t :: textL ts
end
theorem textL_eq : ∀ l, textL l = l.map textV
  | [] => rfl
  | t :: ts => by rw [textL, textL_eq ts]; rfl
theorem textV_eq (t : VT) : textV t = textB t.kind t.n t.name (t.kids.map textV) := by obtain ⟨k, n, s, ks⟩ := t; rw [textV, textL_eq]; rfl
mutual
def bulkV : VT → Nat
  | ⟨_, _, s, ks⟩ => 1 + s.length + bulkL ks
def bulkL : List VT → Nat
  | [] => 0
  | t :: ts => bulkV t + bulkL ts
end
theorem bulkV_eq (t : VT) : bulkV t = 1 + t.name.length + bulkL t.kids := by obtain ⟨k, n, s, ks⟩ := t; rw [bulkV]; rfl
theorem bulkV_pos (t : VT) : 1 ≤ bulkV t := by rw [bulkV_eq]; omega
theorem bulkL_mem : ∀ {l : List VT} {u : VT}, u ∈ l → bulkV u ≤ bulkL l
  | t :: ts, u, h => by
    rw [bulkL]
    rcases List.mem_cons.1 h with rfl | h
    · omega
    · have := bulkL_mem h; omega
theorem bulkL_len : ∀ (l : List VT), l.length ≤ bulkL l
  | [] => by simp
  | t :: ts => by rw [bulkL, List.length_cons]; have := bulkL_len ts; have := bulkV_pos t; omega
theorem bulk_kid {t u : VT} (h : u ∈ t.kids) : bulkV u ≤ bulkV t := by rw [bulkV_eq t]; have := bulkL_mem h; omega
theorem bulk_kids (t : VT) : t.kids.length ≤ bulkV t := by rw [bulkV_eq t]; have := bulkL_len t.kids; omega
theorem join_two (x y : Str) (l : List Str) (sep : Str) : Go.Lib.join (x :: y :: l) sep = x ++ sep ++ Go.Lib.join (y :: l) sep := by simp [Go.Lib.join, List.intercalate, List.intersperse]
theorem join_len (l : List Str) : (Go.Lib.join l [44, 32]).length ≤ (l.map fun x => x.length + 2).sum := by
  induction l with
  | nil => simp [Go.Lib.join]
  | cons x l ih =>
    cases l with
    | nil => simp [Go.Lib.join]
    | cons y l => rw [join_two]; simp only [List.length_append, List.map_cons, List.sum_cons, List.length_cons, List.length_nil] at ih ⊢; omega
theorem join_snoc (l : List Str) (x : Str) (h : l ≠ []) : Go.Lib.join (l ++ [x]) [44, 32] = Go.Lib.join l [44, 32] ++ [44, 32] ++ x := by
  induction l with
  | nil => exact absurd rfl h
  | cons y l ih =>
    cases l with
    | nil => simp [Go.Lib.join, List.intercalate]
    | cons z l => rw [List.cons_append, List.cons_append, join_two, join_two, ← List.cons_append, ih (by simp)]; simp
theorem text_len (t : VT) (hn : True) : True := trivial
/-- All numbers are of int's range. -/
theorem kids_sum {l : List VT} (h : ∀ u ∈ l, (textV u).length + 2 ≤ 26 * bulkV u) : ((l.map textV).map fun x => x.length + 2).sum ≤ 26 * bulkL l := by
  induction l with
  | nil => simp
  | cons t ts ih =>
    have h1 := h t (.head _)
    have h2 := ih fun u hu => h u (.tail _ hu)
    simp only [List.map_cons, List.sum_cons, bulkL] at h2 ⊢; omega
/-- The value's numbers are of int's range. -/
def Num (t : VT) : Prop := InI64 t.n ∧ InI64 t.kind
theorem VR.text_len {m : Mem} : ∀ (t : VT) {vs : List Value}, VR m t vs → (textV t).length + 2 ≤ 26 * bulkV t := by
  intro t
  induction t using VT.rec_ with
  | h t ih =>
    intro vs h
    obtain ⟨o, c, rfl, hk, hi, hj⟩ := h.open_
    have h1 : ∀ u ∈ t.kids, (textV u).length + 2 ≤ 26 * bulkV u := fun u hu => by
      obtain ⟨i, hi', e⟩ := List.mem_iff_getElem.1 hu
      obtain ⟨p, vs, _, _, _, hv⟩ := hk.at_ i u (by rw [List.getElem?_eq_getElem hi', e])
      exact ih u hu hv
    have h2 := kids_sum h1
    have h3 := join_len (t.kids.map textV)
    have h4 := itoa_len hj
    have h5 := bulkV_eq t
    have h6 : (formatBool (decide (t.n = 1))).length ≤ 5 := by cases decide (t.n = 1) <;> decide
    rw [textV_eq]; unfold textB
    split; omega
    split; omega
    split; simp; omega
    split; simp; omega
    split; simp; omega
    split; omega
    simp only [List.length_append, List.length_cons, List.length_nil]; omega
mutual
/-- Each text within is no longer than a slice may be, and no value has too many kids. -/
def fitV : VT → Prop
  | ⟨k, n, s, ks⟩ => (textV ⟨k, n, s, ks⟩).length ≤ 140737488355328 ∧ ks.length ≤ 1073741824 ∧ fitL ks
def fitL : List VT → Prop
  | [] => True
  | t :: ts => fitV t ∧ fitL ts
end
theorem fitV_eq (t : VT) : fitV t = ((textV t).length ≤ 140737488355328 ∧ t.kids.length ≤ 1073741824 ∧ fitL t.kids) := by obtain ⟨k, n, s, ks⟩ := t; rw [fitV]; rfl
theorem fitL_mem : ∀ {l : List VT} {u : VT}, u ∈ l → fitL l → fitV u
  | t :: ts, u, h, hf => by
    rw [fitL] at hf
    rcases List.mem_cons.1 h with rfl | h
    · exact hf.1
    · exact fitL_mem h hf.2
theorem fitL_of : ∀ {l : List VT}, (∀ u ∈ l, fitV u) → fitL l
  | [], _ => by rw [fitL]; trivial
  | t :: ts, h => by rw [fitL]; exact ⟨h t (.head _), fitL_of fun u hu => h u (.tail _ hu)⟩
theorem VR.fit {m : Mem} : ∀ (t : VT) {vs : List Value}, VR m t vs → bulkV t ≤ 1073741824 → fitV t := by
  intro t
  induction t using VT.rec_ with
  | h t ih =>
    intro vs h hb
    have h1 := VR.text_len t h
    have h2 := bulk_kids t
    obtain ⟨o, c, rfl, hk, hi, hj⟩ := h.open_
    rw [fitV_eq]
    refine ⟨by omega, by omega, fitL_of fun u hu => ?_⟩
    have h3 := bulk_kid hu
    obtain ⟨i, hi', e⟩ := List.mem_iff_getElem.1 hu
    obtain ⟨p, vs, _, _, _, hv⟩ := hk.at_ i u (by rw [List.getElem?_eq_getElem hi', e])
    exact ih u hu hv (by omega)
set_option maxHeartbeats 400000 in
theorem right0_c {w : World} {m : Mem} {t : VT} {vs_t : List Value} (hA : Agree w m) (h_t : VR m t vs_t) : FnV Tryd.prog 14 #[.agg vs_t.toArray] w m (fun _ _ v => v = .bool (rightV 1000 t)) := by
  obtain ⟨o_t, c_t, rfl, hk_t, hi_t, hj_t⟩ := h_t.open_
  have hbg_t := hk_t.big; have hcp_t := hk_t.cap
  refine fn_enter (vs := [_]) Tryd.func14 rfl rfl rfl fun a0 hfr0 => ?_
  have hst0 := st_enter hA (loc_nil [] _ w m)
  have hM : MLe m m := MLe.refl m
  refine seq_any fun K1 hK1 => ?_
  refine region_plain (fun h => by cases h) hst0 hfr0 (by kernel_rfl) (by kernel_rfl) (.cons rfl (ob_box rfl rfl) <|
      .cons rfl (ob_assign rfl) <|
      .nil) ?_
  intro a1 w1 m1 hst1 hle1 hk1
  have hfr1 := hk1.fr (T' := [(0, _), (2, _)]) (.old rfl rfl <| .new rfl <| .nil)
  obtain ⟨g2, e2, hc1⟩ := hk1.ex 1 rfl
  replace hfr1 := hfr1.cons e2
  replace h_t := h_t.mono hle1
  replace hk_t := hk_t.mono hle1
  replace hM := hM.trans hle1
  clear hst0 hfr0 hk1
  refine hK1 _ _ ?_; try clear hK1 K1
  refine seq_any fun K3 hK3 => ?_
  refine region_plain (fun h => by cases h) hst1 hfr1 (by kernel_rfl) (by kernel_rfl) (.cons rfl (ob_loadS' rfl hc1 Tryd.isAgg24 Tryd.sizeOf24 rfl rfl) <|
      .cons rfl (ob_callE rfl (.cons rfl <| .cons rfl <| .nil) Tryd.call28 (fun w m hK => by have hle_ := KC.le hK; have hA := KC.agree hK; have hM := hM.trans hle_; have h_t := h_t.mono hle_; exact right_c t (left := 1000) hA h_t (by omega))) <|
      .cons rfl (ob_assign rfl) <|
      .nil) ?_
  intro a2 w2 m2 hst2 hle2 hk2
  have hfr2 := hk2.fr (T' := [(0, _), (1, _), (2, _)]) (.old rfl rfl <| .old rfl rfl <| .new rfl <| .nil)
  replace h_t := h_t.mono hle2
  replace hk_t := hk_t.mono hle2
  replace hc1 := hc1.mono hle2
  replace hM := hM.trans hle2
  clear hst1 hfr1 hk2
  refine hK3 _ _ ?_; try clear hK3 K3
  refine wp_ret ?_
  repeat (with_reducible first | refine then_ret ?_ | refine block_ret ?_)
  exact fn_ret hst2 hfr2 rfl (.tmp rfl <| .nil) (rfl)

set_option maxHeartbeats 400000 in
theorem first_c {w : World} {m : Mem} {t : VT} {vs_t : List Value} (hA : Agree w m) (h_t : VR m t vs_t) : FnV Tryd.prog 16 #[.agg vs_t.toArray] w m (fun _ _ v => v = .bool (rightV 1000 t && plainV t)) := by
  obtain ⟨o_t, c_t, rfl, hk_t, hi_t, hj_t⟩ := h_t.open_
  have hbg_t := hk_t.big; have hcp_t := hk_t.cap
  refine fn_enter (vs := [_]) Tryd.func16 rfl rfl rfl fun a0 hfr0 => ?_
  have hst0 := st_enter hA (loc_nil [] _ w m)
  have hM : MLe m m := MLe.refl m
  refine seq_any fun K1 hK1 => ?_
  refine region_plain (fun h => by cases h) hst0 hfr0 (by kernel_rfl) (by kernel_rfl) (.cons rfl (ob_box rfl rfl) <|
      .cons rfl (ob_assign rfl) <|
      .nil) ?_
  intro a1 w1 m1 hst1 hle1 hk1
  have hfr1 := hk1.fr (T' := [(0, _), (2, _)]) (.old rfl rfl <| .new rfl <| .nil)
  obtain ⟨g2, e2, hc1⟩ := hk1.ex 1 rfl
  replace hfr1 := hfr1.cons e2
  replace h_t := h_t.mono hle1
  replace hk_t := hk_t.mono hle1
  replace hM := hM.trans hle1
  clear hst0 hfr0 hk1
  refine hK1 _ _ ?_; try clear hK1 K1
  refine seq_any fun K3 hK3 => ?_
  refine region_plain (fun h => by cases h) hst1 hfr1 (by kernel_rfl) (by kernel_rfl) (.cons rfl (ob_loadS' rfl hc1 Tryd.isAgg24 Tryd.sizeOf24 rfl rfl) <|
      .cons rfl (ob_callE rfl (.cons rfl <| .nil) Tryd.call14 (fun w m hK => by have hle_ := KC.le hK; have hA := KC.agree hK; have hM := hM.trans hle_; have h_t := h_t.mono hle_; have hk_t := hk_t.mono hle_; have hc1 := hc1.mono hle_; exact right0_c hA (by first | assumption | omega | simp_all))) <|
      .cons rfl (ob_move rfl) <|
      .cons rfl (ob_loadS' rfl hc1 Tryd.isAgg24 Tryd.sizeOf24 rfl rfl) <|
      .cons rfl (ob_callE rfl (.cons rfl <| .nil) Tryd.call31 (fun w m hK => by have hle_ := KC.le hK; have hA := KC.agree hK; have hM := hM.trans hle_; have h_t := h_t.mono hle_; have hk_t := hk_t.mono hle_; have hc1 := hc1.mono hle_; exact plain_c _ hA (by assumption))) <|
      .cons rfl (ob_and rfl rfl rfl) <|
      .cons rfl (ob_assign rfl) <|
      .nil) ?_
  intro a2 w2 m2 hst2 hle2 hk2
  have hfr2 := hk2.fr (T' := [(0, _), (1, _), (2, _)]) (.old rfl rfl <| .old rfl rfl <| .new rfl <| .nil)
  replace h_t := h_t.mono hle2
  replace hk_t := hk_t.mono hle2
  replace hc1 := hc1.mono hle2
  replace hM := hM.trans hle2
  clear hst1 hfr1 hk2
  refine hK3 _ _ ?_; try clear hK3 K3
  refine wp_ret ?_
  repeat (with_reducible first | refine then_ret ?_ | refine block_ret ?_)
  exact fn_ret hst2 hfr2 rfl (.tmp rfl <| .nil) (rfl)

abbrev same_G (t : VT) : Prop := ∀ {w : World} {m : Mem} {vs_t : List Value} {u : VT} {vs_u : List Value} (hA : Agree w m) (h_t : VR m t vs_t) (h_u : VR m u vs_u), FnV Tryd.prog 18 #[.agg vs_t.toArray, .agg vs_u.toArray] w m (fun _ _ v => v = .bool (sameV t u))
set_option maxHeartbeats 400000 in
theorem same_s {t : VT} (ih : ∀ u ∈ t.kids, same_G u) {w : World} {m : Mem} {vs_t : List Value} {u : VT} {vs_u : List Value} (hA : Agree w m) (h_t : VR m t vs_t) (h_u : VR m u vs_u) : FnV Tryd.prog 18 #[.agg vs_t.toArray, .agg vs_u.toArray] w m (fun _ _ v => v = .bool (sameV t u)) := by
  obtain ⟨o_t, c_t, rfl, hk_t, hi_t, hj_t⟩ := h_t.open_
  have hbg_t := hk_t.big; have hcp_t := hk_t.cap
  obtain ⟨o_u, c_u, rfl, hk_u, hi_u, hj_u⟩ := h_u.open_
  have hbg_u := hk_u.big; have hcp_u := hk_u.cap
  refine fn_enter (vs := [_, _]) Tryd.func18 rfl rfl rfl fun a0 hfr0 => ?_
  have hst0 := st_enter hA (loc_nil [] _ w m)
  have hM : MLe m m := MLe.refl m
  refine seq_any fun K1 hK1 => ?_
  refine region_plain (fun h => by cases h) hst0 hfr0 (by kernel_rfl) (by kernel_rfl) (.cons rfl (ob_box rfl rfl) <|
      .cons rfl (ob_box rfl rfl) <|
      .cons rfl (ob_assign rfl) <|
      .nil) ?_
  intro a1 w1 m1 hst1 hle1 hk1
  have hfr1 := hk1.fr (T' := [(0, _), (1, _), (4, _)]) (.old rfl rfl <| .old rfl rfl <| .new rfl <| .nil)
  obtain ⟨g2, e2, hc2⟩ := hk1.ex 2 rfl
  replace hfr1 := hfr1.cons e2
  obtain ⟨g3, e3, hc3⟩ := hk1.ex 3 rfl
  replace hfr1 := hfr1.cons e3
  replace h_t := h_t.mono hle1
  replace hk_t := hk_t.mono hle1
  replace h_u := h_u.mono hle1
  replace hk_u := hk_u.mono hle1
  replace hM := hM.trans hle1
  clear hst0 hfr0 hk1
  refine hK1 _ _ ?_; try clear hK1 K1
  refine seq_any fun K4 hK4 => ?_
  refine region_plain (fun h => by cases h) hst1 hfr1 (by kernel_rfl) (by kernel_rfl) (.cons rfl (ob_fieldAddr rfl Tryd.underlying24 rfl Tryd.sizeOf3 rfl) <|
      .cons rfl (ob_load1 rfl hc2 Tryd.isAgg3 rfl) <|
      .cons rfl (ob_fieldAddr rfl Tryd.underlying24 rfl Tryd.sizeOf3 rfl) <|
      .cons rfl (ob_load1 rfl hc3 Tryd.isAgg3 rfl) <|
      .cons rfl (ob_eql rfl rfl) <|
      .cons rfl (ob_move rfl) <|
      .cons rfl (ob_fieldAddr rfl Tryd.underlying24 rfl Tryd.sizeOf3 rfl) <|
      .cons rfl (ob_load1 rfl hc2 Tryd.isAgg3 rfl) <|
      .cons rfl (ob_fieldAddr rfl Tryd.underlying24 rfl Tryd.sizeOf3 rfl) <|
      .cons rfl (ob_load1 rfl hc3 Tryd.isAgg3 rfl) <|
      .cons rfl (ob_eql rfl rfl) <|
      .cons rfl (ob_and rfl rfl rfl) <|
      .cons rfl (ob_move rfl) <|
      .cons rfl (ob_fieldAddr rfl Tryd.underlying24 rfl Tryd.sizeOf9 rfl) <|
      .cons rfl (ob_load1 rfl hc2 Tryd.isAgg9 rfl) <|
      .cons rfl (ob_fieldAddr rfl Tryd.underlying24 rfl Tryd.sizeOf9 rfl) <|
      .cons rfl (ob_load1 rfl hc3 Tryd.isAgg9 rfl) <|
      .cons rfl (ob_seql rfl rfl) <|
      .cons rfl (ob_and rfl rfl rfl) <|
      .cons rfl (ob_move rfl) <|
      .cons rfl (ob_fieldAddr rfl Tryd.underlying24 rfl Tryd.sizeOf22 rfl) <|
      .cons rfl (ob_load1 rfl hc2 Tryd.isAgg22 rfl) <|
      .cons rfl (ob_fieldAddr rfl Tryd.underlying24 rfl Tryd.sizeOf22 rfl) <|
      .cons rfl (ob_load1 rfl hc3 Tryd.isAgg22 rfl) <|
      .cons rfl (ob_callE rfl (.cons rfl <| .cons rfl <| .cons rfl <| .nil) Tryd.call32 (fun w m hK => by have hle_ := KC.le hK; have hA := KC.agree hK; have hM := hM.trans hle_; have hk_t := hk_t.mono hle_; have hk_u := hk_u.mono hle_; exact equalf_c (ψ := sameV) (cap := []) hA hk_t hk_u Tryd.call18 (fun w m2 u1 u2 vs us hm ha hv hu h1 h2 => ih u1 h1 ha hv hu))) <|
      .cons rfl (ob_and rfl rfl rfl) <|
      .cons rfl (ob_assign rfl) <|
      .nil) ?_
  intro a2 w2 m2 hst2 hle2 hk2
  have hfr2 := hk2.fr (T' := [(0, _), (1, _), (2, _), (3, _), (4, _)]) (.old rfl rfl <| .old rfl rfl <| .old rfl rfl <| .old rfl rfl <| .new rfl <| .nil)
  replace h_t := h_t.mono hle2
  replace hk_t := hk_t.mono hle2
  replace h_u := h_u.mono hle2
  replace hk_u := hk_u.mono hle2
  replace hc2 := hc2.mono hle2
  replace hc3 := hc3.mono hle2
  replace hM := hM.trans hle2
  clear hst1 hfr1 hk2
  refine hK4 _ _ ?_; try clear hK4 K4
  refine wp_ret ?_
  repeat (with_reducible first | refine then_ret ?_ | refine block_ret ?_)
  exact fn_ret hst2 hfr2 rfl (.tmp rfl <| .nil) (by show Value.bool _ = Value.bool _; congr 1; rw [sameV_eq, sameL_all2])
theorem same_c (t : VT) : same_G t := VT.rec_ (p := same_G) (fun t ih => same_s ih) t

abbrev rsame_G (t : VT) : Prop := ∀ {w : World} {m : Mem} {vs_t : List Value} {u : VT} {vs_u : List Value} (hA : Agree w m) (h_t : VR m t vs_t) (h_u : VR m u vs_u), FnV Tryd.prog 19 #[.agg vs_t.toArray, .agg vs_u.toArray] w m (fun _ _ v => v = .bool (sameV t u))
set_option maxHeartbeats 400000 in
theorem rsame_s {t : VT} (ih : ∀ u ∈ t.kids, rsame_G u) {w : World} {m : Mem} {vs_t : List Value} {u : VT} {vs_u : List Value} (hA : Agree w m) (h_t : VR m t vs_t) (h_u : VR m u vs_u) : FnV Tryd.prog 19 #[.agg vs_t.toArray, .agg vs_u.toArray] w m (fun _ _ v => v = .bool (sameV t u)) := by
  obtain ⟨o_t, c_t, rfl, hk_t, hi_t, hj_t⟩ := h_t.open_
  have hbg_t := hk_t.big; have hcp_t := hk_t.cap
  obtain ⟨o_u, c_u, rfl, hk_u, hi_u, hj_u⟩ := h_u.open_
  have hbg_u := hk_u.big; have hcp_u := hk_u.cap
  refine fn_enter (vs := [_, _]) Tryd.func19 rfl rfl rfl fun a0 hfr0 => ?_
  have hst0 := st_enter hA (loc_nil [] _ w m)
  have hM : MLe m m := MLe.refl m
  refine seq_any fun K1 hK1 => ?_
  refine region_plain (fun h => by cases h) hst0 hfr0 (by kernel_rfl) (by kernel_rfl) (.cons rfl (ob_box rfl rfl) <|
      .cons rfl (ob_box rfl rfl) <|
      .cons rfl (ob_assign rfl) <|
      .nil) ?_
  intro a1 w1 m1 hst1 hle1 hk1
  have hfr1 := hk1.fr (T' := [(0, _), (1, _), (4, _)]) (.old rfl rfl <| .old rfl rfl <| .new rfl <| .nil)
  obtain ⟨g2, e2, hc2⟩ := hk1.ex 2 rfl
  replace hfr1 := hfr1.cons e2
  obtain ⟨g3, e3, hc3⟩ := hk1.ex 3 rfl
  replace hfr1 := hfr1.cons e3
  replace h_t := h_t.mono hle1
  replace hk_t := hk_t.mono hle1
  replace h_u := h_u.mono hle1
  replace hk_u := hk_u.mono hle1
  replace hM := hM.trans hle1
  clear hst0 hfr0 hk1
  refine hK1 _ _ ?_; try clear hK1 K1
  refine seq_any fun K4 hK4 => ?_
  refine seq_any fun K5 hK5 => ?_
  refine region_plain (fun h => by cases h) hst1 hfr1 (by kernel_rfl) (by kernel_rfl) (.cons rfl (ob_fieldAddr rfl Tryd.underlying24 rfl Tryd.sizeOf3 rfl) <|
      .cons rfl (ob_load1 rfl hc2 Tryd.isAgg3 rfl) <|
      .cons rfl (ob_fieldAddr rfl Tryd.underlying24 rfl Tryd.sizeOf3 rfl) <|
      .cons rfl (ob_load1 rfl hc3 Tryd.isAgg3 rfl) <|
      .cons rfl (ob_neq rfl rfl) <|
      .cons rfl (ob_move rfl) <|
      .cons rfl (ob_fieldAddr rfl Tryd.underlying24 rfl Tryd.sizeOf3 rfl) <|
      .cons rfl (ob_load1 rfl hc2 Tryd.isAgg3 rfl) <|
      .cons rfl (ob_fieldAddr rfl Tryd.underlying24 rfl Tryd.sizeOf3 rfl) <|
      .cons rfl (ob_load1 rfl hc3 Tryd.isAgg3 rfl) <|
      .cons rfl (ob_neq rfl rfl) <|
      .cons rfl (ob_or rfl rfl rfl) <|
      .cons rfl (ob_move rfl) <|
      .cons rfl (ob_fieldAddr rfl Tryd.underlying24 rfl Tryd.sizeOf9 rfl) <|
      .cons rfl (ob_load1 rfl hc2 Tryd.isAgg9 rfl) <|
      .cons rfl (ob_fieldAddr rfl Tryd.underlying24 rfl Tryd.sizeOf9 rfl) <|
      .cons rfl (ob_load1 rfl hc3 Tryd.isAgg9 rfl) <|
      .cons rfl (ob_sneq rfl rfl) <|
      .cons rfl (ob_or rfl rfl rfl) <|
      .cons rfl (ob_move rfl) <|
      .cons rfl (ob_fieldAddr rfl Tryd.underlying24 rfl Tryd.sizeOf22 rfl) <|
      .cons rfl (ob_load1 rfl hc2 Tryd.isAgg22 rfl) <|
      .cons rfl (ob_len rfl Tryd.underlying22) <|
      .cons rfl (ob_fieldAddr rfl Tryd.underlying24 rfl Tryd.sizeOf22 rfl) <|
      .cons rfl (ob_load1 rfl hc3 Tryd.isAgg22 rfl) <|
      .cons rfl (ob_len rfl Tryd.underlying22) <|
      .cons rfl (ob_neq rfl rfl) <|
      .cons rfl (ob_or rfl rfl rfl) <|
      .nil) ?_
  intro a2 w2 m2 hst2 hle2 hk2
  have hfr2 := hk2.fr (T' := [(0, _), (1, _), (4, _), (2, _), (3, _), (34, _)]) (.old rfl rfl <| .old rfl rfl <| .old rfl rfl <| .old rfl rfl <| .old rfl rfl <| .new rfl <| .nil)
  replace h_t := h_t.mono hle2
  replace hk_t := hk_t.mono hle2
  replace h_u := h_u.mono hle2
  replace hk_u := hk_u.mono hle2
  replace hc2 := hc2.mono hle2
  replace hc3 := hc3.mono hle2
  replace hM := hM.trans hle2
  clear hst1 hfr1 hk2
  refine hK5 _ _ ?_; try clear hK5 K5
  refine cond_any hfr2 rfl rfl (fun hb34 => ?_) (fun hb34 => ?_)
  · try simp only [Bool.not_eq_true', Bool.not_eq_false', decide_eq_true_eq, decide_eq_false_iff_not, Bool.and_eq_true, Bool.or_eq_true, Bool.and_eq_false_iff, Bool.or_eq_false_iff, Bool.not_not, u8_eq] at hb34
    have hres : sameV t u = false := by rw [sameV_eq]; by_cases hq : t.kids.length = u.kids.length; (rcases hb34 with ((h | h) | h) | h <;> simp_all); (rw [sameL_len hq]; simp)
    refine seq_any fun K6 hK6 => ?_
    refine region_plain (fun h => by cases h) hst2 hfr2 (by kernel_rfl) (by kernel_rfl) (.cons rfl (ob_assign rfl) <|
        .nil) ?_
    intro a3 w3 m3 hst3 hle3 hk3
    have hfr3 := hk3.fr (T' := [(0, _), (1, _), (2, _), (3, _), (4, _)]) (.old rfl rfl <| .old rfl rfl <| .old rfl rfl <| .old rfl rfl <| .new rfl <| .nil)
    replace h_t := h_t.mono hle3
    replace hk_t := hk_t.mono hle3
    replace h_u := h_u.mono hle3
    replace hk_u := hk_u.mono hle3
    replace hc2 := hc2.mono hle3
    replace hc3 := hc3.mono hle3
    replace hM := hM.trans hle3
    clear hst2 hfr2 hk3
    refine hK6 _ _ ?_; try clear hK6 K6
    refine wp_ret ?_
    repeat (with_reducible first | refine then_ret ?_ | refine block_ret ?_)
    exact fn_ret hst3 hfr3 rfl (.tmp rfl <| .nil) (by rw [hres]; rfl)
  · try simp only [Bool.not_eq_true', Bool.not_eq_false', decide_eq_true_eq, decide_eq_false_iff_not, Bool.and_eq_true, Bool.or_eq_true, Bool.and_eq_false_iff, Bool.or_eq_false_iff, Bool.not_not, u8_eq] at hb34
    have hl : t.kids.length = u.kids.length := by omega
    refine wp_skip ?_
    refine hK4 _ _ ?_; try clear hK4 K4
    refine seq_any fun K8 hK8 => ?_
    refine seq_any fun K9 hK9 => ?_
    refine region_plain (fun h => by cases h) hst2 hfr2 (by kernel_rfl) (by kernel_rfl) (.cons rfl (ob_assign rfl) <|
        .nil) ?_
    intro a3 w3 m3 hst3 hle3 hk3
    have hfr3 := hk3.fr (T' := [(0, _), (1, _), (4, _), (2, _), (3, _), (5, _)]) (.old rfl rfl <| .old rfl rfl <| .old rfl rfl <| .old rfl rfl <| .old rfl rfl <| .new rfl <| .nil)
    replace h_t := h_t.mono hle3
    replace hk_t := hk_t.mono hle3
    replace h_u := h_u.mono hle3
    replace hk_u := hk_u.mono hle3
    replace hc2 := hc2.mono hle3
    replace hc3 := hc3.mono hle3
    replace hM := hM.trans hle3
    clear hst2 hfr2 hk3
    refine hK9 _ _ ?_; try clear hK9 K9
    refine wp_block ?_
    refine loop_any (T := [(0, _), (1, _), (4, _), (2, _), (3, _)]) (fun (y : Nat) => ([(5, .int .i64 (y : Int))] : List (Nat × Value))) (fun _ => _) (fun (y : Nat) m => (y ≤ t.kids.length) ∧ (sameL t.kids u.kids = sameL (t.kids.drop y) (u.kids.drop y))) (fun y => t.kids.length - y) (0) ⟨hst3, MLe.refl _, hfr3.sub (.cons rfl <| .cons rfl <| .cons rfl <| .cons rfl <| .cons rfl <| .cons rfl <| .nil), ⟨Nat.zero_le _, rfl⟩⟩ fun y a4 w4 m4 hh4 => ?_
    have hst4 := hh4.st; have hle4 := hh4.le; have hfr4 := hh4.fr; have hrel := hh4.rel; clear hh4
    replace h_t := h_t.mono hle4
    replace hk_t := hk_t.mono hle4
    replace h_u := h_u.mono hle4
    replace hk_u := hk_u.mono hle4
    replace hc2 := hc2.mono hle4
    replace hc3 := hc3.mono hle4
    clear hst3 hfr3
    replace hM := hM.trans hle4
    obtain ⟨hyn, hrem⟩ := hrel
    have hlh4 := hle4
    refine seq_any fun K11 hK11 => ?_
    refine seq_any fun K12 hK12 => ?_
    refine region_plain (fun h => by cases h) hst4 hfr4 (by kernel_rfl) (by kernel_rfl) (.cons rfl (ob_move rfl) <|
        .cons rfl (ob_fieldAddr rfl Tryd.underlying24 rfl Tryd.sizeOf22 rfl) <|
        .cons rfl (ob_load1 rfl hc2 Tryd.isAgg22 rfl) <|
        .cons rfl (ob_len rfl Tryd.underlying22) <|
        .cons rfl (ob_lss rfl rfl) <|
        .nil) ?_
    intro a5 w5 m5 hst5 hle5 hk5
    have hfr5 := hk5.fr (T' := [(5, _), (0, _), (1, _), (4, _), (2, _), (3, _), (39, _)]) (.old rfl rfl <| .old rfl rfl <| .old rfl rfl <| .old rfl rfl <| .old rfl rfl <| .old rfl rfl <| .new rfl <| .nil)
    replace h_t := h_t.mono hle5
    replace hk_t := hk_t.mono hle5
    replace h_u := h_u.mono hle5
    replace hk_u := hk_u.mono hle5
    replace hc2 := hc2.mono hle5
    replace hc3 := hc3.mono hle5
    have hlh5 := hlh4.trans hle5
    replace hM := hM.trans hle5
    clear hst4 hfr4 hk5
    refine hK12 _ _ ?_; try clear hK12 K12
    refine cond_any hfr5 rfl rfl (fun hb39 => ?_) (fun hb39 => ?_)
    · try simp only [Bool.not_eq_true', Bool.not_eq_false', decide_eq_true_eq, decide_eq_false_iff_not, Bool.and_eq_true, Bool.or_eq_true, Bool.and_eq_false_iff, Bool.or_eq_false_iff, Bool.not_not, u8_eq] at hb39
      refine wp_skip ?_
      refine hK11 _ _ ?_; try clear hK11 K11
      refine seq_any fun K13 hK13 => ?_
      refine wp_block ?_
      refine seq_any fun K14 hK14 => ?_
      obtain ⟨p15, vs15, x15, ho15, hd15, hm_x15, ht15, hcv15, hl15, hv15⟩ := hk_t.nth (k := y) (by omega)
      cases ho15
      obtain ⟨o15, c15, rfl, hkd15, hi15, hj15⟩ := hv15.open_
      have hbg15 := hkd15.big; have hcp15 := hkd15.cap
      try rw [hd15] at hrem
      try simp only [sameL] at hrem
      obtain ⟨p16, vs16, x16, ho16, hd16, hm_x16, ht16, hcv16, hl16, hv16⟩ := hk_u.nth (k := y) (by omega)
      cases ho16
      obtain ⟨o16, c16, rfl, hkd16, hi16, hj16⟩ := hv16.open_
      have hbg16 := hkd16.big; have hcp16 := hkd16.cap
      try rw [hd16] at hrem
      try simp only [sameL] at hrem
      refine region_plain (fun _ => mixed) hst5 hfr5 (by kernel_rfl) (by kernel_rfl) (.cons rfl (ob_fieldAddr rfl Tryd.underlying24 rfl Tryd.sizeOf22 rfl) <|
          .cons rfl (ob_load1 rfl hc2 Tryd.isAgg22 rfl) <|
          .cons rfl (ob_move rfl) <|
          .cons rfl (ob_indexAddr (k := y) rfl rfl Tryd.underlying22 Tryd.sizeOf24 rfl (by omega)) <|
          .cons rfl (ob_loadS' rfl hcv15 Tryd.isAgg24 Tryd.sizeOf24 rfl rfl) <|
          .cons rfl (ob_fieldAddr rfl Tryd.underlying24 rfl Tryd.sizeOf22 rfl) <|
          .cons rfl (ob_load1 rfl hc3 Tryd.isAgg22 rfl) <|
          .cons rfl (ob_move rfl) <|
          .cons rfl (ob_indexAddr (k := y) rfl rfl Tryd.underlying22 Tryd.sizeOf24 rfl (by omega)) <|
          .cons rfl (ob_loadS' rfl hcv16 Tryd.isAgg24 Tryd.sizeOf24 rfl rfl) <|
          .cons rfl (ob_callE rfl (.cons rfl <| .cons rfl <| .nil) Tryd.call19 (fun w m hK => by have hle_ := KC.le hK; have hA := KC.agree hK; have hM := hM.trans hle_; have h_t := h_t.mono hle_; have hk_t := hk_t.mono hle_; have h_u := h_u.mono hle_; have hk_u := hk_u.mono hle_; have hc2 := hc2.mono hle_; have hc3 := hc3.mono hle_; have hcv15 := hcv15.mono hle_; have hv15 := hv15.mono hle_; have hkd15 := hkd15.mono hle_; have hcv16 := hcv16.mono hle_; have hv16 := hv16.mono hle_; have hkd16 := hkd16.mono hle_; exact ih _ (by assumption) hA (by first | assumption | omega | simp_all) (by first | assumption | omega | simp_all))) <|
          .cons rfl (ob_assign rfl) <|
          .nil) ?_
      intro a6 w6 m6 hst6 hle6 hk6
      have hfr6 := hk6.fr (T' := [(5, _), (0, _), (1, _), (4, _), (2, _), (3, _), (6, _)]) (.old rfl rfl <| .old rfl rfl <| .old rfl rfl <| .old rfl rfl <| .old rfl rfl <| .old rfl rfl <| .new rfl <| .nil)
      replace h_t := h_t.mono hle6
      replace hk_t := hk_t.mono hle6
      replace h_u := h_u.mono hle6
      replace hk_u := hk_u.mono hle6
      replace hc2 := hc2.mono hle6
      replace hc3 := hc3.mono hle6
      replace hcv15 := hcv15.mono hle6
      replace hv15 := hv15.mono hle6
      replace hkd15 := hkd15.mono hle6
      replace hcv16 := hcv16.mono hle6
      replace hv16 := hv16.mono hle6
      replace hkd16 := hkd16.mono hle6
      have hlh6 := hlh5.trans hle6
      replace hM := hM.trans hle6
      clear hst5 hfr5 hk6
      refine hK14 _ _ ?_; try clear hK14 K14
      refine seq_any fun K17 hK17 => ?_
      refine region_plain (fun h => by cases h) hst6 hfr6 (by kernel_rfl) (by kernel_rfl) (.cons rfl (ob_move rfl) <|
          .cons rfl (ob_not rfl) <|
          .nil) ?_
      intro a7 w7 m7 hst7 hle7 hk7
      have hfr7 := hk7.fr (T' := [(5, _), (0, _), (1, _), (4, _), (2, _), (3, _), (6, _), (54, _)]) (.old rfl rfl <| .old rfl rfl <| .old rfl rfl <| .old rfl rfl <| .old rfl rfl <| .old rfl rfl <| .old rfl rfl <| .new rfl <| .nil)
      replace h_t := h_t.mono hle7
      replace hk_t := hk_t.mono hle7
      replace h_u := h_u.mono hle7
      replace hk_u := hk_u.mono hle7
      replace hc2 := hc2.mono hle7
      replace hc3 := hc3.mono hle7
      replace hcv15 := hcv15.mono hle7
      replace hv15 := hv15.mono hle7
      replace hkd15 := hkd15.mono hle7
      replace hcv16 := hcv16.mono hle7
      replace hv16 := hv16.mono hle7
      replace hkd16 := hkd16.mono hle7
      have hlh7 := hlh6.trans hle7
      replace hM := hM.trans hle7
      clear hst6 hfr6 hk7
      refine hK17 _ _ ?_; try clear hK17 K17
      refine cond_any hfr7 rfl rfl (fun hb54 => ?_) (fun hb54 => ?_)
      · try simp only [Bool.not_eq_true', Bool.not_eq_false', decide_eq_true_eq, decide_eq_false_iff_not, Bool.and_eq_true, Bool.or_eq_true, Bool.and_eq_false_iff, Bool.or_eq_false_iff, Bool.not_not, u8_eq] at hb54
        refine seq_any fun K18 hK18 => ?_
        refine region_plain (fun h => by cases h) hst7 hfr7 (by kernel_rfl) (by kernel_rfl) (.cons rfl (ob_assign rfl) <|
            .nil) ?_
        intro a8 w8 m8 hst8 hle8 hk8
        have hfr8 := hk8.fr (T' := [(5, _), (0, _), (1, _), (2, _), (3, _), (6, _), (4, _)]) (.old rfl rfl <| .old rfl rfl <| .old rfl rfl <| .old rfl rfl <| .old rfl rfl <| .old rfl rfl <| .new rfl <| .nil)
        replace h_t := h_t.mono hle8
        replace hk_t := hk_t.mono hle8
        replace h_u := h_u.mono hle8
        replace hk_u := hk_u.mono hle8
        replace hc2 := hc2.mono hle8
        replace hc3 := hc3.mono hle8
        replace hcv15 := hcv15.mono hle8
        replace hv15 := hv15.mono hle8
        replace hkd15 := hkd15.mono hle8
        replace hcv16 := hcv16.mono hle8
        replace hv16 := hv16.mono hle8
        replace hkd16 := hkd16.mono hle8
        have hlh8 := hlh7.trans hle8
        replace hM := hM.trans hle8
        clear hst7 hfr7 hk8
        refine hK18 _ _ ?_; try clear hK18 K18
        refine wp_ret ?_
        repeat (with_reducible first | refine then_ret ?_ | refine block_ret ?_)
        exact fn_ret hst8 hfr8 rfl (.tmp rfl <| .nil) (by show Value.bool _ = Value.bool _; congr 1; rw [sameV_eq]; simp_all; try omega)
      · try simp only [Bool.not_eq_true', Bool.not_eq_false', decide_eq_true_eq, decide_eq_false_iff_not, Bool.and_eq_true, Bool.or_eq_true, Bool.and_eq_false_iff, Bool.or_eq_false_iff, Bool.not_not, u8_eq] at hb54
        refine wp_skip ?_
        refine hK13 _ _ ?_; try clear hK13 K13
        refine region_plain (fun h => by cases h) hst7 hfr7 (by kernel_rfl) (by kernel_rfl) (.cons rfl (ob_move rfl) <|
            .cons rfl (ob_add rfl rfl ⟨by omega, by omega⟩) <|
            .cons rfl (ob_assign rfl) <|
            .nil) ?_
        intro a8 w8 m8 hst8 hle8 hk8
        have hfr8 := hk8.fr (T' := [(0, _), (1, _), (4, _), (2, _), (3, _), (6, _), (5, _)]) (.old rfl rfl <| .old rfl rfl <| .old rfl rfl <| .old rfl rfl <| .old rfl rfl <| .old rfl rfl <| .new rfl <| .nil)
        replace h_t := h_t.mono hle8
        replace hk_t := hk_t.mono hle8
        replace h_u := h_u.mono hle8
        replace hk_u := hk_u.mono hle8
        replace hc2 := hc2.mono hle8
        replace hc3 := hc3.mono hle8
        replace hcv15 := hcv15.mono hle8
        replace hv15 := hv15.mono hle8
        replace hkd15 := hkd15.mono hle8
        replace hcv16 := hcv16.mono hle8
        replace hv16 := hv16.mono hle8
        replace hkd16 := hkd16.mono hle8
        have hlh8 := hlh7.trans hle8
        replace hM := hM.trans hle8
        clear hst7 hfr7 hk8
        exact ⟨y + 1, m8, by show t.kids.length - (y + 1) < t.kids.length - y; omega, ⟨hst8, hlh8, hfr8.sub (.cons rfl <| .cons rfl <| .cons rfl <| .cons rfl <| .cons rfl <| .cons rfl <| .nil), ⟨by show y + 1 ≤ t.kids.length; omega, by simp_all⟩⟩⟩
    · try simp only [Bool.not_eq_true', Bool.not_eq_false', decide_eq_true_eq, decide_eq_false_iff_not, Bool.and_eq_true, Bool.or_eq_true, Bool.and_eq_false_iff, Bool.or_eq_false_iff, Bool.not_not, u8_eq] at hb39
      have hge : y = t.kids.length := by omega
      rw [List.drop_of_length_le (by omega), List.drop_of_length_le (by omega)] at hrem
      simp only [sameL] at hrem
      refine wp_exit ?_
      refine hK8 _ _ ?_; try clear hK8 K8
      refine seq_any fun K20 hK20 => ?_
      refine region_plain (fun h => by cases h) hst5 hfr5 (by kernel_rfl) (by kernel_rfl) (.cons rfl (ob_assign rfl) <|
          .nil) ?_
      intro a6 w6 m6 hst6 hle6 hk6
      have hfr6 := hk6.fr (T' := [(5, _), (0, _), (1, _), (2, _), (3, _), (4, _)]) (.old rfl rfl <| .old rfl rfl <| .old rfl rfl <| .old rfl rfl <| .old rfl rfl <| .new rfl <| .nil)
      replace h_t := h_t.mono hle6
      replace hk_t := hk_t.mono hle6
      replace h_u := h_u.mono hle6
      replace hk_u := hk_u.mono hle6
      replace hc2 := hc2.mono hle6
      replace hc3 := hc3.mono hle6
      have hlh6 := hlh5.trans hle6
      replace hM := hM.trans hle6
      clear hst5 hfr5 hk6
      refine hK20 _ _ ?_; try clear hK20 K20
      refine wp_ret ?_
      repeat (with_reducible first | refine then_ret ?_ | refine block_ret ?_)
      exact fn_ret hst6 hfr6 rfl (.tmp rfl <| .nil) (by show Value.bool _ = Value.bool _; congr 1; rw [sameV_eq]; simp_all; try omega)
theorem rsame_c (t : VT) : rsame_G t := VT.rec_ (p := rsame_G) (fun t ih => rsame_s ih) t

abbrev text_G (t : VT) : Prop := ∀ {w : World} {m : Mem} {vs_t : List Value} (hA : Agree w m) (h_t : VR m t vs_t) (hT : Tab w) (hb : fitV t), FnV Tryd.prog 26 #[.agg vs_t.toArray] w m (fun _ _ v => v = S (textV t))
set_option maxHeartbeats 400000 in
theorem text_s {t : VT} (ih : ∀ u ∈ t.kids, text_G u) {w : World} {m : Mem} {vs_t : List Value} (hA : Agree w m) (h_t : VR m t vs_t) (hT : Tab w) (hb : fitV t) : FnV Tryd.prog 26 #[.agg vs_t.toArray] w m (fun _ _ v => v = S (textV t)) := by
  obtain ⟨o_t, c_t, rfl, hk_t, hi_t, hj_t⟩ := h_t.open_
  have hbg_t := hk_t.big; have hcp_t := hk_t.cap
  refine fn_enter (vs := [_]) Tryd.func26 rfl rfl rfl fun a0 hfr0 => ?_
  have hst0 := st_enter hA (loc_nil [] _ w m)
  have hM : MLe m m := MLe.refl m
  have hfv := hb
  rw [fitV_eq] at hfv
  obtain ⟨htl, hkn, hfl⟩ := hfv
  have hbk := fun u (hu : u ∈ t.kids) => fitL_mem hu hfl
  have hil := itoa_len hj_t
  refine seq_any fun K1 hK1 => ?_
  refine region_plain (fun h => by cases h) hst0 hfr0 (by kernel_rfl) (by kernel_rfl) (.cons rfl (ob_box rfl rfl) <|
      .cons rfl (ob_assign rfl) <|
      .nil) ?_
  intro a1 w1 m1 hst1 hle1 hk1
  have hfr1 := hk1.fr (T' := [(0, _), (2, _)]) (.old rfl rfl <| .new rfl <| .nil)
  obtain ⟨g2, e2, hc1⟩ := hk1.ex 1 rfl
  replace hfr1 := hfr1.cons e2
  replace h_t := h_t.mono hle1
  replace hk_t := hk_t.mono hle1
  replace hM := hM.trans hle1
  clear hst0 hfr0 hk1
  refine hK1 _ _ ?_; try clear hK1 K1
  refine seq_any fun K3 hK3 => ?_
  refine seq_any fun K4 hK4 => ?_
  refine region_plain (fun h => by cases h) hst1 hfr1 (by kernel_rfl) (by kernel_rfl) (.cons rfl (ob_fieldAddr rfl Tryd.underlying24 rfl Tryd.sizeOf3 rfl) <|
      .cons rfl (ob_load1 rfl hc1 Tryd.isAgg3 rfl) <|
      .nil) ?_
  intro a2 w2 m2 hst2 hle2 hk2
  have hfr2 := hk2.fr (T' := [(0, _), (2, _), (1, _), (7, _)]) (.old rfl rfl <| .old rfl rfl <| .old rfl rfl <| .new rfl <| .nil)
  replace h_t := h_t.mono hle2
  replace hk_t := hk_t.mono hle2
  replace hc1 := hc1.mono hle2
  replace hM := hM.trans hle2
  clear hst1 hfr1 hk2
  refine hK4 _ _ ?_; try clear hK4 K4
  refine wp_block ?_
  refine seq_any fun K5 hK5 => ?_
  refine region_plain (fun h => by cases h) hst2 hfr2 (by kernel_rfl) (by kernel_rfl) (.cons rfl (ob_eql rfl rfl) <|
      .cons rfl (ob_assign rfl) <|
      .nil) ?_
  intro a3 w3 m3 hst3 hle3 hk3
  have hfr3 := hk3.fr (T' := [(0, _), (2, _), (1, _), (7, _), (8, _)]) (.old rfl rfl <| .old rfl rfl <| .old rfl rfl <| .old rfl rfl <| .new rfl <| .nil)
  replace h_t := h_t.mono hle3
  replace hk_t := hk_t.mono hle3
  replace hc1 := hc1.mono hle3
  replace hM := hM.trans hle3
  clear hst2 hfr2 hk3
  refine hK5 _ _ ?_; try clear hK5 K5
  refine cond_any hfr3 rfl rfl (fun hb8 => ?_) (fun hb8 => ?_)
  · try simp only [Bool.not_eq_true', Bool.not_eq_false', decide_eq_true_eq, decide_eq_false_iff_not, Bool.and_eq_true, Bool.or_eq_true, Bool.and_eq_false_iff, Bool.or_eq_false_iff, Bool.not_not, u8_eq] at hb8
    refine seq_any fun K6 hK6 => ?_
    refine region_plain (fun h => by cases h) hst3 hfr3 (by kernel_rfl) (by kernel_rfl) (.cons rfl (ob_fieldAddr rfl Tryd.underlying24 rfl Tryd.sizeOf3 rfl) <|
        .cons rfl (ob_load1 rfl hc1 Tryd.isAgg3 rfl) <|
        .cons rfl (ob_callE rfl (.cons rfl <| .nil) Tryd.call42 (fun w m hK => by have hle_ := KC.le hK; have hA := KC.agree hK; have hM := hM.trans hle_; have hT := tab_keep hT hK.st.ext; have h_t := h_t.mono hle_; have hk_t := hk_t.mono hle_; have hc1 := hc1.mono hle_; exact itoa_c hA hT (by assumption))) <|
        .cons rfl (ob_assign rfl) <|
        .nil) ?_
    intro a4 w4 m4 hst4 hle4 hk4
    have hfr4 := hk4.fr (T' := [(0, _), (1, _), (7, _), (2, _)]) (.old rfl rfl <| .old rfl rfl <| .old rfl rfl <| .new rfl <| .nil)
    replace h_t := h_t.mono hle4
    replace hk_t := hk_t.mono hle4
    replace hc1 := hc1.mono hle4
    replace hM := hM.trans hle4
    clear hst3 hfr3 hk4
    refine hK6 _ _ ?_; try clear hK6 K6
    refine wp_ret ?_
    repeat (with_reducible first | refine then_ret ?_ | refine block_ret ?_)
    exact fn_ret hst4 hfr4 rfl (.tmp rfl <| .nil) (by show S _ = S _; congr 1; rw [textV_eq]; unfold textB; simp_all)
  · try simp only [Bool.not_eq_true', Bool.not_eq_false', decide_eq_true_eq, decide_eq_false_iff_not, Bool.and_eq_true, Bool.or_eq_true, Bool.and_eq_false_iff, Bool.or_eq_false_iff, Bool.not_not, u8_eq] at hb8
    refine seq_any fun K8 hK8 => ?_
    refine region_plain (fun h => by cases h) hst3 hfr3 (by kernel_rfl) (by kernel_rfl) (.cons rfl (ob_eql rfl rfl) <|
        .cons rfl (ob_assign rfl) <|
        .nil) ?_
    intro a4 w4 m4 hst4 hle4 hk4
    have hfr4 := hk4.fr (T' := [(0, _), (2, _), (1, _), (7, _), (13, _)]) (.old rfl rfl <| .old rfl rfl <| .old rfl rfl <| .old rfl rfl <| .new rfl <| .nil)
    replace h_t := h_t.mono hle4
    replace hk_t := hk_t.mono hle4
    replace hc1 := hc1.mono hle4
    replace hM := hM.trans hle4
    clear hst3 hfr3 hk4
    refine hK8 _ _ ?_; try clear hK8 K8
    refine cond_any hfr4 rfl rfl (fun hb13 => ?_) (fun hb13 => ?_)
    · try simp only [Bool.not_eq_true', Bool.not_eq_false', decide_eq_true_eq, decide_eq_false_iff_not, Bool.and_eq_true, Bool.or_eq_true, Bool.and_eq_false_iff, Bool.or_eq_false_iff, Bool.not_not, u8_eq] at hb13
      refine seq_any fun K9 hK9 => ?_
      refine region_plain (fun h => by cases h) hst4 hfr4 (by kernel_rfl) (by kernel_rfl) (.cons rfl (ob_fieldAddr rfl Tryd.underlying24 rfl Tryd.sizeOf3 rfl) <|
          .cons rfl (ob_load1 rfl hc1 Tryd.isAgg3 rfl) <|
          .cons rfl (ob_eql rfl rfl) <|
          .cons rfl (ob_callE rfl (.cons rfl <| .nil) Tryd.call43 (fun w m hK => by have hle_ := KC.le hK; have hA := KC.agree hK; have hM := hM.trans hle_; have hT := tab_keep hT hK.st.ext; exact fbool_c hA)) <|
          .cons rfl (ob_assign rfl) <|
          .nil) ?_
      intro a5 w5 m5 hst5 hle5 hk5
      have hfr5 := hk5.fr (T' := [(0, _), (1, _), (7, _), (2, _)]) (.old rfl rfl <| .old rfl rfl <| .old rfl rfl <| .new rfl <| .nil)
      replace h_t := h_t.mono hle5
      replace hk_t := hk_t.mono hle5
      replace hc1 := hc1.mono hle5
      replace hM := hM.trans hle5
      clear hst4 hfr4 hk5
      refine hK9 _ _ ?_; try clear hK9 K9
      refine wp_ret ?_
      repeat (with_reducible first | refine then_ret ?_ | refine block_ret ?_)
      exact fn_ret hst5 hfr5 rfl (.tmp rfl <| .nil) (by show S _ = S _; congr 1; rw [textV_eq]; unfold textB; simp_all)
    · try simp only [Bool.not_eq_true', Bool.not_eq_false', decide_eq_true_eq, decide_eq_false_iff_not, Bool.and_eq_true, Bool.or_eq_true, Bool.and_eq_false_iff, Bool.or_eq_false_iff, Bool.not_not, u8_eq] at hb13
      refine seq_any fun K11 hK11 => ?_
      refine region_plain (fun h => by cases h) hst4 hfr4 (by kernel_rfl) (by kernel_rfl) (.cons rfl (ob_eql rfl rfl) <|
          .cons rfl (ob_assign rfl) <|
          .nil) ?_
      intro a5 w5 m5 hst5 hle5 hk5
      have hfr5 := hk5.fr (T' := [(0, _), (2, _), (1, _), (7, _), (19, _)]) (.old rfl rfl <| .old rfl rfl <| .old rfl rfl <| .old rfl rfl <| .new rfl <| .nil)
      replace h_t := h_t.mono hle5
      replace hk_t := hk_t.mono hle5
      replace hc1 := hc1.mono hle5
      replace hM := hM.trans hle5
      clear hst4 hfr4 hk5
      refine hK11 _ _ ?_; try clear hK11 K11
      refine cond_any hfr5 rfl rfl (fun hb19 => ?_) (fun hb19 => ?_)
      · try simp only [Bool.not_eq_true', Bool.not_eq_false', decide_eq_true_eq, decide_eq_false_iff_not, Bool.and_eq_true, Bool.or_eq_true, Bool.and_eq_false_iff, Bool.or_eq_false_iff, Bool.not_not, u8_eq] at hb19
        refine seq_any fun K12 hK12 => ?_
        refine region_plain (fun h => by cases h) hst5 hfr5 (by kernel_rfl) (by kernel_rfl) (.cons rfl (ob_assign rfl) <|
            .nil) ?_
        intro a6 w6 m6 hst6 hle6 hk6
        have hfr6 := hk6.fr (T' := [(0, _), (1, _), (7, _), (2, _)]) (.old rfl rfl <| .old rfl rfl <| .old rfl rfl <| .new rfl <| .nil)
        replace h_t := h_t.mono hle6
        replace hk_t := hk_t.mono hle6
        replace hc1 := hc1.mono hle6
        replace hM := hM.trans hle6
        clear hst5 hfr5 hk6
        refine hK12 _ _ ?_; try clear hK12 K12
        refine wp_ret ?_
        repeat (with_reducible first | refine then_ret ?_ | refine block_ret ?_)
        exact fn_ret hst6 hfr6 rfl (.tmp rfl <| .nil) (by show S _ = S _; congr 1; rw [textV_eq]; unfold textB; simp_all)
      · try simp only [Bool.not_eq_true', Bool.not_eq_false', decide_eq_true_eq, decide_eq_false_iff_not, Bool.and_eq_true, Bool.or_eq_true, Bool.and_eq_false_iff, Bool.or_eq_false_iff, Bool.not_not, u8_eq] at hb19
        refine seq_any fun K14 hK14 => ?_
        refine region_plain (fun h => by cases h) hst5 hfr5 (by kernel_rfl) (by kernel_rfl) (.cons rfl (ob_eql rfl rfl) <|
            .cons rfl (ob_assign rfl) <|
            .nil) ?_
        intro a6 w6 m6 hst6 hle6 hk6
        have hfr6 := hk6.fr (T' := [(0, _), (2, _), (1, _), (7, _), (21, _)]) (.old rfl rfl <| .old rfl rfl <| .old rfl rfl <| .old rfl rfl <| .new rfl <| .nil)
        replace h_t := h_t.mono hle6
        replace hk_t := hk_t.mono hle6
        replace hc1 := hc1.mono hle6
        replace hM := hM.trans hle6
        clear hst5 hfr5 hk6
        refine hK14 _ _ ?_; try clear hK14 K14
        refine cond_any hfr6 rfl rfl (fun hb21 => ?_) (fun hb21 => ?_)
        · try simp only [Bool.not_eq_true', Bool.not_eq_false', decide_eq_true_eq, decide_eq_false_iff_not, Bool.and_eq_true, Bool.or_eq_true, Bool.and_eq_false_iff, Bool.or_eq_false_iff, Bool.not_not, u8_eq] at hb21
          refine seq_any fun K15 hK15 => ?_
          refine region_plain (fun h => by cases h) hst6 hfr6 (by kernel_rfl) (by kernel_rfl) (.cons rfl (ob_assign rfl) <|
              .nil) ?_
          intro a7 w7 m7 hst7 hle7 hk7
          have hfr7 := hk7.fr (T' := [(0, _), (1, _), (7, _), (2, _)]) (.old rfl rfl <| .old rfl rfl <| .old rfl rfl <| .new rfl <| .nil)
          replace h_t := h_t.mono hle7
          replace hk_t := hk_t.mono hle7
          replace hc1 := hc1.mono hle7
          replace hM := hM.trans hle7
          clear hst6 hfr6 hk7
          refine hK15 _ _ ?_; try clear hK15 K15
          refine wp_ret ?_
          repeat (with_reducible first | refine then_ret ?_ | refine block_ret ?_)
          exact fn_ret hst7 hfr7 rfl (.tmp rfl <| .nil) (by show S _ = S _; congr 1; rw [textV_eq]; unfold textB; simp_all)
        · try simp only [Bool.not_eq_true', Bool.not_eq_false', decide_eq_true_eq, decide_eq_false_iff_not, Bool.and_eq_true, Bool.or_eq_true, Bool.and_eq_false_iff, Bool.or_eq_false_iff, Bool.not_not, u8_eq] at hb21
          refine seq_any fun K17 hK17 => ?_
          refine region_plain (fun h => by cases h) hst6 hfr6 (by kernel_rfl) (by kernel_rfl) (.cons rfl (ob_eql rfl rfl) <|
              .cons rfl (ob_assign rfl) <|
              .nil) ?_
          intro a7 w7 m7 hst7 hle7 hk7
          have hfr7 := hk7.fr (T' := [(0, _), (2, _), (1, _), (7, _), (23, _)]) (.old rfl rfl <| .old rfl rfl <| .old rfl rfl <| .old rfl rfl <| .new rfl <| .nil)
          replace h_t := h_t.mono hle7
          replace hk_t := hk_t.mono hle7
          replace hc1 := hc1.mono hle7
          replace hM := hM.trans hle7
          clear hst6 hfr6 hk7
          refine hK17 _ _ ?_; try clear hK17 K17
          refine cond_any hfr7 rfl rfl (fun hb23 => ?_) (fun hb23 => ?_)
          · try simp only [Bool.not_eq_true', Bool.not_eq_false', decide_eq_true_eq, decide_eq_false_iff_not, Bool.and_eq_true, Bool.or_eq_true, Bool.and_eq_false_iff, Bool.or_eq_false_iff, Bool.not_not, u8_eq] at hb23
            refine seq_any fun K18 hK18 => ?_
            refine region_plain (fun h => by cases h) hst7 hfr7 (by kernel_rfl) (by kernel_rfl) (.cons rfl (ob_fieldAddr rfl Tryd.underlying24 rfl Tryd.sizeOf3 rfl) <|
                .cons rfl (ob_load1 rfl hc1 Tryd.isAgg3 rfl) <|
                .cons rfl (ob_callE rfl (.cons rfl <| .nil) Tryd.call42 (fun w m hK => by have hle_ := KC.le hK; have hA := KC.agree hK; have hM := hM.trans hle_; have hT := tab_keep hT hK.st.ext; have h_t := h_t.mono hle_; have hk_t := hk_t.mono hle_; have hc1 := hc1.mono hle_; exact itoa_c hA hT (by assumption))) <|
                .cons rfl (ob_sadd rfl rfl (by first | omega | (simp only [List.length_append, List.length_cons, List.length_nil, List.length_map]; omega))) <|
                .cons rfl (ob_assign rfl) <|
                .nil) ?_
            intro a8 w8 m8 hst8 hle8 hk8
            have hfr8 := hk8.fr (T' := [(0, _), (1, _), (7, _), (2, _)]) (.old rfl rfl <| .old rfl rfl <| .old rfl rfl <| .new rfl <| .nil)
            replace h_t := h_t.mono hle8
            replace hk_t := hk_t.mono hle8
            replace hc1 := hc1.mono hle8
            replace hM := hM.trans hle8
            clear hst7 hfr7 hk8
            refine hK18 _ _ ?_; try clear hK18 K18
            refine wp_ret ?_
            repeat (with_reducible first | refine then_ret ?_ | refine block_ret ?_)
            exact fn_ret hst8 hfr8 rfl (.tmp rfl <| .nil) (by show S _ = S _; congr 1; rw [textV_eq]; unfold textB; simp_all)
          · try simp only [Bool.not_eq_true', Bool.not_eq_false', decide_eq_true_eq, decide_eq_false_iff_not, Bool.and_eq_true, Bool.or_eq_true, Bool.and_eq_false_iff, Bool.or_eq_false_iff, Bool.not_not, u8_eq] at hb23
            refine wp_skip ?_
            refine hK3 _ _ ?_; try clear hK3 K3
            refine seq_any fun K20 hK20 => ?_
            refine seq_any fun K21 hK21 => ?_
            refine region_plain (fun h => by cases h) hst7 hfr7 (by kernel_rfl) (by kernel_rfl) (.cons rfl (ob_fieldAddr rfl Tryd.underlying24 rfl Tryd.sizeOf22 rfl) <|
                .cons rfl (ob_load1 rfl hc1 Tryd.isAgg22 rfl) <|
                .cons rfl (ob_len rfl Tryd.underlying22) <|
                .cons rfl (ob_eql rfl rfl) <|
                .nil) ?_
            intro a8 w8 m8 hst8 hle8 hk8
            have hfr8 := hk8.fr (T' := [(0, _), (2, _), (1, _), (7, _), (32, _)]) (.old rfl rfl <| .old rfl rfl <| .old rfl rfl <| .old rfl rfl <| .new rfl <| .nil)
            replace h_t := h_t.mono hle8
            replace hk_t := hk_t.mono hle8
            replace hc1 := hc1.mono hle8
            replace hM := hM.trans hle8
            clear hst7 hfr7 hk8
            refine hK21 _ _ ?_; try clear hK21 K21
            refine cond_any hfr8 rfl rfl (fun hb32 => ?_) (fun hb32 => ?_)
            · try simp only [Bool.not_eq_true', Bool.not_eq_false', decide_eq_true_eq, decide_eq_false_iff_not, Bool.and_eq_true, Bool.or_eq_true, Bool.and_eq_false_iff, Bool.or_eq_false_iff, Bool.not_not, u8_eq] at hb32
              refine seq_any fun K22 hK22 => ?_
              refine region_plain (fun h => by cases h) hst8 hfr8 (by kernel_rfl) (by kernel_rfl) (.cons rfl (ob_fieldAddr rfl Tryd.underlying24 rfl Tryd.sizeOf9 rfl) <|
                  .cons rfl (ob_load1 rfl hc1 Tryd.isAgg9 rfl) <|
                  .cons rfl (ob_assign rfl) <|
                  .nil) ?_
              intro a9 w9 m9 hst9 hle9 hk9
              have hfr9 := hk9.fr (T' := [(0, _), (1, _), (7, _), (2, _)]) (.old rfl rfl <| .old rfl rfl <| .old rfl rfl <| .new rfl <| .nil)
              replace h_t := h_t.mono hle9
              replace hk_t := hk_t.mono hle9
              replace hc1 := hc1.mono hle9
              replace hM := hM.trans hle9
              clear hst8 hfr8 hk9
              refine hK22 _ _ ?_; try clear hK22 K22
              refine wp_ret ?_
              repeat (with_reducible first | refine then_ret ?_ | refine block_ret ?_)
              exact fn_ret hst9 hfr9 rfl (.tmp rfl <| .nil) (by show S _ = S _; congr 1; rw [textV_eq]; unfold textB; simp_all)
            · try simp only [Bool.not_eq_true', Bool.not_eq_false', decide_eq_true_eq, decide_eq_false_iff_not, Bool.and_eq_true, Bool.or_eq_true, Bool.and_eq_false_iff, Bool.or_eq_false_iff, Bool.not_not, u8_eq] at hb32
              refine wp_skip ?_
              refine hK20 _ _ ?_; try clear hK20 K20
              refine seq_any fun K24 hK24 => ?_
              refine region_plain (fun h => by cases h) hst8 hfr8 (by kernel_rfl) (by kernel_rfl) (.cons rfl (ob_assign rfl) <|
                  .nil) ?_
              intro a9 w9 m9 hst9 hle9 hk9
              have hfr9 := hk9.fr (T' := [(0, _), (2, _), (1, _), (7, _), (3, _)]) (.old rfl rfl <| .old rfl rfl <| .old rfl rfl <| .old rfl rfl <| .new rfl <| .nil)
              replace h_t := h_t.mono hle9
              replace hk_t := hk_t.mono hle9
              replace hc1 := hc1.mono hle9
              replace hM := hM.trans hle9
              clear hst8 hfr8 hk9
              refine hK24 _ _ ?_; try clear hK24 K24
              refine seq_any fun K25 hK25 => ?_
              refine seq_any fun K26 hK26 => ?_
              refine region_plain (fun h => by cases h) hst9 hfr9 (by kernel_rfl) (by kernel_rfl) (.cons rfl (ob_fieldAddr rfl Tryd.underlying24 rfl Tryd.sizeOf22 rfl) <|
                  .cons rfl (ob_load1 rfl hc1 Tryd.isAgg22 rfl) <|
                  .cons rfl (ob_len rfl Tryd.underlying22) <|
                  .cons rfl (ob_move rfl) <|
                  .nil) ?_
              intro a10 w10 m10 hst10 hle10 hk10
              have hfr10 := hk10.fr (T' := [(0, _), (2, _), (1, _), (7, _), (3, _), (36, _), (37, _), (38, _)]) (.old rfl rfl <| .old rfl rfl <| .old rfl rfl <| .old rfl rfl <| .old rfl rfl <| .new rfl <| .new rfl <| .new rfl <| .nil)
              replace h_t := h_t.mono hle10
              replace hk_t := hk_t.mono hle10
              replace hc1 := hc1.mono hle10
              replace hM := hM.trans hle10
              clear hst9 hfr9 hk10
              refine hK26 _ _ ?_; try clear hK26 K26
              refine wp_block ?_
              have hst10 := hst10.more (r := .row (.slice none 0 0) 0 1 9 []) ⟨rfl, .inl ⟨rfl, rfl⟩⟩ List.nodup_nil (by simp [Res.blocks, rowBlock])
              refine loop_any (T := [(0, _), (2, _), (1, _), (7, _), (36, _), (37, _)]) (fun (y : Nat × Option Addr × Nat × List Value) => ([(3, .slice y.2.1 y.1 y.2.2.1), (38, .int .i64 (y.1 : Int))] : List (Nat × Value))) (fun y => [.row (.slice y.2.1 y.1 y.2.2.1) y.1 1 9 y.2.2.2]) (fun (y : Nat × Option Addr × Nat × List Value) m => (fun (y : Nat) (lo : Option Addr) (lp : Nat) (lc : List Value) => (y ≤ t.kids.length) ∧ (lc = (t.kids.take y).map fun u => S (textV u)) ∧ (RowAt m lo lc) ∧ (y ≤ lp)) y.1 y.2.1 y.2.2.1 y.2.2.2) (fun y => t.kids.length - y.1) ((0, none, 0, [])) ⟨hst10, MLe.refl _, hfr10.sub (.cons rfl <| .cons rfl <| .cons rfl <| .cons rfl <| .cons rfl <| .cons rfl <| .cons rfl <| .cons rfl <| .nil), ⟨Nat.zero_le _, rfl, .inl rfl, Nat.le_refl _⟩⟩ fun y a11 w11 m11 hh11 => ?_
              have hst11 := hh11.st; have hle11 := hh11.le; have hfr11 := hh11.fr; have hrel := hh11.rel; clear hh11
              replace h_t := h_t.mono hle11
              replace hk_t := hk_t.mono hle11
              replace hc1 := hc1.mono hle11
              clear hst10 hfr10
              replace hM := hM.trans hle11
              obtain ⟨y, lo, lp, lc⟩ := y
              dsimp only at hrel hfr11 hst11
              obtain ⟨hyn, he_l, hrow_l, hcap_l⟩ := hrel
              have hlh11 := hle11
              refine seq_any fun K28 hK28 => ?_
              refine region_plain (fun h => by cases h) hst11 hfr11 (by kernel_rfl) (by kernel_rfl) (.cons rfl (ob_lss rfl rfl) <|
                  .nil) ?_
              intro a12 w12 m12 hst12 hle12 hk12
              have hfr12 := hk12.fr (T' := [(3, _), (38, _), (0, _), (2, _), (1, _), (7, _), (36, _), (37, _), (39, _)]) (.old rfl rfl <| .old rfl rfl <| .old rfl rfl <| .old rfl rfl <| .old rfl rfl <| .old rfl rfl <| .old rfl rfl <| .old rfl rfl <| .new rfl <| .nil)
              replace h_t := h_t.mono hle12
              replace hk_t := hk_t.mono hle12
              replace hc1 := hc1.mono hle12
              replace hrow_l := hrow_l.mono hle12
              have hlh12 := hlh11.trans hle12
              replace hM := hM.trans hle12
              clear hst11 hfr11 hk12
              refine hK28 _ _ ?_; try clear hK28 K28
              refine seq_any fun K29 hK29 => ?_
              refine cond_any hfr12 rfl rfl (fun hb39 => ?_) (fun hb39 => ?_)
              · try simp only [Bool.not_eq_true', Bool.not_eq_false', decide_eq_true_eq, decide_eq_false_iff_not, Bool.and_eq_true, Bool.or_eq_true, Bool.and_eq_false_iff, Bool.or_eq_false_iff, Bool.not_not, u8_eq] at hb39
                refine wp_skip ?_
                refine hK29 _ _ ?_; try clear hK29 K29
                refine seq_any fun K30 hK30 => ?_
                refine wp_block ?_
                refine seq_any fun K31 hK31 => ?_
                obtain ⟨p32, vs32, x32, ho32, hd32, hm_x32, ht32, hcv32, hl32, hv32⟩ := hk_t.nth (k := y) (by omega)
                cases ho32
                obtain ⟨o32, c32, rfl, hkd32, hi32, hj32⟩ := hv32.open_
                have hbg32 := hkd32.big; have hcp32 := hkd32.cap
                replace hst12 := hst12.more (r := .free) trivial List.nodup_nil (by simp [Res.blocks])
                refine region_any (tch := [(2, 1, (fun v => .blk v _)), (3, 1, (fun v => .blk v _))]) (fun h => by cases h) hst12 hfr12 (by kernel_rfl) (by kernel_rfl) (by kernel_rfl) (.cons rfl (ob_indexAddr (k := y) rfl rfl Tryd.underlying22 Tryd.sizeOf24 rfl (by omega)) <|
                    .cons rfl (ob_loadS' rfl hcv32 Tryd.isAgg24 Tryd.sizeOf24 rfl rfl) <|
                    .consT rfl rfl (fun _ => rfl) rfl (ob_allocL Tryd.zeroValue24 rfl) <|
                    .consT rfl rfl (fun _ => rfl) rfl (ob_imgT 5 rfl rfl rfl fun y5 => ob_storeF rfl rfl rfl rfl Tryd.sizeOf24 rfl rfl rfl) <|
                    .nil) ?_
                intro a13 w13 m13 hst13 hle13 hk13
                have hfr13 := hk13.fr (T' := [(3, _), (38, _), (0, _), (2, _), (1, _), (7, _), (36, _), (37, _)]) (.old rfl rfl <| .old rfl rfl <| .old rfl rfl <| .old rfl rfl <| .old rfl rfl <| .old rfl rfl <| .old rfl rfl <| .old rfl rfl <| .nil)
                obtain ⟨g33, e33, _⟩ := hk13.ex 5 rfl
                replace hfr13 := hfr13.cons e33
                replace hst13 := hst13.fin (L' := [_, _]) (.cons e33 <| .cons e33 <| .nil)
                replace h_t := h_t.mono hle13
                replace hk_t := hk_t.mono hle13
                replace hc1 := hc1.mono hle13
                replace hrow_l := hrow_l.mono hle13
                replace hcv32 := hcv32.mono hle13
                replace hv32 := hv32.mono hle13
                replace hkd32 := hkd32.mono hle13
                have hlh13 := hlh12.trans hle13
                replace hM := hM.trans hle13
                clear hst12 hfr12 hk13
                refine hK31 _ _ ?_; try clear hK31 K31
                refine region_any (tch := [(4, 0, (fun v => .row v _ _ _ _))]) (fun h => by cases h) hst13 hfr13 (by kernel_rfl) (by kernel_rfl) (by kernel_rfl) (.cons rfl (ob_move rfl) <|
                    .cons rfl (ob_loadLS' (j := 1) rfl rfl Tryd.isAgg24 Tryd.sizeOf24 rfl rfl) <|
                    .cons rfl (ob_callE rfl (.cons rfl <| .nil) Tryd.call26 (fun w m hK => by have hle_ := KC.le hK; have hA := KC.agree hK; have hM := hM.trans hle_; have hT := tab_keep hT hK.st.ext; have h_t := h_t.mono hle_; have hk_t := hk_t.mono hle_; have hc1 := hc1.mono hle_; have hrow_l := hrow_l.mono hle_; have hcv32 := hcv32.mono hle_; have hv32 := hv32.mono hle_; have hkd32 := hkd32.mono hle_; exact ih _ (by assumption) hA (by assumption) hT (hbk _ (by assumption)))) <|
                    .cons rfl (ob_buildSlice (.cons rfl <| .nil) Tryd.underlying55 Tryd.sizeOf9 Tryd.zeroValue9 rfl rfl rfl rfl) <|
                    .consT rfl rfl (fun _ => rfl) rfl (ob_imgT 45 rfl rfl rfl fun y45 => ob_append (size := 1) (bytes := 16) rfl rfl Tryd.underlying55 Tryd.type9 rfl rfl rfl rfl (fun w m hK => .inr ⟨_, rfl, hK.2⟩) rfl (by decide) rfl (by simp only [maxLen]; omega) (by omega)) <|
                    .consA 46 rfl rfl <|
                    .nil) ?_
                intro a14 w14 m14 hst14 hle14 hk14
                have hfr14 := hk14.fr (T' := [(38, _), (0, _), (2, _), (1, _), (7, _), (36, _), (37, _), (5, _)]) (.old rfl rfl <| .old rfl rfl <| .old rfl rfl <| .old rfl rfl <| .old rfl rfl <| .old rfl rfl <| .old rfl rfl <| .old rfl rfl <| .nil)
                obtain ⟨⟨lo2, lp2⟩, e34, hrow2_l, hcap2_l⟩ := hk14.ex 46 rfl
                replace hfr14 := hfr14.cons e34
                replace hfr14 := hfr14.cons (hk14.same 3 rfl e34)
                replace hst14 := hst14.fin (L' := [_, _]) (.cons e34 <| .nil)
                replace h_t := h_t.mono hle14
                replace hk_t := hk_t.mono hle14
                replace hc1 := hc1.mono hle14
                replace hrow_l := hrow_l.mono hle14
                replace hcv32 := hcv32.mono hle14
                replace hv32 := hv32.mono hle14
                replace hkd32 := hkd32.mono hle14
                have hlh14 := hlh13.trans hle14
                replace hM := hM.trans hle14
                clear hst13 hfr13 hk14
                refine hK30 _ _ ?_; try clear hK30 K30
                refine region_plain (fun h => by cases h) hst14 hfr14 (by kernel_rfl) (by kernel_rfl) (.cons rfl (ob_add rfl rfl ⟨by omega, by omega⟩) <|
                    .cons rfl (ob_move rfl) <|
                    .nil) ?_
                intro a15 w15 m15 hst15 hle15 hk15
                have hfr15 := hk15.fr (T' := [(0, _), (2, _), (1, _), (7, _), (36, _), (37, _), (5, _), (3, _), (38, _)]) (.old rfl rfl <| .old rfl rfl <| .old rfl rfl <| .old rfl rfl <| .old rfl rfl <| .old rfl rfl <| .old rfl rfl <| .old rfl rfl <| .new rfl <| .nil)
                replace h_t := h_t.mono hle15
                replace hk_t := hk_t.mono hle15
                replace hc1 := hc1.mono hle15
                replace hrow_l := hrow_l.mono hle15
                replace hcv32 := hcv32.mono hle15
                replace hv32 := hv32.mono hle15
                replace hkd32 := hkd32.mono hle15
                replace hrow2_l := hrow2_l.mono hle15
                have hlh15 := hlh14.trans hle15
                replace hM := hM.trans hle15
                clear hst14 hfr14 hk15
                have hst15 := hst15.take 1
                exact ⟨(y + 1, _, _, _), m15, by show t.kids.length - (y + 1) < t.kids.length - y; omega, ⟨hst15, hlh15, hfr15.sub (.cons rfl <| .cons rfl <| .cons rfl <| .cons rfl <| .cons rfl <| .cons rfl <| .cons rfl <| .cons rfl <| .nil), ⟨by show y + 1 ≤ t.kids.length; omega, by rw [ht32, List.map_append, ← he_l]; rfl, hrow2_l, hcap2_l⟩⟩⟩
              · try simp only [Bool.not_eq_true', Bool.not_eq_false', decide_eq_true_eq, decide_eq_false_iff_not, Bool.and_eq_true, Bool.or_eq_true, Bool.and_eq_false_iff, Bool.or_eq_false_iff, Bool.not_not, u8_eq] at hb39
                have hge : y = t.kids.length := by omega
                try rw [List.take_of_length_le (by omega)] at he_l
                subst he_l
                refine wp_exit ?_
                refine hK25 _ _ ?_; try clear hK25 K25
                refine seq_any fun K35 hK35 => ?_
                have hlj : (textV t).length = t.name.length + 1 + (Go.Lib.join (t.kids.map textV) [44, 32]).length + 1 := by rw [textV_eq]; unfold textB; simp_all; try omega
                refine region_plain (fun _ => mixed) hst12 hfr12 (by kernel_rfl) (by kernel_rfl) (.cons rfl (ob_fieldAddr rfl Tryd.underlying24 rfl Tryd.sizeOf9 rfl) <|
                    .cons rfl (ob_load1 rfl hc1 Tryd.isAgg9 rfl) <|
                    .cons rfl (ob_sadd rfl rfl (by first | omega | (simp only [List.length_append, List.length_cons, List.length_nil, List.length_map]; omega))) <|
                    .cons rfl (ob_move rfl) <|
                    .cons rfl (ob_callE rfl (.cons rfl <| .cons rfl <| .nil) Tryd.call44 (fun w m hK => by have hle_ := KC.le hK; have hA := KC.agree hK; have hM := hM.trans hle_; have hT := tab_keep hT hK.st.ext; have hrow_l := hrow_l.mono hle_; exact join_c hA (Strs.of_row (xs := t.kids.map textV) (by simpa [Function.comp_def] using hrow_l) (by simp; omega) (by omega) (by omega)) (by simp; omega) (by omega))) <|
                    .cons rfl (ob_sadd rfl rfl (by first | omega | (simp only [List.length_append, List.length_cons, List.length_nil, List.length_map]; omega))) <|
                    .cons rfl (ob_sadd rfl rfl (by first | omega | (simp only [List.length_append, List.length_cons, List.length_nil, List.length_map]; omega))) <|
                    .cons rfl (ob_assign rfl) <|
                    .nil) ?_
                intro a13 w13 m13 hst13 hle13 hk13
                have hfr13 := hk13.fr (T' := [(3, _), (38, _), (0, _), (1, _), (7, _), (36, _), (37, _), (2, _)]) (.old rfl rfl <| .old rfl rfl <| .old rfl rfl <| .old rfl rfl <| .old rfl rfl <| .old rfl rfl <| .old rfl rfl <| .new rfl <| .nil)
                replace h_t := h_t.mono hle13
                replace hk_t := hk_t.mono hle13
                replace hc1 := hc1.mono hle13
                replace hrow_l := hrow_l.mono hle13
                have hlh13 := hlh12.trans hle13
                replace hM := hM.trans hle13
                clear hst12 hfr12 hk13
                refine hK35 _ _ ?_; try clear hK35 K35
                refine wp_ret ?_
                repeat (with_reducible first | refine then_ret ?_ | refine block_ret ?_)
                exact fn_ret hst13 hfr13 rfl (.tmp rfl <| .nil) (by show S _ = S _; congr 1; rw [textV_eq]; unfold textB; simp_all)
theorem text_c (t : VT) : text_G t := VT.rec_ (p := text_G) (fun t ih => text_s ih) t

end Go.Proofs.YtineijefefjpeaaDoor
