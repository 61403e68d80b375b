/-
  Code: its text, as the document's answer says it. Conditions: those of each theorem.
-/
import Derived.Test.YtlihpgjabohebaaDoorCref3
import Derived.Lib.ItoaLen
namespace Go.Proofs.YtlihpgjabohebaaDoor
set_option linter.all false
set_option maxRecDepth 4000
open Go.RowKit
open Go.Lib (itoa decDigits)
theorem dec_eq (n : Nat) : decDigits n = if n < 10 then [UInt8.ofNat (48 + n)] else decDigits (n / 10) ++ [UInt8.ofNat (48 + n % 10)] := by
  rw [decDigits]; split <;> rfl
theorem dec_len : ∀ (k n : Nat), n < 10 ^ (k + 1) → (decDigits n).length ≤ k + 1
  | 0, n, h => by rw [dec_eq, if_pos (by simpa using h)]; simp
  | k + 1, n, h => by
    rw [dec_eq]
    split
    · simp
    · have := dec_len k (n / 10) (by rw [Nat.pow_succ] at h; omega)
      simp only [List.length_append, List.length_cons, List.length_nil]; omega
theorem dec_len20 {n : Nat} (h : n ≤ 9223372036854775808) : (decDigits n).length ≤ 20 := dec_len 19 n (by omega)
theorem digit_byte {k : Nat} (h : k < 10) : UInt8.ofNat (IntKind.u8.wrap (48 + (k : Int))).toNat = UInt8.ofNat (48 + k) := by
  have : k = 0 ∨ k = 1 ∨ k = 2 ∨ k = 3 ∨ k = 4 ∨ k = 5 ∨ k = 6 ∨ k = 7 ∨ k = 8 ∨ k = 9 := by omega
  rcases this with rfl | rfl | rfl | rfl | rfl | rfl | rfl | rfl | rfl | rfl <;> rfl
theorem itoa_neg {n : Int} (h : n ≤ -10) : itoa n = itoa (n.tdiv 10) ++ [UInt8.ofNat (48 + n.natAbs % 10)] := by
  have e : (n.tdiv 10).natAbs = n.natAbs / 10 := by rw [Int.natAbs_tdiv]; rfl
  have h2 : n.tdiv 10 < 0 := by
    have : n.natAbs / 10 ≥ 1 := by omega
    rcases Int.lt_or_le (n.tdiv 10) 0 with h | h
    · exact h
    · have h3 : 0 ≤ (-n).tdiv 10 := Int.tdiv_nonneg (by omega) (by omega)
      rw [Int.neg_tdiv] at h3
      omega
  unfold itoa
  rw [if_pos (by omega), if_pos h2, e, dec_eq n.natAbs, if_neg (by omega)]; rfl
theorem rem_neg {n : Int} (h : n < 0) : UInt8.ofNat (IntKind.u8.wrap (48 - n.tmod 10)).toNat = UInt8.ofNat (48 + n.natAbs % 10) := by
  have e : n.tmod 10 = -((n.natAbs % 10 : Nat) : Int) := by
    have h1 : n = -(n.natAbs : Int) := by omega
    rw [h1, Int.neg_tmod]
    simp only [Int.natAbs_neg, Int.natAbs_natCast]; rfl
  rw [e, Int.sub_neg]
  exact digit_byte (by omega)
theorem tmod_neg {n : Int} (h : n < 0) : n.tmod 10 = -((n.natAbs % 10 : Nat) : Int) := by
  obtain ⟨k, rfl⟩ : ∃ k : Nat, n = -(k : Int) := ⟨n.natAbs, by omega⟩
  rw [Int.neg_tmod]; simp only [Int.natAbs_neg, Int.natAbs_natCast]; rfl
theorem tdiv_neg {n : Int} (h : n < 0) : n.tdiv 10 = -((n.natAbs / 10 : Nat) : Int) := by
  obtain ⟨k, rfl⟩ : ∃ k : Nat, n = -(k : Int) := ⟨n.natAbs, by omega⟩
  rw [Int.neg_tdiv]; simp only [Int.natAbs_neg, Int.natAbs_natCast]; rfl
theorem right_kindT {t : Cd} (h : rightC t = true) : 1 ≤ t.kind ∧ t.kind ≤ 15 := by
  rcases kind_cases t with hk | hk
  · omega
  · rw [rightC_eq] at h
    have : headC t = false := by
      obtain ⟨h1, h2, h3, h4, h5, h6, h7, h8, h9, h10, h11, h12, h13, h14, h15⟩ := hk
      unfold headC; simp [*]
    rw [this] at h; cases h
theorem itoaL {n : Int} (h : InI64 n) : (itoa n).length ≤ 21 := Go.Lib.itoa_length_le n h.1 h.2
/-- Words, each behind a space. -/
def spc (l : List Str) : Str := l.flatMap fun w => 32 :: w
theorem spc_cons (w : Str) (l : List Str) : spc (w :: l) = 32 :: w ++ spc l := rfl
theorem spc_app (a b : List Str) : spc (a ++ b) = spc a ++ spc b := by unfold spc; rw [List.flatMap_append]
theorem spc_len (l : List Str) : (spc l).length = wsum l := by
  induction l with
  | nil => rfl
  | cons x l ih => rw [spc_cons, wsum_cons, List.length_append, ih, List.length_cons]
theorem join_spc : ∀ (x : Str) (l : List Str), joinW (x :: l) = x ++ spc l
  | x, [] => by simp [joinW, Go.Lib.join, spc]
  | x, y :: l => by
    have e : joinW (x :: y :: l) = x ++ [32] ++ joinW (y :: l) := join_cons2 x y l [32]
    rw [e, join_spc y l, spc_cons]; simp
theorem join_more {h : List Str} (hn : h ≠ []) (l : List Str) : joinW (h ++ l) = joinW h ++ spc l := by
  cases h with
  | nil => exact absurd rfl hn
  | cons x h => rw [List.cons_append, join_spc, join_spc, spc_app, List.append_assoc]
theorem headW_some {k : Int} {s p : Str} (h : 4 < k ∧ k ≤ 15) : headW k s p ≠ [] := by
  unfold headW
  rcases (show k = 5 ∨ k = 6 ∨ k = 7 ∨ k = 8 ∨ k = 9 ∨ k = 10 ∨ k = 11 ∨ k = 12 ∨ k = 13 ∨ k = 14 ∨ k = 15 by omega) with h | h | h | h | h | h | h | h | h | h | h <;> simp [h]
theorem text_words {t : Cd} (h : 4 < t.kind ∧ t.kind ≤ 15) : textC t = joinW (headW t.kind t.name t.param) ++ spc (kidsW (fromC t.kind t.kids.length) 0 t.kids) ++ spc (armsW t.arms) := by
  rw [textC_eq, if_neg (by omega), if_neg (by omega), if_neg (by omega), if_neg (by omega)]
  unfold wordsC
  rw [List.append_assoc, join_more (headW_some h), spc_app, List.append_assoc]
theorem headJ (k : Int) (s p : Str) (w : Str) : joinW [w, s] = w ++ [32] ++ s := by simp [joinW, Go.Lib.join]
abbrev num_G (n : Nat) : Prop := ∀ {w : World} {m : Mem}  (hA : Agree w m) (hn : n ≤ 9223372036854775807), FnV Tryd.prog 83 #[.int .i64 (n : Int)] w m (fun _ _ v => v = S (decDigits n))
set_option maxHeartbeats 400000 in
theorem num_s {n : Nat} (ih : ∀ k, k < n → num_G k) {w : World} {m : Mem}  (hA : Agree w m) (hn : n ≤ 9223372036854775807) : FnV Tryd.prog 83 #[.int .i64 (n : Int)] w m (fun _ _ v => v = S (decDigits n)) := by
  refine fn_enter (vs := [_]) Tryd.func83 rfl rfl rfl fun a0 hfr0 => ?_
  have hst0 := st_enter hA (loc_nil [] _ w m)
  have hM : MLe m m := MLe.refl m
  have htd : (n : Int).tdiv 10 = ((n / 10 : Nat) : Int) := rfl
  have htm : (n : Int).tmod 10 = ((n % 10 : Nat) : Int) := rfl
  have hl := dec_len20 (n := n / 10) (by omega)
  have hd := @digit_byte (n % 10) (by omega)
  have hq := dec_eq n
  refine seq_any fun _ hK1 => ?_
  refine rp0 hst0 hfr0 (.cons rfl (ob_assign rfl) <| .nil) ?_
  intro a1 w1 m1 hst1 hle1 hk1
  have hfr1 := hk1.fr (T' := [(0, _)]) (.old rfl rfl <| .nil)
  clear hst0 hfr0 hk1
  refine hK1 _ _ ?_; clear hK1
  refine seq_any fun _ hK2 => ?_
  refine seq_any fun _ hK3 => ?_
  refine rp0 hst1 hfr1 (.cons rfl (ob_move rfl) <| .cons rfl (ob_lss rfl rfl) <| .nil) ?_
  intro a2 w2 m2 hst2 hle2 hk2
  have hfr2 := hk2.fr (T' := [(0, _), (4, _)]) (.old rfl rfl <| .new rfl <| .nil)
  clear hst1 hfr1 hk2
  refine hK3 _ _ ?_; clear hK3
  refine cond_any hfr2 rfl rfl (fun hb4 => ?_) (fun hb4 => ?_)
  · try simp only [nq1, nq2, nq3, nq4, nq5, nq6, nq7, nq8, nq9, u8_eq] at hb4
    refine seq_any fun _ hK4 => ?_
    refine rp0 hst2 hfr2 (.cons rfl (ob_move rfl) <| .cons rfl (ob_add rfl rfl ⟨by omega, by omega⟩) <| .cons rfl (ob_conv_int rfl Tryd.underlying3 Tryd.underlying5) <| .cons rfl (ob_buildSlice (.cons rfl <| .nil) Tryd.underlying91 Tryd.sizeOf5 Tryd.zeroValue5 rfl rfl rfl rfl) <| .cons rfl (ob_imgE 8 rfl rfl rfl fun y8 => ob_conv_bs (ns := [_]) rfl Tryd.underlying91 Tryd.underlying5 Tryd.underlying9 (fun w m hK => hK.2)) <| .cons rfl (ob_assign rfl) <| .nil) ?_
    intro a3 w3 m3 hst3 hle3 hk3
    have hfr3 := hk3.fr (T' := [(2, _)]) (.new rfl <| .nil)
    clear hst2 hfr2 hk3
    refine hK4 _ _ ?_; clear hK4
    refine wp_ret ?_
    repeat (with_reducible first | refine then_ret ?_ | refine block_ret ?_)
    exact fn_ret hst3 hfr3 rfl (.tmp rfl <| .nil) (by refine congrArg S ?_; rw [hq, if_pos (by omega)]; exact congrArg (fun b => [b]) (digit_byte (by omega)))
  · try simp only [nq1, nq2, nq3, nq4, nq5, nq6, nq7, nq8, nq9, u8_eq] at hb4
    refine wp_skip ?_
    refine hK2 _ _ ?_; clear hK2
    refine seq_any fun _ hK6 => ?_
    refine region_plain (fun _ => mixed) hst2 hfr2 (by kernel_rfl) (by kernel_rfl) (.cons rfl (ob_move rfl) <| .cons rfl (ob_quo rfl rfl (by omega) ⟨by omega, by omega⟩) <| .cons rfl (ob_callE rfl (.cons rfl <| .nil) Tryd.call83 (fun w m hK => by have hle_ := KC.le hK; have hA := KC.agree hK; exact ih (n / 10) (by omega) hA (by omega))) <| .cons rfl (ob_move rfl) <| .cons rfl (ob_rem rfl rfl (by omega)) <| .cons rfl (ob_add rfl rfl ⟨by omega, by omega⟩) <| .cons rfl (ob_conv_int rfl Tryd.underlying3 Tryd.underlying5) <| .cons rfl (ob_buildSlice (.cons rfl <| .nil) Tryd.underlying91 Tryd.sizeOf5 Tryd.zeroValue5 rfl rfl rfl rfl) <| .cons rfl (ob_imgE 17 rfl rfl rfl fun y17 => ob_conv_bs (ns := [_]) rfl Tryd.underlying91 Tryd.underlying5 Tryd.underlying9 (fun w m hK => hK.2)) <| .cons rfl (ob_sadd rfl rfl (by first | omega | (simp only [List.length_append, List.length_cons, List.length_nil, List.length_map]; omega))) <| .cons rfl (ob_assign rfl) <| .nil) ?_
    intro a3 w3 m3 hst3 hle3 hk3
    have hfr3 := hk3.fr (T' := [(2, _)]) (.new rfl <| .nil)
    clear hst2 hfr2 hk3
    refine hK6 _ _ ?_; clear hK6
    refine wp_ret ?_
    repeat (with_reducible first | refine then_ret ?_ | refine block_ret ?_)
    exact fn_ret hst3 hfr3 rfl (.tmp rfl <| .nil) (by refine congrArg S ?_; rw [hq, if_neg (by omega)]; exact congrArg (fun b => decDigits (n / 10) ++ [b]) hd)
theorem num_c (n : Nat) : num_G n := num_s fun k _ => num_c k
termination_by n
decreasing_by assumption

abbrev digits_G (n : Int) : Prop := ∀ {w : World} {m : Mem}  (hA : Agree w m) (hn : InI64 n), FnV Tryd.prog 59 #[.int .i64 n] w m (fun _ _ v => v = S (itoa n))
set_option maxHeartbeats 400000 in
theorem digits_s {n : Int} (ih : ∀ k : Int, k.natAbs < n.natAbs → digits_G k) {w : World} {m : Mem}  (hA : Agree w m) (hn : InI64 n) : FnV Tryd.prog 59 #[.int .i64 n] w m (fun _ _ v => v = S (itoa n)) := by
  refine fn_enter (vs := [_]) Tryd.func59 rfl rfl rfl fun a0 hfr0 => ?_
  have hst0 := st_enter hA (loc_nil [] _ w m)
  have hM : MLe m m := MLe.refl m
  obtain ⟨hn1, hn2⟩ := hn
  refine seq_any fun _ hK1 => ?_
  refine rp0 hst0 hfr0 (.cons rfl (ob_assign rfl) <| .nil) ?_
  intro a1 w1 m1 hst1 hle1 hk1
  have hfr1 := hk1.fr (T' := [(0, _)]) (.old rfl rfl <| .nil)
  clear hst0 hfr0 hk1
  refine hK1 _ _ ?_; clear hK1
  refine seq_any fun _ hK2 => ?_
  refine seq_any fun _ hK3 => ?_
  refine rp0 hst1 hfr1 (.cons rfl (ob_move rfl) <| .cons rfl (ob_geq rfl rfl) <| .nil) ?_
  intro a2 w2 m2 hst2 hle2 hk2
  have hfr2 := hk2.fr (T' := [(0, _), (5, _)]) (.old rfl rfl <| .new rfl <| .nil)
  clear hst1 hfr1 hk2
  refine hK3 _ _ ?_; clear hK3
  refine cond_any hfr2 rfl rfl (fun hb5 => ?_) (fun hb5 => ?_)
  · try simp only [nq1, nq2, nq3, nq4, nq5, nq6, nq7, nq8, nq9, u8_eq] at hb5
    refine seq_any fun _ hK4 => ?_
    obtain ⟨k, rfl⟩ : ∃ k : Nat, n = (k : Int) := ⟨n.toNat, by omega⟩
    refine rp0 hst2 hfr2 (.cons rfl (ob_move rfl) <| .cons rfl (ob_callE rfl (.cons rfl <| .nil) Tryd.call83 (fun w m hK => by have hle_ := KC.le hK; have hA := KC.agree hK; exact num_c k hA (by omega))) <| .cons rfl (ob_assign rfl) <| .nil) ?_
    intro a3 w3 m3 hst3 hle3 hk3
    have hfr3 := hk3.fr (T' := [(2, _)]) (.new rfl <| .nil)
    clear hst2 hfr2 hk3
    refine hK4 _ _ ?_; clear hK4
    refine wp_ret ?_
    repeat (with_reducible first | refine then_ret ?_ | refine block_ret ?_)
    exact fn_ret hst3 hfr3 rfl (.tmp rfl <| .nil) (by refine congrArg S ?_; unfold itoa; rw [if_neg (by omega)]; try rfl)
  · try simp only [nq1, nq2, nq3, nq4, nq5, nq6, nq7, nq8, nq9, u8_eq] at hb5
    refine wp_skip ?_
    refine hK2 _ _ ?_; clear hK2
    refine seq_any fun _ hK6 => ?_
    have hr := @rem_neg n (by omega)
    have hm1 := @tmod_neg n (by omega)
    have hd1 := @tdiv_neg n (by omega)
    refine rp0 hst2 hfr2 (.cons rfl (ob_move rfl) <| .cons rfl (ob_rem rfl rfl (by omega)) <| .cons rfl (ob_sub rfl rfl ⟨by omega, by omega⟩) <| .cons rfl (ob_conv_int rfl Tryd.underlying3 Tryd.underlying5) <| .cons rfl (ob_buildSlice (.cons rfl <| .nil) Tryd.underlying91 Tryd.sizeOf5 Tryd.zeroValue5 rfl rfl rfl rfl) <| .cons rfl (ob_imgE 12 rfl rfl rfl fun y12 => ob_conv_bs (ns := [_]) rfl Tryd.underlying91 Tryd.underlying5 Tryd.underlying9 (fun w m hK => hK.2)) <| .cons rfl (ob_assign rfl) <| .nil) ?_
    intro a3 w3 m3 hst3 hle3 hk3
    have hfr3 := hk3.fr (T' := [(0, _), (3, _)]) (.old rfl rfl <| .new rfl <| .nil)
    clear hst2 hfr2 hk3
    refine hK6 _ _ ?_; clear hK6
    refine seq_any fun _ hK7 => ?_
    refine seq_any fun _ hK8 => ?_
    refine rp0 hst3 hfr3 (.cons rfl (ob_move rfl) <| .cons rfl (ob_gtr rfl rfl) <| .nil) ?_
    intro a4 w4 m4 hst4 hle4 hk4
    have hfr4 := hk4.fr (T' := [(0, _), (3, _), (15, _)]) (.old rfl rfl <| .old rfl rfl <| .new rfl <| .nil)
    clear hst3 hfr3 hk4
    refine hK8 _ _ ?_; clear hK8
    refine cond_any hfr4 rfl rfl (fun hb15 => ?_) (fun hb15 => ?_)
    · try simp only [nq1, nq2, nq3, nq4, nq5, nq6, nq7, nq8, nq9, u8_eq] at hb15
      refine seq_any fun _ hK9 => ?_
      refine rp0 hst4 hfr4 (.cons rfl (ob_move rfl) <| .cons rfl (ob_sadd rfl rfl (by first | omega | (simp only [List.length_append, List.length_cons, List.length_nil, List.length_map]; omega))) <| .cons rfl (ob_assign rfl) <| .nil) ?_
      intro a5 w5 m5 hst5 hle5 hk5
      have hfr5 := hk5.fr (T' := [(2, _)]) (.new rfl <| .nil)
      clear hst4 hfr4 hk5
      refine hK9 _ _ ?_; clear hK9
      refine wp_ret ?_
      repeat (with_reducible first | refine then_ret ?_ | refine block_ret ?_)
      exact fn_ret hst5 hfr5 rfl (.tmp rfl <| .nil) (by refine congrArg S ?_; unfold itoa; rw [if_pos (by omega), dec_eq, if_pos (by omega)]; rw [Nat.mod_eq_of_lt (by omega)] at hr; exact congrArg (fun b => [45, b]) hr)
    · try simp only [nq1, nq2, nq3, nq4, nq5, nq6, nq7, nq8, nq9, u8_eq] at hb15
      refine wp_skip ?_
      refine hK7 _ _ ?_; clear hK7
      refine seq_any fun _ hK11 => ?_
      have hq := @itoa_neg n (by omega)
      have hab : (n.tdiv 10).natAbs = n.natAbs / 10 := by rw [Int.natAbs_tdiv]; rfl
      have hin : InI64 (n.tdiv 10) := ⟨by omega, by omega⟩
      have hil := itoaL hin
      refine rp0 hst4 hfr4 (.cons rfl (ob_move rfl) <| .cons rfl (ob_quo rfl rfl (by omega) ⟨by omega, by omega⟩) <| .cons rfl (ob_callE rfl (.cons rfl <| .nil) Tryd.call59 (fun w m hK => by have hle_ := KC.le hK; have hA := KC.agree hK; exact ih (n.tdiv 10) (by omega) hA hin)) <| .cons rfl (ob_move rfl) <| .cons rfl (ob_sadd rfl rfl (by simp only [List.map_cons, List.map_nil, List.length_cons, List.length_nil]; omega)) <| .cons rfl (ob_assign rfl) <| .nil) ?_
      intro a5 w5 m5 hst5 hle5 hk5
      have hfr5 := hk5.fr (T' := [(2, _)]) (.new rfl <| .nil)
      clear hst4 hfr4 hk5
      refine hK11 _ _ ?_; clear hK11
      refine wp_ret ?_
      repeat (with_reducible first | refine then_ret ?_ | refine block_ret ?_)
      exact fn_ret hst5 hfr5 rfl (.tmp rfl <| .nil) (by refine congrArg S ?_; rw [hq]; exact congrArg (fun b => itoa (n.tdiv 10) ++ [b]) hr)
theorem digits_c (n : Int) : digits_G n := digits_s fun k _ => digits_c k
termination_by n.natAbs
decreasing_by assumption

abbrev rtext_G (t : Cd) : Prop := ∀ {w : World} {m : Mem} {vs_t : List Value} (hA : Agree w m) (h_t : CdR m t vs_t) (hrt : rightC t = true) (hb : bulkC t ≤ 100000000), FnV Tryd.prog 37 #[.agg vs_t.toArray] w m (fun _ _ v => v = S (textC t))
set_option maxHeartbeats 400000 in
theorem ratomT_c {w : World} {m : Mem} {t : Cd} {vs_t : List Value} (hA : Agree w m) (h_t : CdR m t vs_t) (iht : rtext_G t) (hrt : rightC t = true) (hb : bulkC t ≤ 100000000) : FnV Tryd.prog 60 #[.agg vs_t.toArray] w m (fun _ _ v => v = S (plainC t)) := by
  obtain ⟨⟨oK_t, cK_t, oA_t, cA_t⟩, rfl, ⟨hik_t, hin_t⟩, hkk_t, haa_t⟩ := h_t.open_
  dsimp only at hkk_t haa_t
  have hbg_t := hkk_t.big; have hcp_t := hkk_t.cap; have hbh_t := haa_t.big; have hcq_t := haa_t.cap
  refine fn_enter (vs := [_]) Tryd.func60 rfl rfl rfl fun a0 hfr0 => ?_
  have hst0 := st_enter hA (loc_nil [] _ w m)
  have hM : MLe m m := MLe.refl m
  have htl := (text_len t).1
  refine seq_any fun _ hK1 => ?_
  refine rp0 hst0 hfr0 (.cons rfl (ob_box rfl rfl) <| .cons rfl (ob_assign rfl) <| .nil) ?_
  intro a1 w1 m1 hst1 hle1 hk1
  have hfr1 := hk1.fr (T' := []) (.nil)
  obtain ⟨g2, e2, hc1⟩ := hk1.ex 1 rfl
  replace hfr1 := hfr1.cons e2
  replace h_t := h_t.mono hle1
  clear hst0 hfr0 hk1
  refine hK1 _ _ ?_; clear hK1
  refine seq_any fun _ hK3 => ?_
  refine seq_any fun _ hK4 => ?_
  refine rp0 hst1 hfr1 (.cons rfl (ob_fieldAddrO (off := 0) rfl Tryd.underlying25 rfl rfl Tryd.sizeOf3 rfl) <| .cons rfl (ob_load1 rfl hc1 Tryd.isAgg3 rfl) <| .cons rfl (ob_eql rfl rfl) <| .nil) ?_
  intro a2 w2 m2 hst2 hle2 hk2
  have hfr2 := hk2.fr (T' := [(1, _), (5, _)]) (.old rfl rfl <| .new rfl <| .nil)
  replace h_t := h_t.mono hle2
  replace hc1 := hc1.mono hle2
  clear hst1 hfr1 hk2
  refine hK4 _ _ ?_; clear hK4
  refine cond_any hfr2 rfl rfl (fun hb5 => ?_) (fun hb5 => ?_)
  · try simp only [nq1, nq2, nq3, nq4, nq5, nq6, nq7, nq8, nq9, u8_eq] at hb5
    refine seq_any fun _ hK5 => ?_
    refine rp0 hst2 hfr2 (.cons rfl (ob_loadS' rfl hc1 Tryd.isAgg25 Tryd.sizeOf25 rfl rfl) <| .cons rfl (ob_callE rfl (.cons rfl <| .nil) Tryd.call37 (fun w m hK => by have hle_ := KC.le hK; have hA := KC.agree hK; have h_t := h_t.mono hle_; exact iht hA h_t hrt hb)) <| .cons rfl (ob_sadd rfl rfl (by first | omega | (simp only [List.length_append, List.length_cons, List.length_nil, List.length_map]; omega))) <| .cons rfl (ob_sadd rfl rfl (by first | omega | (simp only [List.length_append, List.length_cons, List.length_nil, List.length_map]; omega))) <| .cons rfl (ob_assign rfl) <| .nil) ?_
    intro a3 w3 m3 hst3 hle3 hk3
    have hfr3 := hk3.fr (T' := [(2, _)]) (.new rfl <| .nil)
    clear hst2 hfr2 hk3
    refine hK5 _ _ ?_; clear hK5
    refine wp_ret ?_
    repeat (with_reducible first | refine then_ret ?_ | refine block_ret ?_)
    exact fn_ret hst3 hfr3 rfl (.tmp rfl <| .nil) (by refine congrArg S ?_; unfold plainC; rw [if_pos hb5]; rfl)
  · try simp only [nq1, nq2, nq3, nq4, nq5, nq6, nq7, nq8, nq9, u8_eq] at hb5
    refine wp_skip ?_
    refine hK3 _ _ ?_; clear hK3
    refine seq_any fun _ hK7 => ?_
    refine rp0 hst2 hfr2 (.cons rfl (ob_loadS' rfl hc1 Tryd.isAgg25 Tryd.sizeOf25 rfl rfl) <| .cons rfl (ob_callE rfl (.cons rfl <| .nil) Tryd.call37 (fun w m hK => by have hle_ := KC.le hK; have hA := KC.agree hK; have h_t := h_t.mono hle_; exact iht hA h_t hrt hb)) <| .cons rfl (ob_assign rfl) <| .nil) ?_
    intro a3 w3 m3 hst3 hle3 hk3
    have hfr3 := hk3.fr (T' := [(2, _)]) (.new rfl <| .nil)
    clear hst2 hfr2 hk3
    refine hK7 _ _ ?_; clear hK7
    refine wp_ret ?_
    repeat (with_reducible first | refine then_ret ?_ | refine block_ret ?_)
    exact fn_ret hst3 hfr3 rfl (.tmp rfl <| .nil) (by refine congrArg S ?_; unfold plainC; rw [if_neg hb5])


set_option maxHeartbeats 3200000 in
theorem rtext_s {t : Cd} (ihk : ∀ u ∈ t.kids, rtext_G u) (iha : ∀ a ∈ t.arms, rtext_G a.body) {w : World} {m : Mem} {vs_t : List Value} (hA : Agree w m) (h_t : CdR m t vs_t) (hrt : rightC t = true) (hb : bulkC t ≤ 100000000) : FnV Tryd.prog 37 #[.agg vs_t.toArray] w m (fun _ _ v => v = S (textC t)) := by
  obtain ⟨⟨oK_t, cK_t, oA_t, cA_t⟩, rfl, ⟨hik_t, hin_t⟩, hkk_t, haa_t⟩ := h_t.open_
  dsimp only at hkk_t haa_t
  have hbg_t := hkk_t.big; have hcp_t := hkk_t.cap; have hbh_t := haa_t.big; have hcq_t := haa_t.cap
  refine fn_enter (vs := [_]) Tryd.func37 rfl rfl rfl fun a0 hfr0 => ?_
  have hst0 := st_enter hA (loc_nil [] _ w m)
  have hM : MLe m m := MLe.refl m
  have hbe := bulkC_eq t
  have hrk9 := right_kindT hrt
  have hre9 := rightC_eq t
  rw [hrt] at hre9
  have hkr9 : t.kids.all rightC = true := by revert hre9; cases t.kids.all rightC <;> simp
  have har9 : (t.arms.all fun a => rightC a.body) = true := by revert hre9; cases (t.arms.all fun a => rightC a.body) <;> simp
  refine seq_any fun _ hK1 => ?_
  refine rp0 hst0 hfr0 (.cons rfl (ob_box rfl rfl) <| .cons rfl (ob_assign rfl) <| .nil) ?_
  intro a1 w1 m1 hst1 hle1 hk1
  have hfr1 := hk1.fr (T' := []) (.nil)
  obtain ⟨g2, e2, hc1⟩ := hk1.ex 1 rfl
  replace hfr1 := hfr1.cons e2
  replace hkk_t := hkk_t.mono hle1
  replace haa_t := haa_t.mono hle1
  clear hst0 hfr0 hk1
  refine hK1 _ _ ?_; clear hK1
  refine seq_any fun _ hK3 => ?_
  refine rp0 hst1 hfr1 (.cons rfl (ob_assign rfl) <| .nil) ?_
  intro a2 w2 m2 hst2 hle2 hk2
  have hfr2 := hk2.fr (T' := [(1, _), (3, _)]) (.old rfl rfl <| .new rfl <| .nil)
  replace hkk_t := hkk_t.mono hle2
  replace haa_t := haa_t.mono hle2
  replace hc1 := hc1.mono hle2
  clear hst1 hfr1 hk2
  refine hK3 _ _ ?_; clear hK3
  refine seq_any fun _ hK4 => ?_
  refine rp0 hst2 hfr2 (.cons rfl (ob_assign rfl) <| .nil) ?_
  intro a3 w3 m3 hst3 hle3 hk3
  have hfr3 := hk3.fr (T' := [(1, _), (3, _), (4, _)]) (.old rfl rfl <| .old rfl rfl <| .new rfl <| .nil)
  replace hkk_t := hkk_t.mono hle3
  replace haa_t := haa_t.mono hle3
  replace hc1 := hc1.mono hle3
  clear hst2 hfr2 hk3
  refine hK4 _ _ ?_; clear hK4
  refine join_any (T := [(1, _)]) (fun (y : Str × Nat) => ([(3, S y.1), (4, .int .i64 (y.2 : Nat))] : List (Nat × Value))) (fun y => []) (fun (y : Str × Nat) m => (fun (hs : Str) (fr : Nat) => (hs = joinW (headW t.kind t.name t.param)) ∧ (fr = fromC t.kind t.kids.length) ∧ (4 < t.kind ∧ t.kind ≤ 15)) y.1 y.2) (([], 0)) ⟨hst3, MLe.refl _, hfr3.sub (.cons rfl <| .cons rfl <| .cons rfl <| .nil), trivial⟩ (fun y a4 w4 m4 hh4 => ?_) (fun K5 hj5 => ?_)
  · have hst4 := hh4.st; have hle4 := hh4.le; have hfr4 := hh4.fr; have hrel := hh4.rel; clear hh4
    replace hkk_t := hkk_t.mono hle4
    replace haa_t := haa_t.mono hle4
    replace hc1 := hc1.mono hle4
    clear hst3 hfr3
    obtain ⟨hs, fr⟩ := y
    dsimp only at hrel hfr4 hst4
    obtain ⟨hhs, hfr9, hk4⟩ := hrel
    subst hhs
    subst hfr9
    have hjl9 := join_len1 (headW t.kind t.name t.param); have hhl9 := headW_sum t.kind t.name t.param
    have htw9 := text_words hk4
    refine seq_any fun _ hK6 => ?_
    refine seq_any fun _ hK7 => ?_
    refine rp0 hst4 hfr4 (.cons rfl (ob_assign rfl) <| .nil) ?_
    intro a5 w5 m5 hst5 hle5 hk5
    have hfr5 := hk5.fr (T' := [(3, _), (4, _), (1, _), (5, _)]) (.old rfl rfl <| .old rfl rfl <| .old rfl rfl <| .new rfl <| .nil)
    replace hkk_t := hkk_t.mono hle5
    replace haa_t := haa_t.mono hle5
    replace hc1 := hc1.mono hle5
    clear hst4 hfr4 hk5
    refine hK7 _ _ ?_; clear hK7
    refine wp_block ?_
    refine loop_any (T := [(4, _), (1, _)]) (fun (y : Nat × Str) => ([(3, S y.2), (5, .int .i64 (y.1 : Int))] : List (Nat × Value))) (fun _ => _) (fun (y : Nat × Str) m => (fun (y : Nat) (sk : Str) => (y ≤ t.kids.length) ∧ (sk ++ spc (kidsW (fromC t.kind t.kids.length) y (t.kids.drop y)) = joinW (headW t.kind t.name t.param) ++ spc (kidsW (fromC t.kind t.kids.length) 0 t.kids))) y.1 y.2) (fun y => t.kids.length - y.1) ((0, joinW (headW t.kind t.name t.param))) ⟨hst5, MLe.refl _, hfr5.sub (.cons rfl <| .cons rfl <| .cons rfl <| .cons rfl <| .nil), ⟨Nat.zero_le _, rfl⟩⟩ fun y a6 w6 m6 hh6 => ?_
    have hst6 := hh6.st; have hle6 := hh6.le; have hfr6 := hh6.fr; have hrel := hh6.rel; clear hh6
    replace hkk_t := hkk_t.mono hle6
    replace haa_t := haa_t.mono hle6
    replace hc1 := hc1.mono hle6
    clear hst5 hfr5
    obtain ⟨y, sk⟩ := y
    dsimp only at hrel hfr6 hst6
    obtain ⟨hyn, hsk⟩ := hrel
    have hlh6 := hle6
    refine seq_any fun _ hK9 => ?_
    refine seq_any fun _ hK10 => ?_
    refine rp0 hst6 hfr6 (.cons rfl (ob_move rfl) <| .cons rfl (ob_fieldAddrO (off := 4) rfl Tryd.underlying25 rfl rfl Tryd.sizeOf22 rfl) <| .cons rfl (ob_load1 rfl hc1 Tryd.isAgg22 rfl) <| .cons rfl (ob_len rfl Tryd.underlying22) <| .cons rfl (ob_lss rfl rfl) <| .nil) ?_
    intro a7 w7 m7 hst7 hle7 hk7
    have hfr7 := hk7.fr (T' := [(3, _), (5, _), (4, _), (1, _), (86, _)]) (.old rfl rfl <| .old rfl rfl <| .old rfl rfl <| .old rfl rfl <| .new rfl <| .nil)
    replace hkk_t := hkk_t.mono hle7
    replace haa_t := haa_t.mono hle7
    replace hc1 := hc1.mono hle7
    have hlh7 := hlh6.trans hle7
    clear hst6 hfr6 hk7
    refine hK10 _ _ ?_; clear hK10
    refine cond_any hfr7 rfl rfl (fun hb86 => ?_) (fun hb86 => ?_)
    · try simp only [nq1, nq2, nq3, nq4, nq5, nq6, nq7, nq8, nq9, u8_eq] at hb86
      refine wp_skip ?_
      refine hK9 _ _ ?_; clear hK9
      refine seq_any fun _ hK11 => ?_
      refine wp_block ?_
      refine seq_any fun _ hK12 => ?_
      obtain ⟨p13, vs13, x13, ho13, hd13, hm_x13, ht13, hcv13, hl13, hv13⟩ := hkk_t.nth (k := y) (by omega)
      cases ho13
      obtain ⟨⟨oK13, cK13, oA13, cA13⟩, rfl, ⟨hik13, hin13⟩, hkk13, haa13⟩ := hv13.open_
      dsimp only at hkk13 haa13
      have hbg13 := hkk13.big; have hcp13 := hkk13.cap; have hbh13 := haa13.big; have hcq13 := haa13.cap
      rw [hd13, kidsW_cons, spc_cons] at hsk
      have hsl9 := congrArg List.length hsk
      simp only [List.length_append, List.length_cons, spc_len] at hsl9
      have htl9 := (text_len t).1
      rw [htw9] at htl9
      simp only [List.length_append, spc_len] at htl9
      have hru9 : rightC x13 = true := List.all_eq_true.1 hkr9 _ hm_x13
      have hbk9 := bulk_kid hm_x13
      refine rp0 hst7 hfr7 (.cons rfl (ob_move rfl) <| .cons rfl (ob_move rfl) <| .cons rfl (ob_lss rfl rfl) <| .nil) ?_
      intro a8 w8 m8 hst8 hle8 hk8
      have hfr8 := hk8.fr (T' := [(3, _), (5, _), (4, _), (1, _), (91, _)]) (.old rfl rfl <| .old rfl rfl <| .old rfl rfl <| .old rfl rfl <| .new rfl <| .nil)
      replace hc1 := hc1.mono hle8
      replace hcv13 := hcv13.mono hle8
      replace hv13 := hv13.mono hle8
      have hlh8 := hlh7.trans hle8
      clear hst7 hfr7 hk8
      refine hK12 _ _ ?_; clear hK12
      refine cond_any hfr8 rfl rfl (fun hb91 => ?_) (fun hb91 => ?_)
      · try simp only [nq1, nq2, nq3, nq4, nq5, nq6, nq7, nq8, nq9, u8_eq] at hb91
        have hkw9 : kidW (fromC t.kind t.kids.length) y x13 = plainC x13 := by unfold kidW; rw [if_pos (by omega)]
        rw [hkw9] at hsk hsl9
        have hpl9 : (plainC x13).length ≤ bulkC x13 := by have := (text_len x13).1; unfold plainC bracesC; split; (simp only [List.length_append, List.length_cons, List.length_nil]; omega); omega
        refine rp0 hst8 hfr8 (.cons rfl (ob_move rfl) <| .cons rfl (ob_sadd rfl rfl (by first | omega | (simp only [List.length_append, List.length_cons, List.length_nil, List.length_map]; omega))) <| .cons rfl (ob_fieldAddrO (off := 4) rfl Tryd.underlying25 rfl rfl Tryd.sizeOf22 rfl) <| .cons rfl (ob_load1 rfl hc1 Tryd.isAgg22 rfl) <| .cons rfl (ob_move rfl) <| .cons rfl (ob_indexAddr (k := y) rfl rfl Tryd.underlying22 Tryd.sizeOf25 rfl (by omega)) <| .cons rfl (ob_loadS' rfl hcv13 Tryd.isAgg25 Tryd.sizeOf25 rfl rfl) <| .cons rfl (ob_callE rfl (.cons rfl <| .nil) Tryd.call60 (fun w m hK => by have hle_ := KC.le hK; have hA := KC.agree hK; have hv13 := hv13.mono hle_; exact ratomT_c hA hv13 (ihk x13 hm_x13) hru9 (by omega))) <| .cons rfl (ob_sadd rfl rfl (by first | omega | (simp only [List.length_append, List.length_cons, List.length_nil, List.length_map]; omega))) <| .cons rfl (ob_assign rfl) <| .nil) ?_
        intro a9 w9 m9 hst9 hle9 hk9
        have hfr9 := hk9.fr (T' := [(5, _), (4, _), (1, _), (3, _)]) (.old rfl rfl <| .old rfl rfl <| .old rfl rfl <| .new rfl <| .nil)
        have hlh9 := hlh8.trans hle9
        clear hst8 hfr8 hk9
        refine hK11 _ _ ?_; clear hK11
        refine rp0 hst9 hfr9 (.cons rfl (ob_move rfl) <| .cons rfl (ob_add rfl rfl ⟨by omega, by omega⟩) <| .cons rfl (ob_assign rfl) <| .nil) ?_
        intro a10 w10 m10 hst10 hle10 hk10
        have hfr10 := hk10.fr (T' := [(4, _), (1, _), (3, _), (5, _)]) (.old rfl rfl <| .old rfl rfl <| .old rfl rfl <| .new rfl <| .nil)
        have hlh10 := hlh9.trans hle10
        clear hst9 hfr9 hk10
        exact ⟨(y + 1, ((sk ++ [32]) ++ plainC x13)), m10, by show t.kids.length - (y + 1) < t.kids.length - y; omega, ⟨hst10, hlh10, hfr10.sub (.cons rfl <| .cons rfl <| .cons rfl <| .cons rfl <| .nil), ⟨by show y + 1 ≤ t.kids.length; omega, by rw [← hsk]; simp⟩⟩⟩
      · try simp only [nq1, nq2, nq3, nq4, nq5, nq6, nq7, nq8, nq9, u8_eq] at hb91
        have hkw9 : kidW (fromC t.kind t.kids.length) y x13 = bracesC x13 := by unfold kidW; rw [if_neg (by omega)]
        rw [hkw9] at hsk hsl9
        have hpl9 := (text_len x13).1
        refine rp0 hst8 hfr8 (.cons rfl (ob_move rfl) <| .cons rfl (ob_sadd rfl rfl (by first | omega | (simp only [List.length_append, List.length_cons, List.length_nil, List.length_map]; omega))) <| .cons rfl (ob_fieldAddrO (off := 4) rfl Tryd.underlying25 rfl rfl Tryd.sizeOf22 rfl) <| .cons rfl (ob_load1 rfl hc1 Tryd.isAgg22 rfl) <| .cons rfl (ob_move rfl) <| .cons rfl (ob_indexAddr (k := y) rfl rfl Tryd.underlying22 Tryd.sizeOf25 rfl (by omega)) <| .cons rfl (ob_loadS' rfl hcv13 Tryd.isAgg25 Tryd.sizeOf25 rfl rfl) <| .cons rfl (ob_callE rfl (.cons rfl <| .nil) Tryd.call37 (fun w m hK => by have hle_ := KC.le hK; have hA := KC.agree hK; have hv13 := hv13.mono hle_; exact ihk x13 hm_x13 hA hv13 hru9 (by omega))) <| .cons rfl (ob_sadd rfl rfl (by first | omega | (simp only [List.length_append, List.length_cons, List.length_nil, List.length_map]; omega))) <| .cons rfl (ob_sadd rfl rfl (by first | omega | (simp only [List.length_append, List.length_cons, List.length_nil, List.length_map]; omega))) <| .cons rfl (ob_assign rfl) <| .nil) ?_
        intro a9 w9 m9 hst9 hle9 hk9
        have hfr9 := hk9.fr (T' := [(5, _), (4, _), (1, _), (3, _)]) (.old rfl rfl <| .old rfl rfl <| .old rfl rfl <| .new rfl <| .nil)
        have hlh9 := hlh8.trans hle9
        clear hst8 hfr8 hk9
        refine hK11 _ _ ?_; clear hK11
        refine rp0 hst9 hfr9 (.cons rfl (ob_move rfl) <| .cons rfl (ob_add rfl rfl ⟨by omega, by omega⟩) <| .cons rfl (ob_assign rfl) <| .nil) ?_
        intro a10 w10 m10 hst10 hle10 hk10
        have hfr10 := hk10.fr (T' := [(4, _), (1, _), (3, _), (5, _)]) (.old rfl rfl <| .old rfl rfl <| .old rfl rfl <| .new rfl <| .nil)
        have hlh10 := hlh9.trans hle10
        clear hst9 hfr9 hk10
        exact ⟨(y + 1, (((sk ++ [32, 123, 32]) ++ textC x13) ++ [32, 125])), m10, by show t.kids.length - (y + 1) < t.kids.length - y; omega, ⟨hst10, hlh10, hfr10.sub (.cons rfl <| .cons rfl <| .cons rfl <| .cons rfl <| .nil), ⟨by show y + 1 ≤ t.kids.length; omega, by rw [← hsk]; simp [bracesC]⟩⟩⟩
    · try simp only [nq1, nq2, nq3, nq4, nq5, nq6, nq7, nq8, nq9, u8_eq] at hb86
      have hge : y = t.kids.length := by omega
      rw [List.drop_of_length_le (by omega), kidsW, show spc [] = [] from rfl, List.append_nil] at hsk
      refine wp_exit ?_
      refine hK6 _ _ ?_; clear hK6
      refine seq_any fun _ hK14 => ?_
      refine seq_any fun _ hK15 => ?_
      refine rp0 hst7 hfr7 (.cons rfl (ob_assign rfl) <| .nil) ?_
      intro a8 w8 m8 hst8 hle8 hk8
      have hfr8 := hk8.fr (T' := [(3, _), (5, _), (4, _), (1, _), (6, _)]) (.old rfl rfl <| .old rfl rfl <| .old rfl rfl <| .old rfl rfl <| .new rfl <| .nil)
      replace haa_t := haa_t.mono hle8
      replace hc1 := hc1.mono hle8
      have hlh8 := hlh7.trans hle8
      clear hst7 hfr7 hk8
      refine hK15 _ _ ?_; clear hK15
      refine wp_block ?_
      have hlq16 := hlh8
      refine loop_any (T := [(5, _), (4, _), (1, _)]) (fun (y : Nat × Str) => ([(3, S y.2), (6, .int .i64 (y.1 : Int))] : List (Nat × Value))) (fun _ => _) (fun (y : Nat × Str) m => (fun (y : Nat) (sa : Str) => (y ≤ t.arms.length) ∧ (sa ++ spc (armsW (t.arms.drop y)) = textC t)) y.1 y.2) (fun y => t.arms.length - y.1) ((0, sk)) ⟨hst8, MLe.refl _, hfr8.sub (.cons rfl <| .cons rfl <| .cons rfl <| .cons rfl <| .cons rfl <| .nil), ⟨Nat.zero_le _, by rw [hsk, htw9]; rfl⟩⟩ fun y a9 w9 m9 hh9 => ?_
      have hst9 := hh9.st; have hle9 := hh9.le; have hfr9 := hh9.fr; have hrel := hh9.rel; clear hh9
      replace haa_t := haa_t.mono hle9
      replace hc1 := hc1.mono hle9
      clear hst8 hfr8
      obtain ⟨y, sa⟩ := y
      dsimp only at hrel hfr9 hst9
      obtain ⟨hyn, hsa⟩ := hrel
      have hlh9 := hle9
      refine seq_any fun _ hK17 => ?_
      refine seq_any fun _ hK18 => ?_
      refine rp0 hst9 hfr9 (.cons rfl (ob_move rfl) <| .cons rfl (ob_fieldAddrO (off := 5) rfl Tryd.underlying25 rfl rfl Tryd.sizeOf23 rfl) <| .cons rfl (ob_load1 rfl hc1 Tryd.isAgg23 rfl) <| .cons rfl (ob_len rfl Tryd.underlying23) <| .cons rfl (ob_lss rfl rfl) <| .nil) ?_
      intro a10 w10 m10 hst10 hle10 hk10
      have hfr10 := hk10.fr (T' := [(3, _), (6, _), (5, _), (4, _), (1, _), (115, _)]) (.old rfl rfl <| .old rfl rfl <| .old rfl rfl <| .old rfl rfl <| .old rfl rfl <| .new rfl <| .nil)
      replace haa_t := haa_t.mono hle10
      replace hc1 := hc1.mono hle10
      have hlh10 := hlh9.trans hle10
      clear hst9 hfr9 hk10
      refine hK18 _ _ ?_; clear hK18
      refine cond_any hfr10 rfl rfl (fun hb115 => ?_) (fun hb115 => ?_)
      · try simp only [nq1, nq2, nq3, nq4, nq5, nq6, nq7, nq8, nq9, u8_eq] at hb115
        refine wp_skip ?_
        refine hK17 _ _ ?_; clear hK17
        refine seq_any fun _ hK19 => ?_
        refine wp_block ?_
        refine seq_any fun _ hK20 => ?_
        obtain ⟨p21, vs21, x21, ho21, hd21, hm_x21, ht21, hcv21, hl21, hv21⟩ := haa_t.nth (k := y) (by omega)
        cases ho21
        obtain ⟨oV21, cV21, bs21, rfl, hva21, hbd21⟩ := hv21.open_
        have hbv21 := hva21.big; have hcv21_ := hva21.cap
        obtain ⟨⟨oK21b, cK21b, oA21b, cA21b⟩, rfl, ⟨hik21b, hin21b⟩, hkk21b, haa21b⟩ := hbd21.open_
        dsimp only at hkk21b haa21b
        have hbg21b := hkk21b.big; have hcp21b := hkk21b.cap; have hbh21b := haa21b.big; have hcq21b := haa21b.cap
        rw [hd21, armsW_cons, spc_app] at hsa
        have hsl8 := congrArg List.length hsa
        simp only [List.length_append, spc_len] at hsl8
        have htl8 := (text_len t).1
        have hra9 : rightC x21.body = true := List.all_eq_true.1 har9 _ hm_x21
        have hba9 := bulk_arm hm_x21
        have hbl8 := (text_len x21.body).1
        have hvt9 := wsum_two x21.vars
        refine rp0 hst10 hfr10 (.cons rfl (ob_move rfl) <| .cons rfl (ob_sadd rfl rfl (by first | omega | (simp only [List.length_append, List.length_cons, List.length_nil, List.length_map]; omega))) <| .cons rfl (ob_assign rfl) <| .nil) ?_
        intro a11 w11 m11 hst11 hle11 hk11
        have hfr11 := hk11.fr (T' := [(6, _), (5, _), (4, _), (1, _), (3, _)]) (.old rfl rfl <| .old rfl rfl <| .old rfl rfl <| .old rfl rfl <| .new rfl <| .nil)
        replace hc1 := hc1.mono hle11
        replace hcv21 := hcv21.mono hle11
        replace hva21 := hva21.mono hle11
        replace hbd21 := hbd21.mono hle11
        have hlh11 := hlh10.trans hle11
        clear hst10 hfr10 hk11
        refine hK20 _ _ ?_; clear hK20
        refine seq_any fun _ hK22 => ?_
        refine seq_any fun _ hK23 => ?_
        refine rp0 hst11 hfr11 (.cons rfl (ob_fieldAddrO (off := 5) rfl Tryd.underlying25 rfl rfl Tryd.sizeOf23 rfl) <| .cons rfl (ob_load1 rfl hc1 Tryd.isAgg23 rfl) <| .cons rfl (ob_move rfl) <| .cons rfl (ob_indexAddr (k := y) rfl rfl Tryd.underlying23 Tryd.sizeOf35 rfl (by omega)) <| .cons rfl (ob_fieldAddrO (off := 2) rfl Tryd.underlying35 rfl rfl Tryd.sizeOf4 rfl) <| .cons rfl (ob_load1 rfl hcv21 Tryd.isAgg4 rfl) <| .nil) ?_
        intro a12 w12 m12 hst12 hle12 hk12
        have hfr12 := hk12.fr (T' := [(6, _), (5, _), (4, _), (1, _), (3, _), (125, _)]) (.old rfl rfl <| .old rfl rfl <| .old rfl rfl <| .old rfl rfl <| .old rfl rfl <| .new rfl <| .nil)
        replace hc1 := hc1.mono hle12
        replace hcv21 := hcv21.mono hle12
        replace hva21 := hva21.mono hle12
        replace hbd21 := hbd21.mono hle12
        have hlh12 := hlh11.trans hle12
        clear hst11 hfr11 hk12
        refine hK23 _ _ ?_; clear hK23
        refine cond_any hfr12 rfl rfl (fun hb125 => ?_) (fun hb125 => ?_)
        · try simp only [nq1, nq2, nq3, nq4, nq5, nq6, nq7, nq8, nq9, u8_eq] at hb125
          refine rp0 hst12 hfr12 (.cons rfl (ob_move rfl) <| .cons rfl (ob_sadd rfl rfl (by first | omega | (simp only [List.length_append, List.length_cons, List.length_nil, List.length_map]; omega))) <| .cons rfl (ob_assign rfl) <| .nil) ?_
          intro a13 w13 m13 hst13 hle13 hk13
          have hfr13 := hk13.fr (T' := [(6, _), (5, _), (4, _), (1, _), (3, _)]) (.old rfl rfl <| .old rfl rfl <| .old rfl rfl <| .old rfl rfl <| .new rfl <| .nil)
          replace hc1 := hc1.mono hle13
          replace hcv21 := hcv21.mono hle13
          replace hva21 := hva21.mono hle13
          replace hbd21 := hbd21.mono hle13
          have hlh13 := hlh12.trans hle13
          clear hst12 hfr12 hk13
          refine hK22 _ _ ?_; clear hK22
          refine seq_any fun _ hK24 => ?_
          refine rp0 hst13 hfr13 (.cons rfl (ob_move rfl) <| .cons rfl (ob_sadd rfl rfl (by first | omega | (simp only [List.length_append, List.length_cons, List.length_nil, List.length_map]; omega))) <| .cons rfl (ob_fieldAddrO (off := 5) rfl Tryd.underlying25 rfl rfl Tryd.sizeOf23 rfl) <| .cons rfl (ob_load1 rfl hc1 Tryd.isAgg23 rfl) <| .cons rfl (ob_move rfl) <| .cons rfl (ob_indexAddr (k := y) rfl rfl Tryd.underlying23 Tryd.sizeOf35 rfl (by omega)) <| .cons rfl (ob_fieldAddrO (off := 0) rfl Tryd.underlying35 rfl rfl Tryd.sizeOf9 rfl) <| .cons rfl (ob_load1 rfl hcv21 Tryd.isAgg9 rfl) <| .cons rfl (ob_sadd rfl rfl (by first | omega | (simp only [List.length_append, List.length_cons, List.length_nil, List.length_map]; omega))) <| .cons rfl (ob_assign rfl) <| .nil) ?_
          intro a14 w14 m14 hst14 hle14 hk14
          have hfr14 := hk14.fr (T' := [(6, _), (5, _), (4, _), (1, _), (3, _)]) (.old rfl rfl <| .old rfl rfl <| .old rfl rfl <| .old rfl rfl <| .new rfl <| .nil)
          replace hc1 := hc1.mono hle14
          replace hcv21 := hcv21.mono hle14
          replace hva21 := hva21.mono hle14
          replace hbd21 := hbd21.mono hle14
          have hlh14 := hlh13.trans hle14
          clear hst13 hfr13 hk14
          refine hK24 _ _ ?_; clear hK24
          refine seq_any fun _ hK25 => ?_
          refine seq_any fun _ hK26 => ?_
          refine rp0 hst14 hfr14 (.cons rfl (ob_assign rfl) <| .nil) ?_
          intro a15 w15 m15 hst15 hle15 hk15
          have hfr15 := hk15.fr (T' := [(6, _), (5, _), (4, _), (1, _), (3, _), (7, _)]) (.old rfl rfl <| .old rfl rfl <| .old rfl rfl <| .old rfl rfl <| .old rfl rfl <| .new rfl <| .nil)
          replace hc1 := hc1.mono hle15
          replace hcv21 := hcv21.mono hle15
          replace hva21 := hva21.mono hle15
          replace hbd21 := hbd21.mono hle15
          have hlh15 := hlh14.trans hle15
          clear hst14 hfr14 hk15
          refine hK26 _ _ ?_; clear hK26
          refine wp_block ?_
          have hlq27 := hlh15
          refine loop_any (T := [(6, _), (5, _), (4, _), (1, _)]) (fun (k : Nat × Str) => ([(3, S k.2), (7, .int .i64 (k.1 : Int))] : List (Nat × Value))) (fun _ => _) (fun (k : Nat × Str) m => (fun (k : Nat) (sv : Str) => (k ≤ x21.vars.length) ∧ (sv ++ spc (x21.vars.drop k) = ((((sa ++ [32, 124]) ++ [32, 116, 97, 105, 108]) ++ [32]) ++ x21.name) ++ spc x21.vars)) k.1 k.2) (fun k => x21.vars.length - k.1) ((0, ((((sa ++ [32, 124]) ++ [32, 116, 97, 105, 108]) ++ [32]) ++ x21.name))) ⟨hst15, MLe.refl _, hfr15.sub (.cons rfl <| .cons rfl <| .cons rfl <| .cons rfl <| .cons rfl <| .cons rfl <| .nil), ⟨Nat.zero_le _, rfl⟩⟩ fun k a16 w16 m16 hh16 => ?_
          have hst16 := hh16.st; have hle16 := hh16.le; have hfr16 := hh16.fr; have hrel := hh16.rel; clear hh16
          replace hc1 := hc1.mono hle16
          replace hcv21 := hcv21.mono hle16
          replace hva21 := hva21.mono hle16
          replace hbd21 := hbd21.mono hle16
          clear hst15 hfr15
          obtain ⟨k, sv⟩ := k
          dsimp only at hrel hfr16 hst16
          obtain ⟨hkn, hsv⟩ := hrel
          replace hlq27 := hlq27.trans hle16
          have hlh16 := hle16
          refine seq_any fun _ hK28 => ?_
          refine seq_any fun _ hK29 => ?_
          refine rp0 hst16 hfr16 (.cons rfl (ob_move rfl) <| .cons rfl (ob_fieldAddrO (off := 5) rfl Tryd.underlying25 rfl rfl Tryd.sizeOf23 rfl) <| .cons rfl (ob_load1 rfl hc1 Tryd.isAgg23 rfl) <| .cons rfl (ob_move rfl) <| .cons rfl (ob_indexAddr (k := y) rfl rfl Tryd.underlying23 Tryd.sizeOf35 rfl (by omega)) <| .cons rfl (ob_fieldAddrO (off := 1) rfl Tryd.underlying35 rfl rfl Tryd.sizeOf29 rfl) <| .cons rfl (ob_load1 rfl hcv21 Tryd.isAgg29 rfl) <| .cons rfl (ob_len rfl Tryd.underlying29) <| .cons rfl (ob_lss rfl rfl) <| .nil) ?_
          intro a17 w17 m17 hst17 hle17 hk17
          have hfr17 := hk17.fr (T' := [(3, _), (7, _), (6, _), (5, _), (4, _), (1, _), (145, _)]) (.old rfl rfl <| .old rfl rfl <| .old rfl rfl <| .old rfl rfl <| .old rfl rfl <| .old rfl rfl <| .new rfl <| .nil)
          replace hc1 := hc1.mono hle17
          replace hcv21 := hcv21.mono hle17
          replace hva21 := hva21.mono hle17
          replace hbd21 := hbd21.mono hle17
          have hlh17 := hlh16.trans hle17
          replace hlq27 := hlq27.trans hle17
          clear hst16 hfr16 hk17
          refine hK29 _ _ ?_; clear hK29
          refine cond_any hfr17 rfl rfl (fun hb145 => ?_) (fun hb145 => ?_)
          · try simp only [nq1, nq2, nq3, nq4, nq5, nq6, nq7, nq8, nq9, u8_eq] at hb145
            refine wp_skip ?_
            refine hK28 _ _ ?_; clear hK28
            refine seq_any fun _ hK30 => ?_
            refine wp_block ?_
            obtain ⟨p31, vs31, x31, ho31, hd31, hm_x31, ht31, hcv31, hl31, hv31⟩ := hva21.nth (k := k) (by omega)
            cases ho31
            subst hv31
            rw [hd31, spc_cons] at hsv
            have hsl7 := congrArg List.length hsv
            simp only [List.length_append, List.length_cons, spc_len, List.length_nil] at hsl7
            refine rp0 hst17 hfr17 (.cons rfl (ob_move rfl) <| .cons rfl (ob_sadd rfl rfl (by first | omega | (simp only [List.length_append, List.length_cons, List.length_nil, List.length_map]; omega))) <| .cons rfl (ob_fieldAddrO (off := 5) rfl Tryd.underlying25 rfl rfl Tryd.sizeOf23 rfl) <| .cons rfl (ob_load1 rfl hc1 Tryd.isAgg23 rfl) <| .cons rfl (ob_move rfl) <| .cons rfl (ob_indexAddr (k := y) rfl rfl Tryd.underlying23 Tryd.sizeOf35 rfl (by omega)) <| .cons rfl (ob_fieldAddrO (off := 1) rfl Tryd.underlying35 rfl rfl Tryd.sizeOf29 rfl) <| .cons rfl (ob_load1 rfl hcv21 Tryd.isAgg29 rfl) <| .cons rfl (ob_move rfl) <| .cons rfl (ob_indexAddr (k := k) rfl rfl Tryd.underlying29 Tryd.sizeOf9 rfl (by omega)) <| .cons rfl (ob_load1' rfl hcv31 Tryd.isAgg9 rfl) <| .cons rfl (ob_sadd rfl rfl (by first | omega | (simp only [List.length_append, List.length_cons, List.length_nil, List.length_map]; omega))) <| .cons rfl (ob_assign rfl) <| .nil) ?_
            intro a18 w18 m18 hst18 hle18 hk18
            have hfr18 := hk18.fr (T' := [(7, _), (6, _), (5, _), (4, _), (1, _), (3, _)]) (.old rfl rfl <| .old rfl rfl <| .old rfl rfl <| .old rfl rfl <| .old rfl rfl <| .new rfl <| .nil)
            have hlh18 := hlh17.trans hle18
            clear hst17 hfr17 hk18
            refine hK30 _ _ ?_; clear hK30
            refine rp0 hst18 hfr18 (.cons rfl (ob_move rfl) <| .cons rfl (ob_add rfl rfl ⟨by omega, by omega⟩) <| .cons rfl (ob_assign rfl) <| .nil) ?_
            intro a19 w19 m19 hst19 hle19 hk19
            have hfr19 := hk19.fr (T' := [(6, _), (5, _), (4, _), (1, _), (3, _), (7, _)]) (.old rfl rfl <| .old rfl rfl <| .old rfl rfl <| .old rfl rfl <| .old rfl rfl <| .new rfl <| .nil)
            have hlh19 := hlh18.trans hle19
            clear hst18 hfr18 hk19
            exact ⟨(k + 1, ((sv ++ [32]) ++ x31)), m19, by show x21.vars.length - (k + 1) < x21.vars.length - k; omega, ⟨hst19, hlh19, hfr19.sub (.cons rfl <| .cons rfl <| .cons rfl <| .cons rfl <| .cons rfl <| .cons rfl <| .nil), ⟨by show k + 1 ≤ x21.vars.length; omega, by rw [← hsv]; simp⟩⟩⟩
          · try simp only [nq1, nq2, nq3, nq4, nq5, nq6, nq7, nq8, nq9, u8_eq] at hb145
            have hgeV : k = x21.vars.length := by omega
            rw [List.drop_of_length_le (by omega), show spc [] = [] from rfl, List.append_nil] at hsv
            refine wp_exit ?_
            refine hK25 _ _ ?_; clear hK25
            have hsl6 := congrArg List.length hsv
            simp only [List.length_append, List.length_cons, spc_len, List.length_nil] at hsl6
            refine rp0 hst17 hfr17 (.cons rfl (ob_move rfl) <| .cons rfl (ob_sadd rfl rfl (by first | omega | (simp only [List.length_append, List.length_cons, List.length_nil, List.length_map]; omega))) <| .cons rfl (ob_fieldAddrO (off := 5) rfl Tryd.underlying25 rfl rfl Tryd.sizeOf23 rfl) <| .cons rfl (ob_load1 rfl hc1 Tryd.isAgg23 rfl) <| .cons rfl (ob_move rfl) <| .cons rfl (ob_indexAddr (k := y) rfl rfl Tryd.underlying23 Tryd.sizeOf35 rfl (by omega)) <| .cons rfl (ob_fieldAddrO (off := 3) rfl Tryd.underlying35 rfl rfl Tryd.sizeOf25 rfl) <| .cons rfl (ob_loadS rfl hcv21 Tryd.isAgg25 Tryd.sizeOf25 rfl rfl) <| .cons rfl (ob_callE rfl (.cons rfl <| .nil) Tryd.call37 (fun w m hK => by have hle_ := KC.le hK; have hA := KC.agree hK; have hbd21 := hbd21.mono hle_; exact iha x21 hm_x21 hA hbd21 hra9 (by omega))) <| .cons rfl (ob_sadd rfl rfl (by first | omega | (simp only [List.length_append, List.length_cons, List.length_nil, List.length_map]; omega))) <| .cons rfl (ob_sadd rfl rfl (by first | omega | (simp only [List.length_append, List.length_cons, List.length_nil, List.length_map]; omega))) <| .cons rfl (ob_assign rfl) <| .nil) ?_
            intro a18 w18 m18 hst18 hle18 hk18
            have hfr18 := hk18.fr (T' := [(7, _), (6, _), (5, _), (4, _), (1, _), (3, _)]) (.old rfl rfl <| .old rfl rfl <| .old rfl rfl <| .old rfl rfl <| .old rfl rfl <| .new rfl <| .nil)
            have hlh18 := hlh17.trans hle18
            replace hlq27 := hlq27.trans hle18
            clear hst17 hfr17 hk18
            refine hK19 _ _ ?_; clear hK19
            refine rp0 hst18 hfr18 (.cons rfl (ob_move rfl) <| .cons rfl (ob_add rfl rfl ⟨by omega, by omega⟩) <| .cons rfl (ob_assign rfl) <| .nil) ?_
            intro a19 w19 m19 hst19 hle19 hk19
            have hfr19 := hk19.fr (T' := [(7, _), (5, _), (4, _), (1, _), (3, _), (6, _)]) (.old rfl rfl <| .old rfl rfl <| .old rfl rfl <| .old rfl rfl <| .old rfl rfl <| .new rfl <| .nil)
            have hlh19 := hlh18.trans hle19
            replace hlq27 := hlq27.trans hle19
            clear hst18 hfr18 hk19
            exact ⟨(y + 1, (((sv ++ [32, 123, 32]) ++ textC x21.body) ++ [32, 125])), m19, by show t.arms.length - (y + 1) < t.arms.length - y; omega, ⟨hst19, hlq27, hfr19.sub (.cons rfl <| .cons rfl <| .cons rfl <| .cons rfl <| .cons rfl <| .nil), ⟨by show y + 1 ≤ t.arms.length; omega, by rw [← hsa, hsv]; unfold armW bracesC; rw [hb125]; simp [spc]⟩⟩⟩
        · try simp only [nq1, nq2, nq3, nq4, nq5, nq6, nq7, nq8, nq9, u8_eq] at hb125
          refine wp_skip ?_
          refine hK22 _ _ ?_; clear hK22
          refine seq_any fun _ hK32 => ?_
          refine rp0 hst12 hfr12 (.cons rfl (ob_move rfl) <| .cons rfl (ob_sadd rfl rfl (by first | omega | (simp only [List.length_append, List.length_cons, List.length_nil, List.length_map]; omega))) <| .cons rfl (ob_fieldAddrO (off := 5) rfl Tryd.underlying25 rfl rfl Tryd.sizeOf23 rfl) <| .cons rfl (ob_load1 rfl hc1 Tryd.isAgg23 rfl) <| .cons rfl (ob_move rfl) <| .cons rfl (ob_indexAddr (k := y) rfl rfl Tryd.underlying23 Tryd.sizeOf35 rfl (by omega)) <| .cons rfl (ob_fieldAddrO (off := 0) rfl Tryd.underlying35 rfl rfl Tryd.sizeOf9 rfl) <| .cons rfl (ob_load1 rfl hcv21 Tryd.isAgg9 rfl) <| .cons rfl (ob_sadd rfl rfl (by first | omega | (simp only [List.length_append, List.length_cons, List.length_nil, List.length_map]; omega))) <| .cons rfl (ob_assign rfl) <| .nil) ?_
          intro a13 w13 m13 hst13 hle13 hk13
          have hfr13 := hk13.fr (T' := [(6, _), (5, _), (4, _), (1, _), (3, _)]) (.old rfl rfl <| .old rfl rfl <| .old rfl rfl <| .old rfl rfl <| .new rfl <| .nil)
          replace hc1 := hc1.mono hle13
          replace hcv21 := hcv21.mono hle13
          replace hva21 := hva21.mono hle13
          replace hbd21 := hbd21.mono hle13
          have hlh13 := hlh12.trans hle13
          clear hst12 hfr12 hk13
          refine hK32 _ _ ?_; clear hK32
          refine seq_any fun _ hK33 => ?_
          refine seq_any fun _ hK34 => ?_
          refine rp0 hst13 hfr13 (.cons rfl (ob_assign rfl) <| .nil) ?_
          intro a14 w14 m14 hst14 hle14 hk14
          have hfr14 := hk14.fr (T' := [(6, _), (5, _), (4, _), (1, _), (3, _), (7, _)]) (.old rfl rfl <| .old rfl rfl <| .old rfl rfl <| .old rfl rfl <| .old rfl rfl <| .new rfl <| .nil)
          replace hc1 := hc1.mono hle14
          replace hcv21 := hcv21.mono hle14
          replace hva21 := hva21.mono hle14
          replace hbd21 := hbd21.mono hle14
          have hlh14 := hlh13.trans hle14
          clear hst13 hfr13 hk14
          refine hK34 _ _ ?_; clear hK34
          refine wp_block ?_
          have hlq35 := hlh14
          refine loop_any (T := [(6, _), (5, _), (4, _), (1, _)]) (fun (k : Nat × Str) => ([(3, S k.2), (7, .int .i64 (k.1 : Int))] : List (Nat × Value))) (fun _ => _) (fun (k : Nat × Str) m => (fun (k : Nat) (sv : Str) => (k ≤ x21.vars.length) ∧ (sv ++ spc (x21.vars.drop k) = (((sa ++ [32, 124]) ++ [32]) ++ x21.name) ++ spc x21.vars)) k.1 k.2) (fun k => x21.vars.length - k.1) ((0, (((sa ++ [32, 124]) ++ [32]) ++ x21.name))) ⟨hst14, MLe.refl _, hfr14.sub (.cons rfl <| .cons rfl <| .cons rfl <| .cons rfl <| .cons rfl <| .cons rfl <| .nil), ⟨Nat.zero_le _, rfl⟩⟩ fun k a15 w15 m15 hh15 => ?_
          have hst15 := hh15.st; have hle15 := hh15.le; have hfr15 := hh15.fr; have hrel := hh15.rel; clear hh15
          replace hc1 := hc1.mono hle15
          replace hcv21 := hcv21.mono hle15
          replace hva21 := hva21.mono hle15
          replace hbd21 := hbd21.mono hle15
          clear hst14 hfr14
          obtain ⟨k, sv⟩ := k
          dsimp only at hrel hfr15 hst15
          obtain ⟨hkn, hsv⟩ := hrel
          replace hlq35 := hlq35.trans hle15
          have hlh15 := hle15
          refine seq_any fun _ hK36 => ?_
          refine seq_any fun _ hK37 => ?_
          refine rp0 hst15 hfr15 (.cons rfl (ob_move rfl) <| .cons rfl (ob_fieldAddrO (off := 5) rfl Tryd.underlying25 rfl rfl Tryd.sizeOf23 rfl) <| .cons rfl (ob_load1 rfl hc1 Tryd.isAgg23 rfl) <| .cons rfl (ob_move rfl) <| .cons rfl (ob_indexAddr (k := y) rfl rfl Tryd.underlying23 Tryd.sizeOf35 rfl (by omega)) <| .cons rfl (ob_fieldAddrO (off := 1) rfl Tryd.underlying35 rfl rfl Tryd.sizeOf29 rfl) <| .cons rfl (ob_load1 rfl hcv21 Tryd.isAgg29 rfl) <| .cons rfl (ob_len rfl Tryd.underlying29) <| .cons rfl (ob_lss rfl rfl) <| .nil) ?_
          intro a16 w16 m16 hst16 hle16 hk16
          have hfr16 := hk16.fr (T' := [(3, _), (7, _), (6, _), (5, _), (4, _), (1, _), (145, _)]) (.old rfl rfl <| .old rfl rfl <| .old rfl rfl <| .old rfl rfl <| .old rfl rfl <| .old rfl rfl <| .new rfl <| .nil)
          replace hc1 := hc1.mono hle16
          replace hcv21 := hcv21.mono hle16
          replace hva21 := hva21.mono hle16
          replace hbd21 := hbd21.mono hle16
          have hlh16 := hlh15.trans hle16
          replace hlq35 := hlq35.trans hle16
          clear hst15 hfr15 hk16
          refine hK37 _ _ ?_; clear hK37
          refine cond_any hfr16 rfl rfl (fun hb145 => ?_) (fun hb145 => ?_)
          · try simp only [nq1, nq2, nq3, nq4, nq5, nq6, nq7, nq8, nq9, u8_eq] at hb145
            refine wp_skip ?_
            refine hK36 _ _ ?_; clear hK36
            refine seq_any fun _ hK38 => ?_
            refine wp_block ?_
            obtain ⟨p39, vs39, x39, ho39, hd39, hm_x39, ht39, hcv39, hl39, hv39⟩ := hva21.nth (k := k) (by omega)
            cases ho39
            subst hv39
            rw [hd39, spc_cons] at hsv
            have hsl7 := congrArg List.length hsv
            simp only [List.length_append, List.length_cons, spc_len, List.length_nil] at hsl7
            refine rp0 hst16 hfr16 (.cons rfl (ob_move rfl) <| .cons rfl (ob_sadd rfl rfl (by first | omega | (simp only [List.length_append, List.length_cons, List.length_nil, List.length_map]; omega))) <| .cons rfl (ob_fieldAddrO (off := 5) rfl Tryd.underlying25 rfl rfl Tryd.sizeOf23 rfl) <| .cons rfl (ob_load1 rfl hc1 Tryd.isAgg23 rfl) <| .cons rfl (ob_move rfl) <| .cons rfl (ob_indexAddr (k := y) rfl rfl Tryd.underlying23 Tryd.sizeOf35 rfl (by omega)) <| .cons rfl (ob_fieldAddrO (off := 1) rfl Tryd.underlying35 rfl rfl Tryd.sizeOf29 rfl) <| .cons rfl (ob_load1 rfl hcv21 Tryd.isAgg29 rfl) <| .cons rfl (ob_move rfl) <| .cons rfl (ob_indexAddr (k := k) rfl rfl Tryd.underlying29 Tryd.sizeOf9 rfl (by omega)) <| .cons rfl (ob_load1' rfl hcv39 Tryd.isAgg9 rfl) <| .cons rfl (ob_sadd rfl rfl (by first | omega | (simp only [List.length_append, List.length_cons, List.length_nil, List.length_map]; omega))) <| .cons rfl (ob_assign rfl) <| .nil) ?_
            intro a17 w17 m17 hst17 hle17 hk17
            have hfr17 := hk17.fr (T' := [(7, _), (6, _), (5, _), (4, _), (1, _), (3, _)]) (.old rfl rfl <| .old rfl rfl <| .old rfl rfl <| .old rfl rfl <| .old rfl rfl <| .new rfl <| .nil)
            have hlh17 := hlh16.trans hle17
            clear hst16 hfr16 hk17
            refine hK38 _ _ ?_; clear hK38
            refine rp0 hst17 hfr17 (.cons rfl (ob_move rfl) <| .cons rfl (ob_add rfl rfl ⟨by omega, by omega⟩) <| .cons rfl (ob_assign rfl) <| .nil) ?_
            intro a18 w18 m18 hst18 hle18 hk18
            have hfr18 := hk18.fr (T' := [(6, _), (5, _), (4, _), (1, _), (3, _), (7, _)]) (.old rfl rfl <| .old rfl rfl <| .old rfl rfl <| .old rfl rfl <| .old rfl rfl <| .new rfl <| .nil)
            have hlh18 := hlh17.trans hle18
            clear hst17 hfr17 hk18
            exact ⟨(k + 1, ((sv ++ [32]) ++ x39)), m18, by show x21.vars.length - (k + 1) < x21.vars.length - k; omega, ⟨hst18, hlh18, hfr18.sub (.cons rfl <| .cons rfl <| .cons rfl <| .cons rfl <| .cons rfl <| .cons rfl <| .nil), ⟨by show k + 1 ≤ x21.vars.length; omega, by rw [← hsv]; simp⟩⟩⟩
          · try simp only [nq1, nq2, nq3, nq4, nq5, nq6, nq7, nq8, nq9, u8_eq] at hb145
            have hgeV : k = x21.vars.length := by omega
            rw [List.drop_of_length_le (by omega), show spc [] = [] from rfl, List.append_nil] at hsv
            refine wp_exit ?_
            refine hK33 _ _ ?_; clear hK33
            have hsl6 := congrArg List.length hsv
            simp only [List.length_append, List.length_cons, spc_len, List.length_nil] at hsl6
            refine rp0 hst16 hfr16 (.cons rfl (ob_move rfl) <| .cons rfl (ob_sadd rfl rfl (by first | omega | (simp only [List.length_append, List.length_cons, List.length_nil, List.length_map]; omega))) <| .cons rfl (ob_fieldAddrO (off := 5) rfl Tryd.underlying25 rfl rfl Tryd.sizeOf23 rfl) <| .cons rfl (ob_load1 rfl hc1 Tryd.isAgg23 rfl) <| .cons rfl (ob_move rfl) <| .cons rfl (ob_indexAddr (k := y) rfl rfl Tryd.underlying23 Tryd.sizeOf35 rfl (by omega)) <| .cons rfl (ob_fieldAddrO (off := 3) rfl Tryd.underlying35 rfl rfl Tryd.sizeOf25 rfl) <| .cons rfl (ob_loadS rfl hcv21 Tryd.isAgg25 Tryd.sizeOf25 rfl rfl) <| .cons rfl (ob_callE rfl (.cons rfl <| .nil) Tryd.call37 (fun w m hK => by have hle_ := KC.le hK; have hA := KC.agree hK; have hbd21 := hbd21.mono hle_; exact iha x21 hm_x21 hA hbd21 hra9 (by omega))) <| .cons rfl (ob_sadd rfl rfl (by first | omega | (simp only [List.length_append, List.length_cons, List.length_nil, List.length_map]; omega))) <| .cons rfl (ob_sadd rfl rfl (by first | omega | (simp only [List.length_append, List.length_cons, List.length_nil, List.length_map]; omega))) <| .cons rfl (ob_assign rfl) <| .nil) ?_
            intro a17 w17 m17 hst17 hle17 hk17
            have hfr17 := hk17.fr (T' := [(7, _), (6, _), (5, _), (4, _), (1, _), (3, _)]) (.old rfl rfl <| .old rfl rfl <| .old rfl rfl <| .old rfl rfl <| .old rfl rfl <| .new rfl <| .nil)
            have hlh17 := hlh16.trans hle17
            replace hlq35 := hlq35.trans hle17
            clear hst16 hfr16 hk17
            refine hK19 _ _ ?_; clear hK19
            refine rp0 hst17 hfr17 (.cons rfl (ob_move rfl) <| .cons rfl (ob_add rfl rfl ⟨by omega, by omega⟩) <| .cons rfl (ob_assign rfl) <| .nil) ?_
            intro a18 w18 m18 hst18 hle18 hk18
            have hfr18 := hk18.fr (T' := [(7, _), (5, _), (4, _), (1, _), (3, _), (6, _)]) (.old rfl rfl <| .old rfl rfl <| .old rfl rfl <| .old rfl rfl <| .old rfl rfl <| .new rfl <| .nil)
            have hlh18 := hlh17.trans hle18
            replace hlq35 := hlq35.trans hle18
            clear hst17 hfr17 hk18
            exact ⟨(y + 1, (((sv ++ [32, 123, 32]) ++ textC x21.body) ++ [32, 125])), m18, by show t.arms.length - (y + 1) < t.arms.length - y; omega, ⟨hst18, hlq35, hfr18.sub (.cons rfl <| .cons rfl <| .cons rfl <| .cons rfl <| .cons rfl <| .nil), ⟨by show y + 1 ≤ t.arms.length; omega, by rw [← hsa, hsv]; unfold armW bracesC; rw [hb125]; simp [spc]⟩⟩⟩
      · try simp only [nq1, nq2, nq3, nq4, nq5, nq6, nq7, nq8, nq9, u8_eq] at hb115
        have hge : y = t.arms.length := by omega
        rw [List.drop_of_length_le (by omega), armsW, show spc [] = [] from rfl, List.append_nil] at hsa
        subst hsa
        refine wp_exit ?_
        refine hK14 _ _ ?_; clear hK14
        refine seq_any fun _ hK40 => ?_
        refine rp0 hst10 hfr10 (.cons rfl (ob_move rfl) <| .cons rfl (ob_assign rfl) <| .nil) ?_
        intro a11 w11 m11 hst11 hle11 hk11
        have hfr11 := hk11.fr (T' := [(3, _), (6, _), (5, _), (4, _), (2, _)]) (.old rfl rfl <| .old rfl rfl <| .old rfl rfl <| .old rfl rfl <| .new rfl <| .nil)
        have hlh11 := hlh10.trans hle11
        clear hst10 hfr10 hk11
        refine hK40 _ _ ?_; clear hK40
        refine wp_ret ?_
        repeat (with_reducible first | refine then_ret ?_ | refine block_ret ?_)
        exact fn_ret hst11 hfr11 rfl (.tmp rfl <| .nil) (rfl)
  · have hlj5 : MLe m3 m3 := MLe.refl _
    refine seq_any fun _ hK42 => ?_
    refine rp0 hst3 hfr3 (.cons rfl (ob_fieldAddrO (off := 0) rfl Tryd.underlying25 rfl rfl Tryd.sizeOf3 rfl) <| .cons rfl (ob_load1 rfl hc1 Tryd.isAgg3 rfl) <| .nil) ?_
    intro a4 w4 m4 hst4 hle4 hk4
    have hfr4 := hk4.fr (T' := [(1, _), (3, _), (4, _), (9, _)]) (.old rfl rfl <| .old rfl rfl <| .old rfl rfl <| .new rfl <| .nil)
    replace hc1 := hc1.mono hle4
    replace hlj5 := hlj5.trans hle4
    clear hst3 hfr3 hk4
    refine hK42 _ _ ?_; clear hK42
    refine wp_block ?_
    refine seq_any fun _ hK43 => ?_
    refine rp0 hst4 hfr4 (.cons rfl (ob_eql rfl rfl) <| .cons rfl (ob_assign rfl) <| .nil) ?_
    intro a5 w5 m5 hst5 hle5 hk5
    have hfr5 := hk5.fr (T' := [(1, _), (3, _), (4, _), (9, _), (10, _)]) (.old rfl rfl <| .old rfl rfl <| .old rfl rfl <| .old rfl rfl <| .new rfl <| .nil)
    replace hc1 := hc1.mono hle5
    replace hlj5 := hlj5.trans hle5
    clear hst4 hfr4 hk5
    refine hK43 _ _ ?_; clear hK43
    refine cond_any hfr5 rfl rfl (fun hb10 => ?_) (fun hb10 => ?_)
    · try simp only [nq1, nq2, nq3, nq4, nq5, nq6, nq7, nq8, nq9, u8_eq] at hb10
      refine seq_any fun _ hK44 => ?_
      refine rp0 hst5 hfr5 (.cons rfl (ob_fieldAddrO (off := 1) rfl Tryd.underlying25 rfl rfl Tryd.sizeOf9 rfl) <| .cons rfl (ob_load1 rfl hc1 Tryd.isAgg9 rfl) <| .cons rfl (ob_assign rfl) <| .nil) ?_
      intro a6 w6 m6 hst6 hle6 hk6
      have hfr6 := hk6.fr (T' := [(3, _), (4, _), (2, _)]) (.old rfl rfl <| .old rfl rfl <| .new rfl <| .nil)
      clear hst5 hfr5 hk6
      refine hK44 _ _ ?_; clear hK44
      refine wp_ret ?_
      repeat (with_reducible first | refine then_ret ?_ | refine block_ret ?_)
      exact fn_ret hst6 hfr6 rfl (.tmp rfl <| .nil) (by refine congrArg S ?_; rw [textC_eq, if_pos hb10])
    · try simp only [nq1, nq2, nq3, nq4, nq5, nq6, nq7, nq8, nq9, u8_eq] at hb10
      refine seq_any fun _ hK46 => ?_
      refine rp0 hst5 hfr5 (.cons rfl (ob_eql rfl rfl) <| .cons rfl (ob_assign rfl) <| .nil) ?_
      intro a6 w6 m6 hst6 hle6 hk6
      have hfr6 := hk6.fr (T' := [(1, _), (3, _), (4, _), (9, _), (14, _)]) (.old rfl rfl <| .old rfl rfl <| .old rfl rfl <| .old rfl rfl <| .new rfl <| .nil)
      replace hc1 := hc1.mono hle6
      replace hlj5 := hlj5.trans hle6
      clear hst5 hfr5 hk6
      refine hK46 _ _ ?_; clear hK46
      refine cond_any hfr6 rfl rfl (fun hb14 => ?_) (fun hb14 => ?_)
      · try simp only [nq1, nq2, nq3, nq4, nq5, nq6, nq7, nq8, nq9, u8_eq] at hb14
        refine seq_any fun _ hK47 => ?_
        refine rp0 hst6 hfr6 (.cons rfl (ob_fieldAddrO (off := 3) rfl Tryd.underlying25 rfl rfl Tryd.sizeOf3 rfl) <| .cons rfl (ob_load1 rfl hc1 Tryd.isAgg3 rfl) <| .cons rfl (ob_callE rfl (.cons rfl <| .nil) Tryd.call59 (fun w m hK => by have hle_ := KC.le hK; have hA := KC.agree hK; exact digits_c _ hA hin_t)) <| .cons rfl (ob_assign rfl) <| .nil) ?_
        intro a7 w7 m7 hst7 hle7 hk7
        have hfr7 := hk7.fr (T' := [(3, _), (4, _), (2, _)]) (.old rfl rfl <| .old rfl rfl <| .new rfl <| .nil)
        clear hst6 hfr6 hk7
        refine hK47 _ _ ?_; clear hK47
        refine wp_ret ?_
        repeat (with_reducible first | refine then_ret ?_ | refine block_ret ?_)
        exact fn_ret hst7 hfr7 rfl (.tmp rfl <| .nil) (by refine congrArg S ?_; rw [textC_eq, if_neg hb10, if_pos hb14])
      · try simp only [nq1, nq2, nq3, nq4, nq5, nq6, nq7, nq8, nq9, u8_eq] at hb14
        refine seq_any fun _ hK49 => ?_
        refine rp0 hst6 hfr6 (.cons rfl (ob_eql rfl rfl) <| .cons rfl (ob_assign rfl) <| .nil) ?_
        intro a7 w7 m7 hst7 hle7 hk7
        have hfr7 := hk7.fr (T' := [(1, _), (3, _), (4, _), (9, _), (19, _)]) (.old rfl rfl <| .old rfl rfl <| .old rfl rfl <| .old rfl rfl <| .new rfl <| .nil)
        replace hc1 := hc1.mono hle7
        replace hlj5 := hlj5.trans hle7
        clear hst6 hfr6 hk7
        refine hK49 _ _ ?_; clear hK49
        refine cond_any hfr7 rfl rfl (fun hb19 => ?_) (fun hb19 => ?_)
        · try simp only [nq1, nq2, nq3, nq4, nq5, nq6, nq7, nq8, nq9, u8_eq] at hb19
          refine seq_any fun _ hK50 => ?_
          refine seq_any fun _ hK51 => ?_
          refine rp0 hst7 hfr7 (.cons rfl (ob_fieldAddrO (off := 3) rfl Tryd.underlying25 rfl rfl Tryd.sizeOf3 rfl) <| .cons rfl (ob_load1 rfl hc1 Tryd.isAgg3 rfl) <| .cons rfl (ob_eql rfl rfl) <| .nil) ?_
          intro a8 w8 m8 hst8 hle8 hk8
          have hfr8 := hk8.fr (T' := [(3, _), (4, _), (23, _)]) (.old rfl rfl <| .old rfl rfl <| .new rfl <| .nil)
          clear hst7 hfr7 hk8
          refine hK51 _ _ ?_; clear hK51
          refine cond_any hfr8 rfl rfl (fun hb23 => ?_) (fun hb23 => ?_)
          · try simp only [nq1, nq2, nq3, nq4, nq5, nq6, nq7, nq8, nq9, u8_eq] at hb23
            refine seq_any fun _ hK52 => ?_
            refine rp0 hst8 hfr8 (.cons rfl (ob_assign rfl) <| .nil) ?_
            intro a9 w9 m9 hst9 hle9 hk9
            have hfr9 := hk9.fr (T' := [(3, _), (4, _), (2, _)]) (.old rfl rfl <| .old rfl rfl <| .new rfl <| .nil)
            clear hst8 hfr8 hk9
            refine hK52 _ _ ?_; clear hK52
            refine wp_ret ?_
            repeat (with_reducible first | refine then_ret ?_ | refine block_ret ?_)
            exact fn_ret hst9 hfr9 rfl (.tmp rfl <| .nil) (by refine congrArg S ?_; rw [textC_eq, if_neg hb10, if_neg hb14, if_pos hb19, hb23]; rfl)
          · try simp only [nq1, nq2, nq3, nq4, nq5, nq6, nq7, nq8, nq9, u8_eq] at hb23
            refine wp_skip ?_
            refine hK50 _ _ ?_; clear hK50
            refine seq_any fun _ hK54 => ?_
            refine rp0 hst8 hfr8 (.cons rfl (ob_assign rfl) <| .nil) ?_
            intro a9 w9 m9 hst9 hle9 hk9
            have hfr9 := hk9.fr (T' := [(3, _), (4, _), (2, _)]) (.old rfl rfl <| .old rfl rfl <| .new rfl <| .nil)
            clear hst8 hfr8 hk9
            refine hK54 _ _ ?_; clear hK54
            refine wp_ret ?_
            repeat (with_reducible first | refine then_ret ?_ | refine block_ret ?_)
            exact fn_ret hst9 hfr9 rfl (.tmp rfl <| .nil) (by refine congrArg S ?_; rw [textC_eq, if_neg hb10, if_neg hb14, if_pos hb19, decide_eq_false hb23]; rfl)
        · try simp only [nq1, nq2, nq3, nq4, nq5, nq6, nq7, nq8, nq9, u8_eq] at hb19
          refine seq_any fun _ hK56 => ?_
          refine rp0 hst7 hfr7 (.cons rfl (ob_eql rfl rfl) <| .cons rfl (ob_assign rfl) <| .nil) ?_
          intro a8 w8 m8 hst8 hle8 hk8
          have hfr8 := hk8.fr (T' := [(1, _), (3, _), (4, _), (9, _), (24, _)]) (.old rfl rfl <| .old rfl rfl <| .old rfl rfl <| .old rfl rfl <| .new rfl <| .nil)
          replace hc1 := hc1.mono hle8
          replace hlj5 := hlj5.trans hle8
          clear hst7 hfr7 hk8
          refine hK56 _ _ ?_; clear hK56
          refine cond_any hfr8 rfl rfl (fun hb24 => ?_) (fun hb24 => ?_)
          · try simp only [nq1, nq2, nq3, nq4, nq5, nq6, nq7, nq8, nq9, u8_eq] at hb24
            refine seq_any fun _ hK57 => ?_
            refine rp0 hst8 hfr8 (.cons rfl (ob_assign rfl) <| .nil) ?_
            intro a9 w9 m9 hst9 hle9 hk9
            have hfr9 := hk9.fr (T' := [(3, _), (4, _), (2, _)]) (.old rfl rfl <| .old rfl rfl <| .new rfl <| .nil)
            clear hst8 hfr8 hk9
            refine hK57 _ _ ?_; clear hK57
            refine wp_ret ?_
            repeat (with_reducible first | refine then_ret ?_ | refine block_ret ?_)
            exact fn_ret hst9 hfr9 rfl (.tmp rfl <| .nil) (by refine congrArg S ?_; rw [textC_eq, if_neg hb10, if_neg hb14, if_neg hb19, if_pos hb24])
          · try simp only [nq1, nq2, nq3, nq4, nq5, nq6, nq7, nq8, nq9, u8_eq] at hb24
            refine seq_any fun _ hK59 => ?_
            refine rp0 hst8 hfr8 (.cons rfl (ob_eql rfl rfl) <| .cons rfl (ob_assign rfl) <| .nil) ?_
            intro a9 w9 m9 hst9 hle9 hk9
            have hfr9 := hk9.fr (T' := [(1, _), (3, _), (4, _), (9, _), (26, _)]) (.old rfl rfl <| .old rfl rfl <| .old rfl rfl <| .old rfl rfl <| .new rfl <| .nil)
            replace hc1 := hc1.mono hle9
            replace hlj5 := hlj5.trans hle9
            clear hst8 hfr8 hk9
            refine hK59 _ _ ?_; clear hK59
            refine cond_any hfr9 rfl rfl (fun hb26 => ?_) (fun hb26 => ?_)
            · try simp only [nq1, nq2, nq3, nq4, nq5, nq6, nq7, nq8, nq9, u8_eq] at hb26
              refine rp0 hst9 hfr9 (.cons rfl (ob_fieldAddrO (off := 1) rfl Tryd.underlying25 rfl rfl Tryd.sizeOf9 rfl) <| .cons rfl (ob_load1 rfl hc1 Tryd.isAgg9 rfl) <| .cons rfl (ob_sadd rfl rfl (by first | omega | (simp only [List.length_append, List.length_cons, List.length_nil, List.length_map]; omega))) <| .cons rfl (ob_assign rfl) <| .nil) ?_
              intro a10 w10 m10 hst10 hle10 hk10
              have hfr10 := hk10.fr (T' := [(1, _), (4, _), (3, _)]) (.old rfl rfl <| .old rfl rfl <| .new rfl <| .nil)
              replace hlj5 := hlj5.trans hle10
              clear hst9 hfr9 hk10
              repeat (with_reducible first | refine then_exit ?_ | refine block_exit ?_ | refine block_normal ?_)
              exact hj5 (([102, 117, 110, 32] ++ t.name), 0) _ _ _ ⟨hst10, hlj5, hfr10.sub (.cons rfl <| .cons rfl <| .cons rfl <| .nil), ⟨by unfold headW; simp [*, joinW, Go.Lib.join], by unfold fromC; simp [*], by omega⟩⟩
            · try simp only [nq1, nq2, nq3, nq4, nq5, nq6, nq7, nq8, nq9, u8_eq] at hb26
              refine seq_any fun _ hK60 => ?_
              refine rp0 hst9 hfr9 (.cons rfl (ob_eql rfl rfl) <| .cons rfl (ob_assign rfl) <| .nil) ?_
              intro a10 w10 m10 hst10 hle10 hk10
              have hfr10 := hk10.fr (T' := [(1, _), (3, _), (4, _), (9, _), (31, _)]) (.old rfl rfl <| .old rfl rfl <| .old rfl rfl <| .old rfl rfl <| .new rfl <| .nil)
              replace hc1 := hc1.mono hle10
              replace hlj5 := hlj5.trans hle10
              clear hst9 hfr9 hk10
              refine hK60 _ _ ?_; clear hK60
              refine cond_any hfr10 rfl rfl (fun hb31 => ?_) (fun hb31 => ?_)
              · try simp only [nq1, nq2, nq3, nq4, nq5, nq6, nq7, nq8, nq9, u8_eq] at hb31
                refine seq_any fun _ hK61 => ?_
                refine rp0 hst10 hfr10 (.cons rfl (ob_assign rfl) <| .nil) ?_
                intro a11 w11 m11 hst11 hle11 hk11
                have hfr11 := hk11.fr (T' := [(1, _), (4, _), (3, _)]) (.old rfl rfl <| .old rfl rfl <| .new rfl <| .nil)
                replace hlj5 := hlj5.trans hle11
                clear hst10 hfr10 hk11
                refine hK61 _ _ ?_; clear hK61
                refine rp0 hst11 hfr11 (.cons rfl (ob_assign rfl) <| .nil) ?_
                intro a12 w12 m12 hst12 hle12 hk12
                have hfr12 := hk12.fr (T' := [(1, _), (3, _), (4, _)]) (.old rfl rfl <| .old rfl rfl <| .new rfl <| .nil)
                replace hlj5 := hlj5.trans hle12
                clear hst11 hfr11 hk12
                repeat (with_reducible first | refine then_exit ?_ | refine block_exit ?_ | refine block_normal ?_)
                exact hj5 ([99, 97, 108, 108], 2) _ _ _ ⟨hst12, hlj5, hfr12.sub (.cons rfl <| .cons rfl <| .cons rfl <| .nil), ⟨by unfold headW; simp [*, joinW, Go.Lib.join], by unfold fromC; simp [*], by omega⟩⟩
              · try simp only [nq1, nq2, nq3, nq4, nq5, nq6, nq7, nq8, nq9, u8_eq] at hb31
                refine seq_any fun _ hK62 => ?_
                refine rp0 hst10 hfr10 (.cons rfl (ob_eql rfl rfl) <| .cons rfl (ob_assign rfl) <| .nil) ?_
                intro a11 w11 m11 hst11 hle11 hk11
                have hfr11 := hk11.fr (T' := [(1, _), (3, _), (4, _), (9, _), (33, _)]) (.old rfl rfl <| .old rfl rfl <| .old rfl rfl <| .old rfl rfl <| .new rfl <| .nil)
                replace hc1 := hc1.mono hle11
                replace hlj5 := hlj5.trans hle11
                clear hst10 hfr10 hk11
                refine hK62 _ _ ?_; clear hK62
                refine cond_any hfr11 rfl rfl (fun hb33 => ?_) (fun hb33 => ?_)
                · try simp only [nq1, nq2, nq3, nq4, nq5, nq6, nq7, nq8, nq9, u8_eq] at hb33
                  refine rp0 hst11 hfr11 (.cons rfl (ob_fieldAddrO (off := 1) rfl Tryd.underlying25 rfl rfl Tryd.sizeOf9 rfl) <| .cons rfl (ob_load1 rfl hc1 Tryd.isAgg9 rfl) <| .cons rfl (ob_sadd rfl rfl (by first | omega | (simp only [List.length_append, List.length_cons, List.length_nil, List.length_map]; omega))) <| .cons rfl (ob_assign rfl) <| .nil) ?_
                  intro a12 w12 m12 hst12 hle12 hk12
                  have hfr12 := hk12.fr (T' := [(1, _), (4, _), (3, _)]) (.old rfl rfl <| .old rfl rfl <| .new rfl <| .nil)
                  replace hlj5 := hlj5.trans hle12
                  clear hst11 hfr11 hk12
                  repeat (with_reducible first | refine then_exit ?_ | refine block_exit ?_ | refine block_normal ?_)
                  exact hj5 (([108, 101, 116, 32] ++ t.name), 0) _ _ _ ⟨hst12, hlj5, hfr12.sub (.cons rfl <| .cons rfl <| .cons rfl <| .nil), ⟨by unfold headW; simp [*, joinW, Go.Lib.join], by unfold fromC; simp [*], by omega⟩⟩
                · try simp only [nq1, nq2, nq3, nq4, nq5, nq6, nq7, nq8, nq9, u8_eq] at hb33
                  refine seq_any fun _ hK63 => ?_
                  refine rp0 hst11 hfr11 (.cons rfl (ob_eql rfl rfl) <| .cons rfl (ob_assign rfl) <| .nil) ?_
                  intro a12 w12 m12 hst12 hle12 hk12
                  have hfr12 := hk12.fr (T' := [(1, _), (3, _), (4, _), (9, _), (38, _)]) (.old rfl rfl <| .old rfl rfl <| .old rfl rfl <| .old rfl rfl <| .new rfl <| .nil)
                  replace hc1 := hc1.mono hle12
                  replace hlj5 := hlj5.trans hle12
                  clear hst11 hfr11 hk12
                  refine hK63 _ _ ?_; clear hK63
                  refine cond_any hfr12 rfl rfl (fun hb38 => ?_) (fun hb38 => ?_)
                  · try simp only [nq1, nq2, nq3, nq4, nq5, nq6, nq7, nq8, nq9, u8_eq] at hb38
                    refine rp0 hst12 hfr12 (.cons rfl (ob_fieldAddrO (off := 1) rfl Tryd.underlying25 rfl rfl Tryd.sizeOf9 rfl) <| .cons rfl (ob_load1 rfl hc1 Tryd.isAgg9 rfl) <| .cons rfl (ob_sadd rfl rfl (by first | omega | (simp only [List.length_append, List.length_cons, List.length_nil, List.length_map]; omega))) <| .cons rfl (ob_assign rfl) <| .nil) ?_
                    intro a13 w13 m13 hst13 hle13 hk13
                    have hfr13 := hk13.fr (T' := [(1, _), (4, _), (3, _)]) (.old rfl rfl <| .old rfl rfl <| .new rfl <| .nil)
                    replace hlj5 := hlj5.trans hle13
                    clear hst12 hfr12 hk13
                    repeat (with_reducible first | refine then_exit ?_ | refine block_exit ?_ | refine block_normal ?_)
                    exact hj5 (([98, 105, 110, 100, 32] ++ t.name), 0) _ _ _ ⟨hst13, hlj5, hfr13.sub (.cons rfl <| .cons rfl <| .cons rfl <| .nil), ⟨by unfold headW; simp [*, joinW, Go.Lib.join], by unfold fromC; simp [*], by omega⟩⟩
                  · try simp only [nq1, nq2, nq3, nq4, nq5, nq6, nq7, nq8, nq9, u8_eq] at hb38
                    refine seq_any fun _ hK64 => ?_
                    refine rp0 hst12 hfr12 (.cons rfl (ob_eql rfl rfl) <| .cons rfl (ob_assign rfl) <| .nil) ?_
                    intro a13 w13 m13 hst13 hle13 hk13
                    have hfr13 := hk13.fr (T' := [(1, _), (3, _), (4, _), (9, _), (43, _)]) (.old rfl rfl <| .old rfl rfl <| .old rfl rfl <| .old rfl rfl <| .new rfl <| .nil)
                    replace hc1 := hc1.mono hle13
                    replace hlj5 := hlj5.trans hle13
                    clear hst12 hfr12 hk13
                    refine hK64 _ _ ?_; clear hK64
                    refine cond_any hfr13 rfl rfl (fun hb43 => ?_) (fun hb43 => ?_)
                    · try simp only [nq1, nq2, nq3, nq4, nq5, nq6, nq7, nq8, nq9, u8_eq] at hb43
                      refine rp0 hst13 hfr13 (.cons rfl (ob_fieldAddrO (off := 1) rfl Tryd.underlying25 rfl rfl Tryd.sizeOf9 rfl) <| .cons rfl (ob_load1 rfl hc1 Tryd.isAgg9 rfl) <| .cons rfl (ob_sadd rfl rfl (by first | omega | (simp only [List.length_append, List.length_cons, List.length_nil, List.length_map]; omega))) <| .cons rfl (ob_sadd rfl rfl (by first | omega | (simp only [List.length_append, List.length_cons, List.length_nil, List.length_map]; omega))) <| .cons rfl (ob_fieldAddrO (off := 2) rfl Tryd.underlying25 rfl rfl Tryd.sizeOf9 rfl) <| .cons rfl (ob_load1 rfl hc1 Tryd.isAgg9 rfl) <| .cons rfl (ob_sadd rfl rfl (by first | omega | (simp only [List.length_append, List.length_cons, List.length_nil, List.length_map]; omega))) <| .cons rfl (ob_assign rfl) <| .nil) ?_
                      intro a14 w14 m14 hst14 hle14 hk14
                      have hfr14 := hk14.fr (T' := [(1, _), (4, _), (3, _)]) (.old rfl rfl <| .old rfl rfl <| .new rfl <| .nil)
                      replace hlj5 := hlj5.trans hle14
                      clear hst13 hfr13 hk14
                      repeat (with_reducible first | refine then_exit ?_ | refine block_exit ?_ | refine block_normal ?_)
                      exact hj5 (((([114, 101, 99, 32] ++ t.name) ++ [32]) ++ t.param), 0) _ _ _ ⟨hst14, hlj5, hfr14.sub (.cons rfl <| .cons rfl <| .cons rfl <| .nil), ⟨by unfold headW; simp [*, joinW, Go.Lib.join], by unfold fromC; simp [*], by omega⟩⟩
                    · try simp only [nq1, nq2, nq3, nq4, nq5, nq6, nq7, nq8, nq9, u8_eq] at hb43
                      refine seq_any fun _ hK65 => ?_
                      refine rp0 hst13 hfr13 (.cons rfl (ob_eql rfl rfl) <| .cons rfl (ob_assign rfl) <| .nil) ?_
                      intro a14 w14 m14 hst14 hle14 hk14
                      have hfr14 := hk14.fr (T' := [(1, _), (3, _), (4, _), (9, _), (52, _)]) (.old rfl rfl <| .old rfl rfl <| .old rfl rfl <| .old rfl rfl <| .new rfl <| .nil)
                      replace hc1 := hc1.mono hle14
                      replace hlj5 := hlj5.trans hle14
                      clear hst13 hfr13 hk14
                      refine hK65 _ _ ?_; clear hK65
                      refine cond_any hfr14 rfl rfl (fun hb52 => ?_) (fun hb52 => ?_)
                      · try simp only [nq1, nq2, nq3, nq4, nq5, nq6, nq7, nq8, nq9, u8_eq] at hb52
                        refine seq_any fun _ hK66 => ?_
                        refine rp0 hst14 hfr14 (.cons rfl (ob_assign rfl) <| .nil) ?_
                        intro a15 w15 m15 hst15 hle15 hk15
                        have hfr15 := hk15.fr (T' := [(1, _), (4, _), (3, _)]) (.old rfl rfl <| .old rfl rfl <| .new rfl <| .nil)
                        replace hlj5 := hlj5.trans hle15
                        clear hst14 hfr14 hk15
                        refine hK66 _ _ ?_; clear hK66
                        refine rp0 hst15 hfr15 (.cons rfl (ob_assign rfl) <| .nil) ?_
                        intro a16 w16 m16 hst16 hle16 hk16
                        have hfr16 := hk16.fr (T' := [(1, _), (3, _), (4, _)]) (.old rfl rfl <| .old rfl rfl <| .new rfl <| .nil)
                        replace hlj5 := hlj5.trans hle16
                        clear hst15 hfr15 hk16
                        repeat (with_reducible first | refine then_exit ?_ | refine block_exit ?_ | refine block_normal ?_)
                        exact hj5 ([105, 102], 1) _ _ _ ⟨hst16, hlj5, hfr16.sub (.cons rfl <| .cons rfl <| .cons rfl <| .nil), ⟨by unfold headW; simp [*, joinW, Go.Lib.join], by unfold fromC; simp [*], by omega⟩⟩
                      · try simp only [nq1, nq2, nq3, nq4, nq5, nq6, nq7, nq8, nq9, u8_eq] at hb52
                        refine seq_any fun _ hK67 => ?_
                        refine rp0 hst14 hfr14 (.cons rfl (ob_eql rfl rfl) <| .cons rfl (ob_assign rfl) <| .nil) ?_
                        intro a15 w15 m15 hst15 hle15 hk15
                        have hfr15 := hk15.fr (T' := [(1, _), (3, _), (4, _), (9, _), (54, _)]) (.old rfl rfl <| .old rfl rfl <| .old rfl rfl <| .old rfl rfl <| .new rfl <| .nil)
                        replace hc1 := hc1.mono hle15
                        replace hlj5 := hlj5.trans hle15
                        clear hst14 hfr14 hk15
                        refine hK67 _ _ ?_; clear hK67
                        refine cond_any hfr15 rfl rfl (fun hb54 => ?_) (fun hb54 => ?_)
                        · try simp only [nq1, nq2, nq3, nq4, nq5, nq6, nq7, nq8, nq9, u8_eq] at hb54
                          refine seq_any fun _ hK68 => ?_
                          refine rp0 hst15 hfr15 (.cons rfl (ob_fieldAddrO (off := 1) rfl Tryd.underlying25 rfl rfl Tryd.sizeOf9 rfl) <| .cons rfl (ob_load1 rfl hc1 Tryd.isAgg9 rfl) <| .cons rfl (ob_sadd rfl rfl (by first | omega | (simp only [List.length_append, List.length_cons, List.length_nil, List.length_map]; omega))) <| .cons rfl (ob_assign rfl) <| .nil) ?_
                          intro a16 w16 m16 hst16 hle16 hk16
                          have hfr16 := hk16.fr (T' := [(1, _), (4, _), (3, _)]) (.old rfl rfl <| .old rfl rfl <| .new rfl <| .nil)
                          replace hc1 := hc1.mono hle16
                          replace hlj5 := hlj5.trans hle16
                          clear hst15 hfr15 hk16
                          refine hK68 _ _ ?_; clear hK68
                          refine rp0 hst16 hfr16 (.cons rfl (ob_fieldAddrO (off := 4) rfl Tryd.underlying25 rfl rfl Tryd.sizeOf22 rfl) <| .cons rfl (ob_load1 rfl hc1 Tryd.isAgg22 rfl) <| .cons rfl (ob_len rfl Tryd.underlying22) <| .cons rfl (ob_assign rfl) <| .nil) ?_
                          intro a17 w17 m17 hst17 hle17 hk17
                          have hfr17 := hk17.fr (T' := [(1, _), (3, _), (4, _)]) (.old rfl rfl <| .old rfl rfl <| .new rfl <| .nil)
                          replace hlj5 := hlj5.trans hle17
                          clear hst16 hfr16 hk17
                          repeat (with_reducible first | refine then_exit ?_ | refine block_exit ?_ | refine block_normal ?_)
                          exact hj5 (([111, 112, 32] ++ t.name), t.kids.length) _ _ _ ⟨hst17, hlj5, hfr17.sub (.cons rfl <| .cons rfl <| .cons rfl <| .nil), ⟨by unfold headW; simp [*, joinW, Go.Lib.join], by unfold fromC; simp [*], by omega⟩⟩
                        · try simp only [nq1, nq2, nq3, nq4, nq5, nq6, nq7, nq8, nq9, u8_eq] at hb54
                          refine seq_any fun _ hK69 => ?_
                          refine rp0 hst15 hfr15 (.cons rfl (ob_eql rfl rfl) <| .cons rfl (ob_assign rfl) <| .nil) ?_
                          intro a16 w16 m16 hst16 hle16 hk16
                          have hfr16 := hk16.fr (T' := [(1, _), (3, _), (4, _), (9, _), (62, _)]) (.old rfl rfl <| .old rfl rfl <| .old rfl rfl <| .old rfl rfl <| .new rfl <| .nil)
                          replace hc1 := hc1.mono hle16
                          replace hlj5 := hlj5.trans hle16
                          clear hst15 hfr15 hk16
                          refine hK69 _ _ ?_; clear hK69
                          refine cond_any hfr16 rfl rfl (fun hb62 => ?_) (fun hb62 => ?_)
                          · try simp only [nq1, nq2, nq3, nq4, nq5, nq6, nq7, nq8, nq9, u8_eq] at hb62
                            refine seq_any fun _ hK70 => ?_
                            refine rp0 hst16 hfr16 (.cons rfl (ob_fieldAddrO (off := 1) rfl Tryd.underlying25 rfl rfl Tryd.sizeOf9 rfl) <| .cons rfl (ob_load1 rfl hc1 Tryd.isAgg9 rfl) <| .cons rfl (ob_sadd rfl rfl (by first | omega | (simp only [List.length_append, List.length_cons, List.length_nil, List.length_map]; omega))) <| .cons rfl (ob_assign rfl) <| .nil) ?_
                            intro a17 w17 m17 hst17 hle17 hk17
                            have hfr17 := hk17.fr (T' := [(1, _), (4, _), (3, _)]) (.old rfl rfl <| .old rfl rfl <| .new rfl <| .nil)
                            replace hc1 := hc1.mono hle17
                            replace hlj5 := hlj5.trans hle17
                            clear hst16 hfr16 hk17
                            refine hK70 _ _ ?_; clear hK70
                            refine rp0 hst17 hfr17 (.cons rfl (ob_fieldAddrO (off := 4) rfl Tryd.underlying25 rfl rfl Tryd.sizeOf22 rfl) <| .cons rfl (ob_load1 rfl hc1 Tryd.isAgg22 rfl) <| .cons rfl (ob_len rfl Tryd.underlying22) <| .cons rfl (ob_assign rfl) <| .nil) ?_
                            intro a18 w18 m18 hst18 hle18 hk18
                            have hfr18 := hk18.fr (T' := [(1, _), (3, _), (4, _)]) (.old rfl rfl <| .old rfl rfl <| .new rfl <| .nil)
                            replace hlj5 := hlj5.trans hle18
                            clear hst17 hfr17 hk18
                            repeat (with_reducible first | refine then_exit ?_ | refine block_exit ?_ | refine block_normal ?_)
                            exact hj5 (([99, 111, 110, 32] ++ t.name), t.kids.length) _ _ _ ⟨hst18, hlj5, hfr18.sub (.cons rfl <| .cons rfl <| .cons rfl <| .nil), ⟨by unfold headW; simp [*, joinW, Go.Lib.join], by unfold fromC; simp [*], by omega⟩⟩
                          · try simp only [nq1, nq2, nq3, nq4, nq5, nq6, nq7, nq8, nq9, u8_eq] at hb62
                            refine seq_any fun _ hK71 => ?_
                            refine rp0 hst16 hfr16 (.cons rfl (ob_eql rfl rfl) <| .cons rfl (ob_assign rfl) <| .nil) ?_
                            intro a17 w17 m17 hst17 hle17 hk17
                            have hfr17 := hk17.fr (T' := [(1, _), (3, _), (4, _), (9, _), (70, _)]) (.old rfl rfl <| .old rfl rfl <| .old rfl rfl <| .old rfl rfl <| .new rfl <| .nil)
                            replace hc1 := hc1.mono hle17
                            replace hlj5 := hlj5.trans hle17
                            clear hst16 hfr16 hk17
                            refine hK71 _ _ ?_; clear hK71
                            refine cond_any hfr17 rfl rfl (fun hb70 => ?_) (fun hb70 => ?_)
                            · try simp only [nq1, nq2, nq3, nq4, nq5, nq6, nq7, nq8, nq9, u8_eq] at hb70
                              refine seq_any fun _ hK72 => ?_
                              refine rp0 hst17 hfr17 (.cons rfl (ob_assign rfl) <| .nil) ?_
                              intro a18 w18 m18 hst18 hle18 hk18
                              have hfr18 := hk18.fr (T' := [(1, _), (4, _), (3, _)]) (.old rfl rfl <| .old rfl rfl <| .new rfl <| .nil)
                              replace hlj5 := hlj5.trans hle18
                              clear hst17 hfr17 hk18
                              refine hK72 _ _ ?_; clear hK72
                              refine rp0 hst18 hfr18 (.cons rfl (ob_assign rfl) <| .nil) ?_
                              intro a19 w19 m19 hst19 hle19 hk19
                              have hfr19 := hk19.fr (T' := [(1, _), (3, _), (4, _)]) (.old rfl rfl <| .old rfl rfl <| .new rfl <| .nil)
                              replace hlj5 := hlj5.trans hle19
                              clear hst18 hfr18 hk19
                              repeat (with_reducible first | refine then_exit ?_ | refine block_exit ?_ | refine block_normal ?_)
                              exact hj5 ([109, 97, 116, 99, 104], 1) _ _ _ ⟨hst19, hlj5, hfr19.sub (.cons rfl <| .cons rfl <| .cons rfl <| .nil), ⟨by unfold headW; simp [*, joinW, Go.Lib.join], by unfold fromC; simp [*], by omega⟩⟩
                            · try simp only [nq1, nq2, nq3, nq4, nq5, nq6, nq7, nq8, nq9, u8_eq] at hb70
                              refine seq_any fun _ hK73 => ?_
                              refine rp0 hst17 hfr17 (.cons rfl (ob_eql rfl rfl) <| .cons rfl (ob_assign rfl) <| .nil) ?_
                              intro a18 w18 m18 hst18 hle18 hk18
                              have hfr18 := hk18.fr (T' := [(1, _), (3, _), (4, _), (9, _), (72, _)]) (.old rfl rfl <| .old rfl rfl <| .old rfl rfl <| .old rfl rfl <| .new rfl <| .nil)
                              replace hc1 := hc1.mono hle18
                              replace hlj5 := hlj5.trans hle18
                              clear hst17 hfr17 hk18
                              refine hK73 _ _ ?_; clear hK73
                              refine cond_any hfr18 rfl rfl (fun hb72 => ?_) (fun hb72 => ?_)
                              · try simp only [nq1, nq2, nq3, nq4, nq5, nq6, nq7, nq8, nq9, u8_eq] at hb72
                                refine seq_any fun _ hK74 => ?_
                                refine rp0 hst18 hfr18 (.cons rfl (ob_fieldAddrO (off := 1) rfl Tryd.underlying25 rfl rfl Tryd.sizeOf9 rfl) <| .cons rfl (ob_load1 rfl hc1 Tryd.isAgg9 rfl) <| .cons rfl (ob_sadd rfl rfl (by first | omega | (simp only [List.length_append, List.length_cons, List.length_nil, List.length_map]; omega))) <| .cons rfl (ob_assign rfl) <| .nil) ?_
                                intro a19 w19 m19 hst19 hle19 hk19
                                have hfr19 := hk19.fr (T' := [(1, _), (4, _), (3, _)]) (.old rfl rfl <| .old rfl rfl <| .new rfl <| .nil)
                                replace hlj5 := hlj5.trans hle19
                                clear hst18 hfr18 hk19
                                refine hK74 _ _ ?_; clear hK74
                                refine rp0 hst19 hfr19 (.cons rfl (ob_assign rfl) <| .nil) ?_
                                intro a20 w20 m20 hst20 hle20 hk20
                                have hfr20 := hk20.fr (T' := [(1, _), (3, _), (4, _)]) (.old rfl rfl <| .old rfl rfl <| .new rfl <| .nil)
                                replace hlj5 := hlj5.trans hle20
                                clear hst19 hfr19 hk20
                                repeat (with_reducible first | refine then_exit ?_ | refine block_exit ?_ | refine block_normal ?_)
                                exact hj5 (([121, 105, 101, 108, 100, 32] ++ t.name), 1) _ _ _ ⟨hst20, hlj5, hfr20.sub (.cons rfl <| .cons rfl <| .cons rfl <| .nil), ⟨by unfold headW; simp [*, joinW, Go.Lib.join], by unfold fromC; simp [*], by omega⟩⟩
                              · try simp only [nq1, nq2, nq3, nq4, nq5, nq6, nq7, nq8, nq9, u8_eq] at hb72
                                refine seq_any fun _ hK75 => ?_
                                refine rp0 hst18 hfr18 (.cons rfl (ob_eql rfl rfl) <| .cons rfl (ob_assign rfl) <| .nil) ?_
                                intro a19 w19 m19 hst19 hle19 hk19
                                have hfr19 := hk19.fr (T' := [(1, _), (3, _), (4, _), (77, _)]) (.old rfl rfl <| .old rfl rfl <| .old rfl rfl <| .new rfl <| .nil)
                                replace hc1 := hc1.mono hle19
                                replace hlj5 := hlj5.trans hle19
                                clear hst18 hfr18 hk19
                                refine hK75 _ _ ?_; clear hK75
                                refine cond_any hfr19 rfl rfl (fun hb77 => ?_) (fun hb77 => ?_)
                                · try simp only [nq1, nq2, nq3, nq4, nq5, nq6, nq7, nq8, nq9, u8_eq] at hb77
                                  refine rp0 hst19 hfr19 (.cons rfl (ob_fieldAddrO (off := 1) rfl Tryd.underlying25 rfl rfl Tryd.sizeOf9 rfl) <| .cons rfl (ob_load1 rfl hc1 Tryd.isAgg9 rfl) <| .cons rfl (ob_sadd rfl rfl (by first | omega | (simp only [List.length_append, List.length_cons, List.length_nil, List.length_map]; omega))) <| .cons rfl (ob_assign rfl) <| .nil) ?_
                                  intro a20 w20 m20 hst20 hle20 hk20
                                  have hfr20 := hk20.fr (T' := [(1, _), (4, _), (3, _)]) (.old rfl rfl <| .old rfl rfl <| .new rfl <| .nil)
                                  replace hlj5 := hlj5.trans hle20
                                  clear hst19 hfr19 hk20
                                  repeat (with_reducible first | refine then_exit ?_ | refine block_exit ?_ | refine block_normal ?_)
                                  exact hj5 (([112, 114, 111, 109, 112, 116, 32] ++ t.name), 0) _ _ _ ⟨hst20, hlj5, hfr20.sub (.cons rfl <| .cons rfl <| .cons rfl <| .nil), ⟨by unfold headW; simp [*, joinW, Go.Lib.join], by unfold fromC; simp [*], by omega⟩⟩
                                · try simp only [nq1, nq2, nq3, nq4, nq5, nq6, nq7, nq8, nq9] at hb77
                                  omega
theorem rtext_c (t : Cd) : rtext_G t := Cd.rec_ (p := rtext_G) (fun t ihk iha => rtext_s ihk iha) t

set_option maxHeartbeats 400000 in
theorem rtextF_c {w : World} {m : Mem} {t : Cd} {vs_t : List Value} (hA : Agree w m) (h_t : CdR m t vs_t) (hb : bulkC t ≤ 100000000) : FnV Tryd.prog 18 #[.agg vs_t.toArray] w m (fun _ _ v => v = .tuple #[S (if rightC t then textC t else []), .int .i64 (if rightC t then 0 else 1)]) := by
  obtain ⟨⟨oK_t, cK_t, oA_t, cA_t⟩, rfl, ⟨hik_t, hin_t⟩, hkk_t, haa_t⟩ := h_t.open_
  dsimp only at hkk_t haa_t
  have hbg_t := hkk_t.big; have hcp_t := hkk_t.cap; have hbh_t := haa_t.big; have hcq_t := haa_t.cap
  refine fn_enter (vs := [_]) Tryd.func18 rfl rfl rfl fun a0 hfr0 => ?_
  have hst0 := st_enter hA (loc_nil [] _ w m)
  have hM : MLe m m := MLe.refl m
  refine seq_any fun _ hK1 => ?_
  refine rp0 hst0 hfr0 (.cons rfl (ob_box rfl rfl) <| .cons rfl (ob_assign rfl) <| .cons rfl (ob_assign rfl) <| .nil) ?_
  intro a1 w1 m1 hst1 hle1 hk1
  have hfr1 := hk1.fr (T' := []) (.nil)
  obtain ⟨g2, e2, hc1⟩ := hk1.ex 1 rfl
  replace hfr1 := hfr1.cons e2
  replace h_t := h_t.mono hle1
  clear hst0 hfr0 hk1
  refine hK1 _ _ ?_; clear hK1
  refine seq_any fun _ hK3 => ?_
  refine rp0 hst1 hfr1 (.cons rfl (ob_loadS' rfl hc1 Tryd.isAgg25 Tryd.sizeOf25 rfl rfl) <| .cons rfl (ob_callE rfl (.cons rfl <| .nil) Tryd.call16 (fun w m hK => by have hle_ := KC.le hK; have hA := KC.agree hK; have h_t := h_t.mono hle_; exact rright_c t hA h_t)) <| .cons rfl (ob_assign rfl) <| .nil) ?_
  intro a2 w2 m2 hst2 hle2 hk2
  have hfr2 := hk2.fr (T' := [(1, _), (4, _)]) (.old rfl rfl <| .new rfl <| .nil)
  replace h_t := h_t.mono hle2
  replace hc1 := hc1.mono hle2
  clear hst1 hfr1 hk2
  refine hK3 _ _ ?_; clear hK3
  refine seq_any fun _ hK4 => ?_
  refine seq_any fun _ hK5 => ?_
  refine rp0 hst2 hfr2 (.cons rfl (ob_move rfl) <| .cons rfl (ob_not rfl) <| .nil) ?_
  intro a3 w3 m3 hst3 hle3 hk3
  have hfr3 := hk3.fr (T' := [(1, _), (8, _)]) (.old rfl rfl <| .new rfl <| .nil)
  replace h_t := h_t.mono hle3
  replace hc1 := hc1.mono hle3
  clear hst2 hfr2 hk3
  refine hK5 _ _ ?_; clear hK5
  refine cond_any hfr3 rfl rfl (fun hb8 => ?_) (fun hb8 => ?_)
  · try simp only [nq1, nq2, nq3, nq4, nq5, nq6, nq7, nq8, nq9, u8_eq] at hb8
    refine seq_any fun _ hK6 => ?_
    refine rp0 hst3 hfr3 (.cons rfl (ob_assign rfl) <| .cons rfl (ob_assign rfl) <| .nil) ?_
    intro a4 w4 m4 hst4 hle4 hk4
    have hfr4 := hk4.fr (T' := [(2, _), (3, _)]) (.new rfl <| .new rfl <| .nil)
    clear hst3 hfr3 hk4
    refine hK6 _ _ ?_; clear hK6
    refine wp_ret ?_
    repeat (with_reducible first | refine then_ret ?_ | refine block_ret ?_)
    exact fn_ret hst4 hfr4 rfl (.tmp rfl <| .tmp rfl <| .nil) (by rw [hb8]; rfl)
  · try simp only [nq1, nq2, nq3, nq4, nq5, nq6, nq7, nq8, nq9, u8_eq] at hb8
    refine wp_skip ?_
    refine hK4 _ _ ?_; clear hK4
    refine seq_any fun _ hK8 => ?_
    refine rp0 hst3 hfr3 (.cons rfl (ob_loadS' rfl hc1 Tryd.isAgg25 Tryd.sizeOf25 rfl rfl) <| .cons rfl (ob_callE rfl (.cons rfl <| .nil) Tryd.call37 (fun w m hK => by have hle_ := KC.le hK; have hA := KC.agree hK; have h_t := h_t.mono hle_; exact rtext_c t hA h_t hb8 hb)) <| .cons rfl (ob_assign rfl) <| .cons rfl (ob_assign rfl) <| .nil) ?_
    intro a4 w4 m4 hst4 hle4 hk4
    have hfr4 := hk4.fr (T' := [(2, _), (3, _)]) (.new rfl <| .new rfl <| .nil)
    clear hst3 hfr3 hk4
    refine hK8 _ _ ?_; clear hK8
    refine wp_ret ?_
    repeat (with_reducible first | refine then_ret ?_ | refine block_ret ?_)
    exact fn_ret hst4 hfr4 rfl (.tmp rfl <| .tmp rfl <| .nil) (by rw [hb8]; rfl)

end Go.Proofs.YtlihpgjabohebaaDoor
