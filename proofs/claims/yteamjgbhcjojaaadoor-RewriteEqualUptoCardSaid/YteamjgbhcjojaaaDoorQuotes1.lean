/-
  Names with an apostrophe. Conditions: those of each theorem.
-/
import Derived.Test.YteamjgbhcjojaaaDoorPart1
import Derived.Test.YteamjgbhcjojaaaDoorNames1
namespace Go.Proofs.YteamjgbhcjojaaaDoor
set_option linter.all false
set_option maxRecDepth 4000
open Go.RowKit
def cutM (s : Str) : Str := match s.dropWhile (fun c => c != 39) with | [] => s | d => d
def quoteM (s : Str) : Bool := decide ((39 : UInt8) ∈ s)
theorem cutM_nil {s : Str} (h : s.dropWhile (fun c => c != 39) = []) : cutM s = s := by unfold cutM; rw [h]
theorem cutM_cons {s r : Str} {c : UInt8} (h : s.dropWhile (fun c => c != 39) = c :: r) : cutM s = c :: r := by unfold cutM; rw [h]
theorem drop_q : ∀ (s : Str), (s.dropWhile (fun c => c != 39) = [] ∧ ¬ (39 : UInt8) ∈ s) ∨ ∃ r, s.dropWhile (fun c => c != 39) = 39 :: r ∧ (39 : UInt8) ∈ s
  | [] => .inl ⟨rfl, by simp⟩
  | c :: s => by
    by_cases hc : c = 39
    · subst hc; exact .inr ⟨s, by simp [List.dropWhile], by simp⟩
    · have hc2 : (c != 39) = true := by simp [hc]
      rw [List.dropWhile_cons, if_pos hc2]
      rcases drop_q s with ⟨h1, h2⟩ | ⟨r, h1, h2⟩
      · exact .inl ⟨h1, by simp [h2, Ne.symm hc]⟩
      · exact .inr ⟨r, h1, by simp [h2]⟩
theorem quote_nil {s : Str} (h : cutM s = []) : quoteM s = false := by
  rcases drop_q s with ⟨h1, h2⟩ | ⟨r, h1, h2⟩
  · exact decide_eq_false h2
  · rw [cutM_cons h1] at h; cases h
theorem quote_hd {s : Str} {b : UInt8} (h : (cutM s)[0]? = some b) : quoteM s = decide ((b.toNat : Int) = 39) := by
  unfold quoteM
  rcases drop_q s with ⟨h1, h2⟩ | ⟨r, h1, h2⟩
  · rw [cutM_nil h1] at h
    rw [decide_eq_false h2, decide_eq_false]
    intro e
    have : b = 39 := by
      apply UInt8.toNat_inj.1
      have : b.toNat = 39 := by omega
      rw [this]; rfl
    subst this
    exact h2 (List.mem_of_getElem? h)
  · rw [cutM_cons h1] at h
    injection h with h; subst h
    rw [decide_eq_true h2]; rfl
theorem sum_mem : ∀ {l : List Str} {x : Str}, x ∈ l → x.length ≤ (l.map fun x => x.length + 2).sum
  | y :: l, x, h => by
    rw [List.map_cons, List.sum_cons]
    cases h with
    | head => omega
    | tail _ h => have := sum_mem h; omega
theorem u8_39 {b : UInt8} (h : (b.toNat : Int) = 39) : b = 39 := by
  apply UInt8.toNat_inj.1
  have : b.toNat = 39 := by omega
  rw [this]; rfl
mutual
def quotesM : Tm → Bool
  | ⟨_, _, s, p, _, ks, az, _⟩ => ((quoteM s || quoteM p) || quotesKs ks) || quotesAs az
def quotesKs : List Tm → Bool
  | [] => false
  | t :: ts => quotesM t || quotesKs ts
def quotesAs : List Ar → Bool
  | [] => false
  | ⟨_, l, b⟩ :: ts => (quotesM b || l.any quoteM) || quotesAs ts
end
theorem quotesM_eq (t : Tm) : quotesM t = (((quoteM t.name || quoteM t.param) || quotesKs t.kids) || quotesAs t.arms) := by obtain ⟨k, a, s, p, n, ks, az, r⟩ := t; rw [quotesM]; rfl
theorem quotesAs_cons (a : Ar) (ts : List Ar) : quotesAs (a :: ts) = ((quotesM a.body || a.vars.any quoteM) || quotesAs ts) := by obtain ⟨x, l, b⟩ := a; rw [quotesAs]; rfl
set_option maxHeartbeats 400000 in
theorem cut_c {w : World} {m : Mem} {s : Str} (hA : Agree w m) (hbig : s.length ≤ 1073741824) : FnV Tryd.prog 32 #[S s] w m (fun _ _ v => v = S (cutM s)) := by
  refine fn_enter (vs := [_]) Tryd.func32 rfl rfl rfl fun a0 hfr0 => ?_
  have hst0 := st_enter hA (loc_nil [] _ w m)
  have hM : MLe m m := MLe.refl m
  refine seq_any fun _ hK1 => ?_
  refine rp0 hst0 hfr0 (.cons rfl (ob_assign rfl) <| .nil) ?_
  intro a1 w1 m1 hst1 hle1 hk1
  have hfr1 := hk1.fr (T' := [(0, _)]) (.old rfl rfl <| .nil)
  clear hst0 hfr0 hk1
  refine hK1 _ _ ?_; clear hK1
  refine seq_any fun _ hK2 => ?_
  refine seq_any fun _ hK3 => ?_
  refine rp0 hst1 hfr1 (.cons rfl (ob_assign rfl) <| .nil) ?_
  intro a2 w2 m2 hst2 hle2 hk2
  have hfr2 := hk2.fr (T' := [(0, _), (3, _)]) (.old rfl rfl <| .new rfl <| .nil)
  clear hst1 hfr1 hk2
  refine hK3 _ _ ?_; clear hK3
  refine wp_block ?_
  refine loop_any (T := [(0, _)]) (fun (y : Nat) => ([(3, .int .i64 (y : Int))] : List (Nat × Value))) (fun _ => _) (fun (y : Nat) m => (y ≤ s.length) ∧ (s.dropWhile (fun c => c != 39) = (s.drop y).dropWhile (fun c => c != 39))) (fun y => s.length - y) (0) ⟨hst2, MLe.refl _, hfr2.sub (.cons rfl <| .cons rfl <| .nil), ⟨Nat.zero_le _, rfl⟩⟩ fun y a3 w3 m3 hh3 => ?_
  have hst3 := hh3.st; have hle3 := hh3.le; have hfr3 := hh3.fr; have hrel := hh3.rel; clear hh3
  clear hst2 hfr2
  obtain ⟨hyn, hrem⟩ := hrel
  have hlh3 := hle3
  refine seq_any fun _ hK5 => ?_
  refine seq_any fun _ hK6 => ?_
  refine rp0 hst3 hfr3 (.cons rfl (ob_move rfl) <| .cons rfl (ob_move rfl) <| .cons rfl (ob_slen rfl Tryd.underlying9) <| .cons rfl (ob_lss rfl rfl) <| .nil) ?_
  intro a4 w4 m4 hst4 hle4 hk4
  have hfr4 := hk4.fr (T' := [(3, _), (0, _), (7, _)]) (.old rfl rfl <| .old rfl rfl <| .new rfl <| .nil)
  have hlh4 := hlh3.trans hle4
  clear hst3 hfr3 hk4
  refine hK6 _ _ ?_; clear hK6
  refine cond_any hfr4 rfl rfl (fun hb7 => ?_) (fun hb7 => ?_)
  · try simp only [nq1, nq2, nq3, nq4, nq5, nq6, nq7, nq8, nq9, u8_eq] at hb7
    refine wp_skip ?_
    refine hK5 _ _ ?_; clear hK5
    refine seq_any fun _ hK7 => ?_
    refine wp_block ?_
    refine seq_any fun _ hK8 => ?_
    obtain ⟨b9, hb_9, hd9⟩ := nth_str (s := s) (k := y) (by omega)
    try rw [hd9] at hrem
    refine rp0 hst4 hfr4 (.cons rfl (ob_move rfl) <| .cons rfl (ob_move rfl) <| .cons rfl (ob_sindex (k := y) (b := _) rfl rfl Tryd.underlying9 rfl hb_9) <| .cons rfl (ob_eql rfl rfl) <| .nil) ?_
    intro a5 w5 m5 hst5 hle5 hk5
    have hfr5 := hk5.fr (T' := [(3, _), (0, _), (13, _)]) (.old rfl rfl <| .old rfl rfl <| .new rfl <| .nil)
    have hlh5 := hlh4.trans hle5
    clear hst4 hfr4 hk5
    refine hK8 _ _ ?_; clear hK8
    refine cond_any hfr5 rfl rfl (fun hb13 => ?_) (fun hb13 => ?_)
    · try simp only [nq1, nq2, nq3, nq4, nq5, nq6, nq7, nq8, nq9, u8_eq] at hb13
      have hc9 : b9 = 39 := u8_39 hb13
      have hcut9 : cutM s = s.drop y := by rw [hd9]; refine cutM_cons ?_; rw [hrem, hc9]; rfl
      refine seq_any fun _ hK10 => ?_
      refine rp0 hst5 hfr5 (.cons rfl (ob_move rfl) <| .cons rfl (ob_move rfl) <| .cons rfl (ob_sslice rfl (.some rfl rfl) .none Tryd.underlying9 (by omega) (by omega)) <| .cons rfl (ob_assign rfl) <| .nil) ?_
      intro a6 w6 m6 hst6 hle6 hk6
      have hfr6 := hk6.fr (T' := [(3, _), (2, _)]) (.old rfl rfl <| .new rfl <| .nil)
      have hlh6 := hlh5.trans hle6
      clear hst5 hfr5 hk6
      refine hK10 _ _ ?_; clear hK10
      refine wp_ret ?_
      repeat (with_reducible first | refine then_ret ?_ | refine block_ret ?_)
      exact fn_ret hst6 hfr6 rfl (.tmp rfl <| .nil) (by refine congrArg S ?_; rw [hcut9, List.take_length])
    · try simp only [nq1, nq2, nq3, nq4, nq5, nq6, nq7, nq8, nq9, u8_eq] at hb13
      have hc9 : (b9 != 39) = true := by rw [bne_iff_ne]; intro e; rw [e] at hb13; exact hb13 rfl
      refine wp_skip ?_
      refine hK7 _ _ ?_; clear hK7
      refine rp0 hst5 hfr5 (.cons rfl (ob_move rfl) <| .cons rfl (ob_add rfl rfl ⟨by omega, by omega⟩) <| .cons rfl (ob_assign rfl) <| .nil) ?_
      intro a6 w6 m6 hst6 hle6 hk6
      have hfr6 := hk6.fr (T' := [(0, _), (3, _)]) (.old rfl rfl <| .new rfl <| .nil)
      have hlh6 := hlh5.trans hle6
      clear hst5 hfr5 hk6
      exact ⟨y + 1, m6, by show s.length - (y + 1) < s.length - y; omega, ⟨hst6, hlh6, hfr6.sub (.cons rfl <| .cons rfl <| .nil), ⟨by show y + 1 ≤ s.length; omega, by rw [hrem, List.dropWhile_cons, if_pos hc9]⟩⟩⟩
  · try simp only [nq1, nq2, nq3, nq4, nq5, nq6, nq7, nq8, nq9, u8_eq] at hb7
    have hge : y = s.length := by omega
    rw [List.drop_of_length_le (by omega)] at hrem
    refine wp_exit ?_
    refine hK2 _ _ ?_; clear hK2
    refine seq_any fun _ hK12 => ?_
    refine rp0 hst4 hfr4 (.cons rfl (ob_move rfl) <| .cons rfl (ob_assign rfl) <| .nil) ?_
    intro a5 w5 m5 hst5 hle5 hk5
    have hfr5 := hk5.fr (T' := [(3, _), (2, _)]) (.old rfl rfl <| .new rfl <| .nil)
    have hlh5 := hlh4.trans hle5
    clear hst4 hfr4 hk5
    refine hK12 _ _ ?_; clear hK12
    refine wp_ret ?_
    repeat (with_reducible first | refine then_ret ?_ | refine block_ret ?_)
    exact fn_ret hst5 hfr5 rfl (.tmp rfl <| .nil) (by refine congrArg S ?_; rw [cutM_nil hrem])

set_option maxHeartbeats 400000 in
theorem quote_c {w : World} {m : Mem} {s : Str} (hA : Agree w m) (hbig : s.length ≤ 1073741824) : FnV Tryd.prog 24 #[S s] w m (fun _ _ v => v = .bool (quoteM s)) := by
  refine fn_enter (vs := [_]) Tryd.func24 rfl rfl rfl fun a0 hfr0 => ?_
  have hst0 := st_enter hA (loc_nil [] _ w m)
  have hM : MLe m m := MLe.refl m
  refine seq_any fun _ hK1 => ?_
  refine rp0 hst0 hfr0 (.cons rfl (ob_assign rfl) <| .nil) ?_
  intro a1 w1 m1 hst1 hle1 hk1
  have hfr1 := hk1.fr (T' := [(0, _)]) (.old rfl rfl <| .nil)
  clear hst0 hfr0 hk1
  refine hK1 _ _ ?_; clear hK1
  refine seq_any fun _ hK2 => ?_
  refine rp0 hst1 hfr1 (.cons rfl (ob_move rfl) <| .cons rfl (ob_callE rfl (.cons rfl <| .nil) Tryd.call32 (fun w m hK => by have hle_ := KC.le hK; have hA := KC.agree hK; exact cut_c hA hbig)) <| .cons rfl (ob_assign rfl) <| .nil) ?_
  intro a2 w2 m2 hst2 hle2 hk2
  have hfr2 := hk2.fr (T' := [(3, _)]) (.new rfl <| .nil)
  clear hst1 hfr1 hk2
  refine hK2 _ _ ?_; clear hK2
  refine seq_any fun _ hK3 => ?_
  rcases Nat.eq_zero_or_pos (cutM s).length with hz | hz
  · skip
    refine rp0 hst2 hfr2 (.cons rfl (ob_move rfl) <| .cons rfl (ob_sneq rfl rfl) <| .cons rfl (ob_move rfl) <| .cons rfl (ob_move rfl) <| .cons rfl (ob_guard (κ := .eq (.bool false)) (b := true) 8 rfl rfl (fun h => by first | (rw [List.eq_nil_of_length_eq_zero hz] at h; simp at h) | (simp at h; exact absurd (List.eq_nil_of_length_eq_zero hz) h))) <| .cons rfl (ob_guard (κ := .eq (.bool false)) (b := true) 8 rfl rfl (fun h => by first | (rw [List.eq_nil_of_length_eq_zero hz] at h; simp at h) | (simp at h; exact absurd (List.eq_nil_of_length_eq_zero hz) h))) <| .cons rfl (ob_and rfl rfl rfl) <| .cons rfl (ob_assign rfl) <| .nil) ?_
    intro a3 w3 m3 hst3 hle3 hk3
    have hfr3 := hk3.fr (T' := [(2, _)]) (.new rfl <| .nil)
    clear hst2 hfr2 hk3
    have hq9 := quote_nil (List.eq_nil_of_length_eq_zero hz)
    refine hK3 _ _ ?_; clear hK3
    refine wp_ret ?_
    repeat (with_reducible first | refine then_ret ?_ | refine block_ret ?_)
    exact fn_ret hst3 hfr3 rfl (.tmp rfl <| .nil) (by refine congrArg Value.bool ?_; first | (rw [hq9]; simp [hnn]) | (rw [hq9, List.eq_nil_of_length_eq_zero hz]; simp) | (rw [hq9]; simp [List.eq_nil_of_length_eq_zero hz]))
  · skip
    obtain ⟨b5, hb_5, hd5⟩ := nth_str (s := (cutM s)) (k := 0) (by omega)
    clear hd5
    refine rp0 hst2 hfr2 (.cons rfl (ob_move rfl) <| .cons rfl (ob_sneq rfl rfl) <| .cons rfl (ob_move rfl) <| .cons rfl (ob_move rfl) <| .cons rfl (ob_sindex (k := 0) (b := _) rfl rfl Tryd.underlying9 rfl hb_5) <| .cons rfl (ob_eql rfl rfl) <| .cons rfl (ob_and rfl rfl rfl) <| .cons rfl (ob_assign rfl) <| .nil) ?_
    intro a3 w3 m3 hst3 hle3 hk3
    have hfr3 := hk3.fr (T' := [(2, _)]) (.new rfl <| .nil)
    clear hst2 hfr2 hk3
    have hq9 := quote_hd hb_5
    have hnn : cutM s ≠ [] := fun e => by rw [e] at hz; cases hz
    refine hK3 _ _ ?_; clear hK3
    refine wp_ret ?_
    repeat (with_reducible first | refine then_ret ?_ | refine block_ret ?_)
    exact fn_ret hst3 hfr3 rfl (.tmp rfl <| .nil) (by refine congrArg Value.bool ?_; first | (rw [hq9]; simp [hnn]) | (rw [hq9, List.eq_nil_of_length_eq_zero hz]; simp) | (rw [hq9]; simp [List.eq_nil_of_length_eq_zero hz]))

abbrev quotes_G (t : Tm) : Prop := ∀ {w : World} {m : Mem} {vs_t : List Value} (hA : Agree w m) (h_t : TmR m t vs_t) (hb : bulkM t ≤ 1000000000), FnV Tryd.prog 9 #[.agg vs_t.toArray] w m (fun _ _ v => v = .bool (quotesM t))
set_option maxHeartbeats 800000 in
theorem quotes_s {t : Tm} (ihk : ∀ u ∈ t.kids, quotes_G u) (iha : ∀ a ∈ t.arms, quotes_G a.body) {w : World} {m : Mem} {vs_t : List Value} (hA : Agree w m) (h_t : TmR m t vs_t) (hb : bulkM t ≤ 1000000000) : FnV Tryd.prog 9 #[.agg vs_t.toArray] w m (fun _ _ v => v = .bool (quotesM t)) := by
  obtain ⟨⟨oK_t, cK_t, oA_t, cA_t, oR_t, cR_t, t0_t, t1_t, t2_t, t3_t, t4_t, t5_t, u0_t, u1_t, u2_t, u3_t, u4_t, u5_t⟩, rfl, hon_t, hkk_t, haa_t, hrr_t⟩ := h_t.open_
  dsimp only at hkk_t haa_t hrr_t
  have hbg_t := hkk_t.big; have hcp_t := hkk_t.cap; have hbh_t := haa_t.big; have hcq_t := haa_t.cap
  refine fn_enter (vs := [_]) Tryd.func9 rfl rfl rfl fun a0 hfr0 => ?_
  have hst0 := st_enter hA (loc_nil [] _ w m)
  have hM : MLe m m := MLe.refl m
  have hbe := bulkM_eq t
  have hqe := quotesM_eq t
  have hbk := fun u (hu : u ∈ t.kids) => bulk_kid hu
  have hba := fun a (ha : a ∈ t.arms) => bulkAs_mem ha
  refine seq_any fun _ hK1 => ?_
  refine rp0 hst0 hfr0 (.cons rfl (ob_box rfl rfl) <| .cons rfl (ob_assign rfl) <| .nil) ?_
  intro a1 w1 m1 hst1 hle1 hk1
  have hfr1 := hk1.fr (T' := []) (.nil)
  obtain ⟨g2, e2, hc1⟩ := hk1.ex 1 rfl
  replace hfr1 := hfr1.cons e2
  replace hkk_t := hkk_t.mono hle1
  replace haa_t := haa_t.mono hle1
  clear hst0 hfr0 hk1
  refine hK1 _ _ ?_; clear hK1
  refine seq_any fun _ hK3 => ?_
  refine seq_any fun _ hK4 => ?_
  refine rp0 hst1 hfr1 (.cons rfl (ob_fieldAddrO (off := 2) rfl Tryd.underlying33 rfl rfl Tryd.sizeOf9 rfl) <| .cons rfl (ob_load1 rfl hc1 Tryd.isAgg9 rfl) <| .cons rfl (ob_callE rfl (.cons rfl <| .nil) Tryd.call24 (fun w m hK => by have hle_ := KC.le hK; have hA := KC.agree hK; exact quote_c hA (by omega))) <| .cons rfl (ob_move rfl) <| .cons rfl (ob_fieldAddrO (off := 3) rfl Tryd.underlying33 rfl rfl Tryd.sizeOf9 rfl) <| .cons rfl (ob_load1 rfl hc1 Tryd.isAgg9 rfl) <| .cons rfl (ob_callE rfl (.cons rfl <| .nil) Tryd.call24 (fun w m hK => by have hle_ := KC.le hK; have hA := KC.agree hK; exact quote_c hA (by omega))) <| .cons rfl (ob_or rfl rfl rfl) <| .nil) ?_
  intro a2 w2 m2 hst2 hle2 hk2
  have hfr2 := hk2.fr (T' := [(1, _), (15, _)]) (.old rfl rfl <| .new rfl <| .nil)
  replace hkk_t := hkk_t.mono hle2
  replace haa_t := haa_t.mono hle2
  replace hc1 := hc1.mono hle2
  clear hst1 hfr1 hk2
  refine hK4 _ _ ?_; clear hK4
  refine cond_any hfr2 rfl rfl (fun hb15 => ?_) (fun hb15 => ?_)
  · try simp only [nq1, nq2, nq3, nq4, nq5, nq6, nq7, nq8, nq9, u8_eq] at hb15
    have hq0 : (quoteM t.name || quoteM t.param) = true := by simpa using hb15
    refine seq_any fun _ hK5 => ?_
    refine rp0 hst2 hfr2 (.cons rfl (ob_assign rfl) <| .nil) ?_
    intro a3 w3 m3 hst3 hle3 hk3
    have hfr3 := hk3.fr (T' := [(2, _)]) (.new rfl <| .nil)
    clear hst2 hfr2 hk3
    refine hK5 _ _ ?_; clear hK5
    refine wp_ret ?_
    repeat (with_reducible first | refine then_ret ?_ | refine block_ret ?_)
    exact fn_ret hst3 hfr3 rfl (.tmp rfl <| .nil) (by refine congrArg Value.bool ?_; rw [hqe, hq0]; rfl)
  · try simp only [nq1, nq2, nq3, nq4, nq5, nq6, nq7, nq8, nq9, u8_eq] at hb15
    have hq0 : (quoteM t.name || quoteM t.param) = false := by simpa using hb15
    rw [hq0, Bool.false_or] at hqe
    refine wp_skip ?_
    refine hK3 _ _ ?_; clear hK3
    refine seq_any fun _ hK7 => ?_
    refine seq_any fun _ hK8 => ?_
    refine rp0 hst2 hfr2 (.cons rfl (ob_assign rfl) <| .nil) ?_
    intro a3 w3 m3 hst3 hle3 hk3
    have hfr3 := hk3.fr (T' := [(1, _), (3, _)]) (.old rfl rfl <| .new rfl <| .nil)
    replace hkk_t := hkk_t.mono hle3
    replace haa_t := haa_t.mono hle3
    replace hc1 := hc1.mono hle3
    clear hst2 hfr2 hk3
    refine hK8 _ _ ?_; clear hK8
    refine wp_block ?_
    refine loop_any (T := [(1, _)]) (fun (y : Nat) => ([(3, .int .i64 (y : Int))] : List (Nat × Value))) (fun _ => _) (fun (y : Nat) m => (y ≤ t.kids.length) ∧ (quotesKs t.kids = quotesKs (t.kids.drop y))) (fun y => t.kids.length - y) (0) ⟨hst3, MLe.refl _, hfr3.sub (.cons rfl <| .cons rfl <| .nil), ⟨Nat.zero_le _, rfl⟩⟩ fun y a4 w4 m4 hh4 => ?_
    have hst4 := hh4.st; have hle4 := hh4.le; have hfr4 := hh4.fr; have hrel := hh4.rel; clear hh4
    replace hkk_t := hkk_t.mono hle4
    replace haa_t := haa_t.mono hle4
    replace hc1 := hc1.mono hle4
    clear hst3 hfr3
    obtain ⟨hyn, hrem⟩ := hrel
    have hlh4 := hle4
    refine seq_any fun _ hK10 => ?_
    refine seq_any fun _ hK11 => ?_
    refine rp0 hst4 hfr4 (.cons rfl (ob_move rfl) <| .cons rfl (ob_fieldAddrO (off := 5) rfl Tryd.underlying33 rfl rfl Tryd.sizeOf24 rfl) <| .cons rfl (ob_load1 rfl hc1 Tryd.isAgg24 rfl) <| .cons rfl (ob_len rfl Tryd.underlying24) <| .cons rfl (ob_lss rfl rfl) <| .nil) ?_
    intro a5 w5 m5 hst5 hle5 hk5
    have hfr5 := hk5.fr (T' := [(3, _), (1, _), (20, _)]) (.old rfl rfl <| .old rfl rfl <| .new rfl <| .nil)
    replace hkk_t := hkk_t.mono hle5
    replace haa_t := haa_t.mono hle5
    replace hc1 := hc1.mono hle5
    have hlh5 := hlh4.trans hle5
    clear hst4 hfr4 hk5
    refine hK11 _ _ ?_; clear hK11
    refine cond_any hfr5 rfl rfl (fun hb20 => ?_) (fun hb20 => ?_)
    · try simp only [nq1, nq2, nq3, nq4, nq5, nq6, nq7, nq8, nq9, u8_eq] at hb20
      refine wp_skip ?_
      refine hK10 _ _ ?_; clear hK10
      refine seq_any fun _ hK12 => ?_
      refine wp_block ?_
      refine seq_any fun _ hK13 => ?_
      obtain ⟨p14, vs14, x14, ho14, hd14, hm_x14, ht14, hcv14, hl14, hv14⟩ := hkk_t.nth (k := y) (by omega)
      cases ho14
      obtain ⟨⟨oK14, cK14, oA14, cA14, oR14, cR14, t014, t114, t214, t314, t414, t514, u014, u114, u214, u314, u414, u514⟩, rfl, hon14, hkk14, haa14, hrr14⟩ := hv14.open_
      dsimp only at hkk14 haa14 hrr14
      have hbg14 := hkk14.big; have hcp14 := hkk14.cap; have hbh14 := haa14.big; have hcq14 := haa14.cap
      try rw [hd14] at hrem
      try simp only [quotesKs] at hrem
      refine rp0 hst5 hfr5 (.cons rfl (ob_fieldAddrO (off := 5) rfl Tryd.underlying33 rfl rfl Tryd.sizeOf24 rfl) <| .cons rfl (ob_load1 rfl hc1 Tryd.isAgg24 rfl) <| .cons rfl (ob_move rfl) <| .cons rfl (ob_indexAddr (k := y) rfl rfl Tryd.underlying24 Tryd.sizeOf33 rfl (by omega)) <| .cons rfl (ob_loadS' rfl hcv14 Tryd.isAgg33 Tryd.sizeOf33 rfl rfl) <| .cons rfl (ob_callE rfl (.cons rfl <| .nil) Tryd.call9 (fun w m hK => by have hle_ := KC.le hK; have hA := KC.agree hK; have hv14 := hv14.mono hle_; exact ihk _ hm_x14 hA hv14 (by have := hbk _ hm_x14; omega))) <| .cons rfl (ob_assign rfl) <| .nil) ?_
      intro a6 w6 m6 hst6 hle6 hk6
      have hfr6 := hk6.fr (T' := [(3, _), (1, _), (4, _)]) (.old rfl rfl <| .old rfl rfl <| .new rfl <| .nil)
      have hlh6 := hlh5.trans hle6
      clear hst5 hfr5 hk6
      refine hK13 _ _ ?_; clear hK13
      refine seq_any fun _ hK15 => ?_
      refine rp0 hst6 hfr6 (.cons rfl (ob_move rfl) <| .nil) ?_
      intro a7 w7 m7 hst7 hle7 hk7
      have hfr7 := hk7.fr (T' := [(3, _), (1, _), (29, _)]) (.old rfl rfl <| .old rfl rfl <| .new rfl <| .nil)
      have hlh7 := hlh6.trans hle7
      clear hst6 hfr6 hk7
      refine hK15 _ _ ?_; clear hK15
      refine cond_any hfr7 rfl rfl (fun hb29 => ?_) (fun hb29 => ?_)
      · try simp only [nq1, nq2, nq3, nq4, nq5, nq6, nq7, nq8, nq9, u8_eq] at hb29
        have hq0 : quotesKs t.kids = true := by rw [hrem, hb29]; rfl
        refine seq_any fun _ hK16 => ?_
        refine rp0 hst7 hfr7 (.cons rfl (ob_assign rfl) <| .nil) ?_
        intro a8 w8 m8 hst8 hle8 hk8
        have hfr8 := hk8.fr (T' := [(3, _), (2, _)]) (.old rfl rfl <| .new rfl <| .nil)
        have hlh8 := hlh7.trans hle8
        clear hst7 hfr7 hk8
        refine hK16 _ _ ?_; clear hK16
        refine wp_ret ?_
        repeat (with_reducible first | refine then_ret ?_ | refine block_ret ?_)
        exact fn_ret hst8 hfr8 rfl (.tmp rfl <| .nil) (by refine congrArg Value.bool ?_; rw [hqe, hq0]; rfl)
      · try simp only [nq1, nq2, nq3, nq4, nq5, nq6, nq7, nq8, nq9, u8_eq] at hb29
        refine wp_skip ?_
        refine hK12 _ _ ?_; clear hK12
        refine rp0 hst7 hfr7 (.cons rfl (ob_move rfl) <| .cons rfl (ob_add rfl rfl ⟨by omega, by omega⟩) <| .cons rfl (ob_assign rfl) <| .nil) ?_
        intro a8 w8 m8 hst8 hle8 hk8
        have hfr8 := hk8.fr (T' := [(1, _), (3, _)]) (.old rfl rfl <| .new rfl <| .nil)
        have hlh8 := hlh7.trans hle8
        clear hst7 hfr7 hk8
        exact ⟨y + 1, m8, by show t.kids.length - (y + 1) < t.kids.length - y; omega, ⟨hst8, hlh8, hfr8.sub (.cons rfl <| .cons rfl <| .nil), ⟨by show y + 1 ≤ t.kids.length; omega, by rw [hrem, hb29]; rfl⟩⟩⟩
    · try simp only [nq1, nq2, nq3, nq4, nq5, nq6, nq7, nq8, nq9, u8_eq] at hb20
      have hge : y = t.kids.length := by omega
      rw [List.drop_of_length_le (by omega), quotesKs] at hrem
      rw [hrem, Bool.false_or] at hqe
      refine wp_exit ?_
      refine hK7 _ _ ?_; clear hK7
      refine seq_any fun _ hK18 => ?_
      refine seq_any fun _ hK19 => ?_
      refine rp0 hst5 hfr5 (.cons rfl (ob_assign rfl) <| .nil) ?_
      intro a6 w6 m6 hst6 hle6 hk6
      have hfr6 := hk6.fr (T' := [(3, _), (1, _), (5, _)]) (.old rfl rfl <| .old rfl rfl <| .new rfl <| .nil)
      replace haa_t := haa_t.mono hle6
      replace hc1 := hc1.mono hle6
      have hlh6 := hlh5.trans hle6
      clear hst5 hfr5 hk6
      refine hK19 _ _ ?_; clear hK19
      refine wp_block ?_
      have hlq20 := hlh6
      refine loop_any (T := [(3, _), (1, _)]) (fun (y : Nat) => ([(5, .int .i64 (y : Int))] : List (Nat × Value))) (fun _ => _) (fun (y : Nat) m => (y ≤ t.arms.length) ∧ (quotesAs t.arms = quotesAs (t.arms.drop y))) (fun y => t.arms.length - y) (0) ⟨hst6, MLe.refl _, hfr6.sub (.cons rfl <| .cons rfl <| .cons rfl <| .nil), ⟨Nat.zero_le _, rfl⟩⟩ fun y a7 w7 m7 hh7 => ?_
      have hst7 := hh7.st; have hle7 := hh7.le; have hfr7 := hh7.fr; have hrel := hh7.rel; clear hh7
      replace haa_t := haa_t.mono hle7
      replace hc1 := hc1.mono hle7
      clear hst6 hfr6
      obtain ⟨hyn, hrem⟩ := hrel
      have hlh7 := hle7
      refine seq_any fun _ hK21 => ?_
      refine seq_any fun _ hK22 => ?_
      refine rp0 hst7 hfr7 (.cons rfl (ob_move rfl) <| .cons rfl (ob_fieldAddrO (off := 6) rfl Tryd.underlying33 rfl rfl Tryd.sizeOf25 rfl) <| .cons rfl (ob_load1 rfl hc1 Tryd.isAgg25 rfl) <| .cons rfl (ob_len rfl Tryd.underlying25) <| .cons rfl (ob_lss rfl rfl) <| .nil) ?_
      intro a8 w8 m8 hst8 hle8 hk8
      have hfr8 := hk8.fr (T' := [(5, _), (3, _), (1, _), (34, _)]) (.old rfl rfl <| .old rfl rfl <| .old rfl rfl <| .new rfl <| .nil)
      replace haa_t := haa_t.mono hle8
      replace hc1 := hc1.mono hle8
      have hlh8 := hlh7.trans hle8
      clear hst7 hfr7 hk8
      refine hK22 _ _ ?_; clear hK22
      refine cond_any hfr8 rfl rfl (fun hb34 => ?_) (fun hb34 => ?_)
      · try simp only [nq1, nq2, nq3, nq4, nq5, nq6, nq7, nq8, nq9, u8_eq] at hb34
        refine wp_skip ?_
        refine hK21 _ _ ?_; clear hK21
        refine seq_any fun _ hK23 => ?_
        refine wp_block ?_
        refine seq_any fun _ hK24 => ?_
        obtain ⟨p25, vs25, x25, ho25, hd25, hm_x25, ht25, hcv25, hl25, hv25⟩ := haa_t.nth (k := y) (by omega)
        cases ho25
        obtain ⟨oV25, cV25, bs25, rfl, hva25, hbd25⟩ := hv25.open_
        have hbv25 := hva25.big; have hcv25_ := hva25.cap
        obtain ⟨⟨oK25b, cK25b, oA25b, cA25b, oR25b, cR25b, t025b, t125b, t225b, t325b, t425b, t525b, u025b, u125b, u225b, u325b, u425b, u525b⟩, rfl, hon25b, hkk25b, haa25b, hrr25b⟩ := hbd25.open_
        dsimp only at hkk25b haa25b hrr25b
        have hbg25b := hkk25b.big; have hcp25b := hkk25b.cap; have hbh25b := haa25b.big; have hcq25b := haa25b.cap
        try rw [hd25] at hrem
        try simp only [quotesAs_cons] at hrem
        refine rp0 hst8 hfr8 (.cons rfl (ob_fieldAddrO (off := 6) rfl Tryd.underlying33 rfl rfl Tryd.sizeOf25 rfl) <| .cons rfl (ob_load1 rfl hc1 Tryd.isAgg25 rfl) <| .cons rfl (ob_move rfl) <| .cons rfl (ob_indexAddr (k := y) rfl rfl Tryd.underlying25 Tryd.sizeOf60 rfl (by omega)) <| .cons rfl (ob_fieldAddrO (off := 2) rfl Tryd.underlying60 rfl rfl Tryd.sizeOf33 rfl) <| .cons rfl (ob_loadS rfl hcv25 Tryd.isAgg33 Tryd.sizeOf33 rfl rfl) <| .cons rfl (ob_callE rfl (.cons rfl <| .nil) Tryd.call9 (fun w m hK => by have hle_ := KC.le hK; have hA := KC.agree hK; have hbd25 := hbd25.mono hle_; exact iha _ hm_x25 hA hbd25 (by have := hba _ hm_x25; omega))) <| .cons rfl (ob_assign rfl) <| .nil) ?_
        intro a9 w9 m9 hst9 hle9 hk9
        have hfr9 := hk9.fr (T' := [(5, _), (3, _), (1, _), (6, _)]) (.old rfl rfl <| .old rfl rfl <| .old rfl rfl <| .new rfl <| .nil)
        replace hc1 := hc1.mono hle9
        replace hcv25 := hcv25.mono hle9
        replace hva25 := hva25.mono hle9
        have hlh9 := hlh8.trans hle9
        clear hst8 hfr8 hk9
        refine hK24 _ _ ?_; clear hK24
        refine seq_any fun _ hK26 => ?_
        refine seq_any fun _ hK27 => ?_
        refine rp0 hst9 hfr9 (.cons rfl (ob_assign rfl) <| .nil) ?_
        intro a10 w10 m10 hst10 hle10 hk10
        have hfr10 := hk10.fr (T' := [(5, _), (3, _), (1, _), (6, _), (7, _)]) (.old rfl rfl <| .old rfl rfl <| .old rfl rfl <| .old rfl rfl <| .new rfl <| .nil)
        replace hc1 := hc1.mono hle10
        replace hcv25 := hcv25.mono hle10
        replace hva25 := hva25.mono hle10
        have hlh10 := hlh9.trans hle10
        clear hst9 hfr9 hk10
        refine hK27 _ _ ?_; clear hK27
        refine wp_block ?_
        have hlq28 := hlh10
        refine loop_any (T := [(5, _), (3, _), (1, _)]) (fun (k : Nat × Bool) => ([(6, .bool k.2), (7, .int .i64 (k.1 : Int))] : List (Nat × Value))) (fun _ => _) (fun (k : Nat × Bool) m => (fun (k : Nat) (v : Bool) => (k ≤ x25.vars.length) ∧ ((quotesM x25.body || x25.vars.any quoteM) = (v || (x25.vars.drop k).any quoteM))) k.1 k.2) (fun k => x25.vars.length - k.1) ((0, (quotesM x25.body))) ⟨hst10, MLe.refl _, hfr10.sub (.cons rfl <| .cons rfl <| .cons rfl <| .cons rfl <| .cons rfl <| .nil), ⟨Nat.zero_le _, rfl⟩⟩ fun k a11 w11 m11 hh11 => ?_
        have hst11 := hh11.st; have hle11 := hh11.le; have hfr11 := hh11.fr; have hrel := hh11.rel; clear hh11
        replace hc1 := hc1.mono hle11
        replace hcv25 := hcv25.mono hle11
        replace hva25 := hva25.mono hle11
        clear hst10 hfr10
        obtain ⟨k, v⟩ := k
        dsimp only at hrel hfr11 hst11
        obtain ⟨hkn, hremk⟩ := hrel
        replace hlq28 := hlq28.trans hle11
        have hlh11 := hle11
        refine seq_any fun _ hK29 => ?_
        refine seq_any fun _ hK30 => ?_
        refine rp0 hst11 hfr11 (.cons rfl (ob_move rfl) <| .cons rfl (ob_fieldAddrO (off := 6) rfl Tryd.underlying33 rfl rfl Tryd.sizeOf25 rfl) <| .cons rfl (ob_load1 rfl hc1 Tryd.isAgg25 rfl) <| .cons rfl (ob_move rfl) <| .cons rfl (ob_indexAddr (k := y) rfl rfl Tryd.underlying25 Tryd.sizeOf60 rfl (by omega)) <| .cons rfl (ob_fieldAddrO (off := 1) rfl Tryd.underlying60 rfl rfl Tryd.sizeOf27 rfl) <| .cons rfl (ob_load1 rfl hcv25 Tryd.isAgg27 rfl) <| .cons rfl (ob_len rfl Tryd.underlying27) <| .cons rfl (ob_lss rfl rfl) <| .nil) ?_
        intro a12 w12 m12 hst12 hle12 hk12
        have hfr12 := hk12.fr (T' := [(6, _), (7, _), (5, _), (3, _), (1, _), (52, _)]) (.old rfl rfl <| .old rfl rfl <| .old rfl rfl <| .old rfl rfl <| .old rfl rfl <| .new rfl <| .nil)
        replace hc1 := hc1.mono hle12
        replace hcv25 := hcv25.mono hle12
        replace hva25 := hva25.mono hle12
        have hlh12 := hlh11.trans hle12
        replace hlq28 := hlq28.trans hle12
        clear hst11 hfr11 hk12
        refine hK30 _ _ ?_; clear hK30
        refine cond_any hfr12 rfl rfl (fun hb52 => ?_) (fun hb52 => ?_)
        · try simp only [nq1, nq2, nq3, nq4, nq5, nq6, nq7, nq8, nq9, u8_eq] at hb52
          refine wp_skip ?_
          refine hK29 _ _ ?_; clear hK29
          refine seq_any fun _ hK31 => ?_
          refine wp_block ?_
          obtain ⟨p32, vs32, x32, ho32, hd32, hm_x32, ht32, hcv32, hl32, hv32⟩ := hva25.nth (k := k) (by omega)
          cases ho32
          subst hv32
          try rw [hd32] at hremk
          try simp only [List.any_cons, List.any_nil] at hremk
          refine rp0 hst12 hfr12 (.cons rfl (ob_move rfl) <| .cons rfl (ob_move rfl) <| .cons rfl (ob_fieldAddrO (off := 6) rfl Tryd.underlying33 rfl rfl Tryd.sizeOf25 rfl) <| .cons rfl (ob_load1 rfl hc1 Tryd.isAgg25 rfl) <| .cons rfl (ob_move rfl) <| .cons rfl (ob_indexAddr (k := y) rfl rfl Tryd.underlying25 Tryd.sizeOf60 rfl (by omega)) <| .cons rfl (ob_fieldAddrO (off := 1) rfl Tryd.underlying60 rfl rfl Tryd.sizeOf27 rfl) <| .cons rfl (ob_load1 rfl hcv25 Tryd.isAgg27 rfl) <| .cons rfl (ob_move rfl) <| .cons rfl (ob_indexAddr (k := k) rfl rfl Tryd.underlying27 Tryd.sizeOf9 rfl (by omega)) <| .cons rfl (ob_load1' rfl hcv32 Tryd.isAgg9 rfl) <| .cons rfl (ob_callE rfl (.cons rfl <| .nil) Tryd.call24 (fun w m hK => by have hle_ := KC.le hK; have hA := KC.agree hK; exact quote_c hA (by have := hba _ hm_x25; have := sum_mem hm_x32; omega))) <| .cons rfl (ob_or rfl rfl rfl) <| .cons rfl (ob_assign rfl) <| .nil) ?_
          intro a13 w13 m13 hst13 hle13 hk13
          have hfr13 := hk13.fr (T' := [(7, _), (5, _), (3, _), (1, _), (6, _)]) (.old rfl rfl <| .old rfl rfl <| .old rfl rfl <| .old rfl rfl <| .new rfl <| .nil)
          have hlh13 := hlh12.trans hle13
          clear hst12 hfr12 hk13
          refine hK31 _ _ ?_; clear hK31
          refine rp0 hst13 hfr13 (.cons rfl (ob_move rfl) <| .cons rfl (ob_add rfl rfl ⟨by omega, by omega⟩) <| .cons rfl (ob_assign rfl) <| .nil) ?_
          intro a14 w14 m14 hst14 hle14 hk14
          have hfr14 := hk14.fr (T' := [(5, _), (3, _), (1, _), (6, _), (7, _)]) (.old rfl rfl <| .old rfl rfl <| .old rfl rfl <| .old rfl rfl <| .new rfl <| .nil)
          have hlh14 := hlh13.trans hle14
          clear hst13 hfr13 hk14
          exact ⟨(k + 1, (v || quoteM x32)), m14, by show x25.vars.length - (k + 1) < x25.vars.length - k; omega, ⟨hst14, hlh14, hfr14.sub (.cons rfl <| .cons rfl <| .cons rfl <| .cons rfl <| .cons rfl <| .nil), ⟨by show k + 1 ≤ x25.vars.length; omega, by rw [hremk, Bool.or_assoc]⟩⟩⟩
        · try simp only [nq1, nq2, nq3, nq4, nq5, nq6, nq7, nq8, nq9, u8_eq] at hb52
          have hgek : k = x25.vars.length := by omega
          rw [List.drop_of_length_le (by omega)] at hremk
          simp only [List.any_cons, List.any_nil] at hremk
          refine wp_exit ?_
          refine hK26 _ _ ?_; clear hK26
          refine seq_any fun _ hK33 => ?_
          refine rp0 hst12 hfr12 (.cons rfl (ob_move rfl) <| .nil) ?_
          intro a13 w13 m13 hst13 hle13 hk13
          have hfr13 := hk13.fr (T' := [(6, _), (7, _), (5, _), (3, _), (1, _), (68, _)]) (.old rfl rfl <| .old rfl rfl <| .old rfl rfl <| .old rfl rfl <| .old rfl rfl <| .new rfl <| .nil)
          have hlh13 := hlh12.trans hle13
          replace hlq28 := hlq28.trans hle13
          clear hst12 hfr12 hk13
          refine hK33 _ _ ?_; clear hK33
          refine cond_any hfr13 rfl rfl (fun hb68 => ?_) (fun hb68 => ?_)
          · try simp only [nq1, nq2, nq3, nq4, nq5, nq6, nq7, nq8, nq9, u8_eq] at hb68
            have hq9 : (quotesM x25.body || x25.vars.any quoteM) = true := by rw [hremk, hb68]; rfl
            refine seq_any fun _ hK34 => ?_
            refine rp0 hst13 hfr13 (.cons rfl (ob_assign rfl) <| .nil) ?_
            intro a14 w14 m14 hst14 hle14 hk14
            have hfr14 := hk14.fr (T' := [(6, _), (7, _), (5, _), (3, _), (2, _)]) (.old rfl rfl <| .old rfl rfl <| .old rfl rfl <| .old rfl rfl <| .new rfl <| .nil)
            have hlh14 := hlh13.trans hle14
            clear hst13 hfr13 hk14
            refine hK34 _ _ ?_; clear hK34
            refine wp_ret ?_
            repeat (with_reducible first | refine then_ret ?_ | refine block_ret ?_)
            exact fn_ret hst14 hfr14 rfl (.tmp rfl <| .nil) (by refine congrArg Value.bool ?_; rw [hqe, hrem, hq9]; rfl)
          · try simp only [nq1, nq2, nq3, nq4, nq5, nq6, nq7, nq8, nq9, u8_eq] at hb68
            have hq9 : (quotesM x25.body || x25.vars.any quoteM) = false := by rw [hremk, hb68]; rfl
            refine wp_skip ?_
            refine hK23 _ _ ?_; clear hK23
            refine rp0 hst13 hfr13 (.cons rfl (ob_move rfl) <| .cons rfl (ob_add rfl rfl ⟨by omega, by omega⟩) <| .cons rfl (ob_assign rfl) <| .nil) ?_
            intro a14 w14 m14 hst14 hle14 hk14
            have hfr14 := hk14.fr (T' := [(6, _), (7, _), (3, _), (1, _), (5, _)]) (.old rfl rfl <| .old rfl rfl <| .old rfl rfl <| .old rfl rfl <| .new rfl <| .nil)
            have hlh14 := hlh13.trans hle14
            replace hlq28 := hlq28.trans hle14
            clear hst13 hfr13 hk14
            exact ⟨y + 1, m14, by show t.arms.length - (y + 1) < t.arms.length - y; omega, ⟨hst14, hlq28, hfr14.sub (.cons rfl <| .cons rfl <| .cons rfl <| .nil), ⟨by show y + 1 ≤ t.arms.length; omega, by rw [hrem, hq9]; rfl⟩⟩⟩
      · try simp only [nq1, nq2, nq3, nq4, nq5, nq6, nq7, nq8, nq9, u8_eq] at hb34
        have hge : y = t.arms.length := by omega
        rw [List.drop_of_length_le (by omega), quotesAs] at hrem
        refine wp_exit ?_
        refine hK18 _ _ ?_; clear hK18
        refine seq_any fun _ hK36 => ?_
        refine rp0 hst8 hfr8 (.cons rfl (ob_assign rfl) <| .nil) ?_
        intro a9 w9 m9 hst9 hle9 hk9
        have hfr9 := hk9.fr (T' := [(5, _), (3, _), (2, _)]) (.old rfl rfl <| .old rfl rfl <| .new rfl <| .nil)
        have hlh9 := hlh8.trans hle9
        clear hst8 hfr8 hk9
        refine hK36 _ _ ?_; clear hK36
        refine wp_ret ?_
        repeat (with_reducible first | refine then_ret ?_ | refine block_ret ?_)
        exact fn_ret hst9 hfr9 rfl (.tmp rfl <| .nil) (by refine congrArg Value.bool ?_; rw [hqe, hrem])
theorem quotes_c (t : Tm) : quotes_G t := Tm.rec_ (p := quotes_G) (fun t ihk iha => quotes_s ihk iha) t

end Go.Proofs.YteamjgbhcjojaaaDoor
