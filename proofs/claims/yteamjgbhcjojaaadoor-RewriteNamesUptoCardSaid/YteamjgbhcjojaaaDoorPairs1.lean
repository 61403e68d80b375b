/-
  Names that are bound at one place. Conditions: those of each theorem.
-/
import Derived.Test.YteamjgbhcjojaaaDoorVars1
namespace Go.Proofs.YteamjgbhcjojaaaDoor
set_option linter.all false
set_option maxRecDepth 4000
open Go.RowKit
structure Pr where
  left : List Str
  right : List Str
def PrR (m : Mem) (x : Pr) (vs : List Value) : Prop := ∃ oL cL oR cR, vs = [.slice oL x.left.length cL, .slice oR x.right.length cR] ∧ Strs m oL x.left.length cL x.left ∧ Strs m oR x.right.length cR x.right
theorem PrR.mono {m m' : Mem} {x : Pr} {vs : List Value} (h : PrR m x vs) (hm : MLe m m') : PrR m' x vs := by obtain ⟨a, b, c, d, e, h1, h2⟩ := h; exact ⟨a, b, c, d, e, h1.mono hm, h2.mono hm⟩
theorem PrR.one {m : Mem} {x : Pr} {vs : List Value} (h : PrR m x vs) : vs.all (·.oneCell') = true := by obtain ⟨a, b, c, d, rfl, h1, h2⟩ := h; rfl
set_option maxHeartbeats 400000 in
theorem atL_c {w : World} {m : Mem} {o_l : Option Addr} {c_l : Nat} {l : List Str} {s : Str} (hA : Agree w m) (h_l : Strs m o_l l.length c_l l) : FnV Tryd.prog 47 #[.slice o_l l.length c_l, S s] w m (fun _ _ v => v = .int .i64 (atM l s)) := by
  have hb_l := h_l.big; have hc_l := h_l.cap
  refine fn_enter (vs := [_, _]) Tryd.func47 rfl rfl rfl fun a0 hfr0 => ?_
  have hst0 := st_enter hA (loc_nil [] _ w m)
  have hM : MLe m m := MLe.refl m
  refine seq_any fun _ hK1 => ?_
  refine rp0 hst0 hfr0 (.cons rfl (ob_assign rfl) <| .nil) ?_
  intro a1 w1 m1 hst1 hle1 hk1
  have hfr1 := hk1.fr (T' := [(0, _), (1, _)]) (.old rfl rfl <| .old rfl rfl <| .nil)
  replace h_l := h_l.mono hle1
  clear hst0 hfr0 hk1
  refine hK1 _ _ ?_; clear hK1
  refine seq_any fun _ hK2 => ?_
  refine seq_any fun _ hK3 => ?_
  refine rp0 hst1 hfr1 (.cons rfl (ob_move rfl) <| .cons rfl (ob_len rfl Tryd.underlying27) <| .cons rfl (ob_sub rfl rfl ⟨by omega, by omega⟩) <| .cons rfl (ob_assign rfl) <| .nil) ?_
  intro a2 w2 m2 hst2 hle2 hk2
  have hfr2 := hk2.fr (T' := [(0, _), (1, _), (5, _)]) (.old rfl rfl <| .old rfl rfl <| .new rfl <| .nil)
  replace h_l := h_l.mono hle2
  clear hst1 hfr1 hk2
  rw [show (l.length : Int) - 1 = (l.length : Int) - 1 - ((0 : Nat) : Int) by omega] at hfr2
  refine hK3 _ _ ?_; clear hK3
  refine wp_block ?_
  refine loop_any (T := [(0, _), (1, _)]) (fun (y : Nat) => ([(5, .int .i64 ((l.length : Int) - 1 - (y : Int)))] : List (Nat × Value))) (fun _ => _) (fun (y : Nat) m => (y ≤ l.length) ∧ (lastI s l 0 = lastI s (l.take (l.length - y)) 0)) (fun y => l.length - y) (0) ⟨hst2, MLe.refl _, hfr2.sub (.cons rfl <| .cons rfl <| .cons rfl <| .nil), ⟨Nat.zero_le _, by rw [Nat.sub_zero, List.take_length]⟩⟩ fun y a3 w3 m3 hh3 => ?_
  have hst3 := hh3.st; have hle3 := hh3.le; have hfr3 := hh3.fr; have hrel := hh3.rel; clear hh3
  replace h_l := h_l.mono hle3
  clear hst2 hfr2
  obtain ⟨hyn, hj⟩ := hrel
  have hlh3 := hle3
  refine seq_any fun _ hK5 => ?_
  refine seq_any fun _ hK6 => ?_
  refine rp0 hst3 hfr3 (.cons rfl (ob_move rfl) <| .cons rfl (ob_geq rfl rfl) <| .cons rfl (ob_move rfl) <| .cons rfl (ob_move rfl) <| .cons rfl (ob_sneq rfl rfl) <| .cons rfl (ob_and rfl rfl rfl) <| .nil) ?_
  intro a4 w4 m4 hst4 hle4 hk4
  have hfr4 := hk4.fr (T' := [(5, _), (0, _), (1, _), (14, _)]) (.old rfl rfl <| .old rfl rfl <| .old rfl rfl <| .new rfl <| .nil)
  replace h_l := h_l.mono hle4
  have hlh4 := hlh3.trans hle4
  clear hst3 hfr3 hk4
  refine hK6 _ _ ?_; clear hK6
  refine cond_any hfr4 rfl rfl (fun hb14 => ?_) (fun hb14 => ?_)
  · try simp only [nq1, nq2, nq3, nq4, nq5, nq6, nq7, nq8, nq9, u8_eq] at hb14
    have hs9 : s ≠ us := hb14.2
    have hy9 : y < l.length := by omega
    rw [show (l.length : Int) - 1 - (y : Int) = ((l.length - 1 - y : Nat) : Int) by omega] at hfr4
    refine wp_skip ?_
    refine hK5 _ _ ?_; clear hK5
    refine seq_any fun _ hK7 => ?_
    refine wp_block ?_
    refine seq_any fun _ hK8 => ?_
    obtain ⟨p9, vs9, x9, ho9, hd9, hm_x9, ht9, hcv9, hl9, hv9⟩ := h_l.nth (k := l.length - 1 - y) (by omega)
    cases ho9
    subst hv9
    refine rp0 hst4 hfr4 (.cons rfl (ob_move rfl) <| .cons rfl (ob_move rfl) <| .cons rfl (ob_indexAddr (k := l.length - 1 - y) rfl rfl Tryd.underlying27 Tryd.sizeOf9 rfl (by omega)) <| .cons rfl (ob_load1' rfl hcv9 Tryd.isAgg9 rfl) <| .cons rfl (ob_move rfl) <| .cons rfl (ob_seql rfl rfl) <| .nil) ?_
    intro a5 w5 m5 hst5 hle5 hk5
    have hfr5 := hk5.fr (T' := [(5, _), (0, _), (1, _), (22, _)]) (.old rfl rfl <| .old rfl rfl <| .old rfl rfl <| .new rfl <| .nil)
    have hlh5 := hlh4.trans hle5
    clear hst4 hfr4 hk5
    refine hK8 _ _ ?_; clear hK8
    refine cond_any hfr5 rfl rfl (fun hb22 => ?_) (fun hb22 => ?_)
    · try simp only [nq1, nq2, nq3, nq4, nq5, nq6, nq7, nq8, nq9, u8_eq] at hb22
      have hfin : atM l s = ((l.length - 1 - y : Nat) : Int) := by unfold atM; rw [if_neg hs9, hj, show l.length - y = l.length - 1 - y + 1 by omega, ht9, lastI_snoc, if_pos hb22, List.length_take]; omega
      refine seq_any fun _ hK10 => ?_
      refine rp0 hst5 hfr5 (.cons rfl (ob_move rfl) <| .cons rfl (ob_assign rfl) <| .nil) ?_
      intro a6 w6 m6 hst6 hle6 hk6
      have hfr6 := hk6.fr (T' := [(5, _), (4, _)]) (.old rfl rfl <| .new rfl <| .nil)
      have hlh6 := hlh5.trans hle6
      clear hst5 hfr5 hk6
      refine hK10 _ _ ?_; clear hK10
      refine wp_ret ?_
      repeat (with_reducible first | refine then_ret ?_ | refine block_ret ?_)
      exact fn_ret hst6 hfr6 rfl (.tmp rfl <| .nil) (by rw [hfin]; rfl)
    · try simp only [nq1, nq2, nq3, nq4, nq5, nq6, nq7, nq8, nq9, u8_eq] at hb22
      refine wp_skip ?_
      refine hK7 _ _ ?_; clear hK7
      refine rp0 hst5 hfr5 (.cons rfl (ob_move rfl) <| .cons rfl (ob_sub rfl rfl ⟨by omega, by omega⟩) <| .cons rfl (ob_assign rfl) <| .nil) ?_
      intro a6 w6 m6 hst6 hle6 hk6
      have hfr6 := hk6.fr (T' := [(0, _), (1, _), (5, _)]) (.old rfl rfl <| .old rfl rfl <| .new rfl <| .nil)
      have hlh6 := hlh5.trans hle6
      clear hst5 hfr5 hk6
      rw [show (((l.length - 1 - y : Nat) : Int) - 1) = (l.length : Int) - 1 - ((y + 1 : Nat) : Int) by omega] at hfr6
      exact ⟨y + 1, m6, by show l.length - (y + 1) < l.length - y; omega, ⟨hst6, hlh6, hfr6.sub (.cons rfl <| .cons rfl <| .cons rfl <| .nil), ⟨by show y + 1 ≤ l.length; omega, by show lastI s l 0 = lastI s (l.take (l.length - (y + 1))) 0; rw [hj, show l.length - y = l.length - 1 - y + 1 by omega, ht9, lastI_snoc, if_neg hb22, show l.length - (y + 1) = l.length - 1 - y by omega]⟩⟩⟩
  · try simp only [nq1, nq2, nq3, nq4, nq5, nq6, nq7, nq8, nq9, u8_eq] at hb14
    have hfin : atM l s = -1 := by unfold atM; by_cases hs : s = us; (rw [if_pos hs]); rw [if_neg hs, hj, show l.length - y = 0 by rcases hb14 with h | h; omega; exact absurd h hs]; rfl
    refine wp_exit ?_
    refine hK2 _ _ ?_; clear hK2
    refine seq_any fun _ hK12 => ?_
    refine rp0 hst4 hfr4 (.cons rfl (ob_assign rfl) <| .nil) ?_
    intro a5 w5 m5 hst5 hle5 hk5
    have hfr5 := hk5.fr (T' := [(5, _), (4, _)]) (.old rfl rfl <| .new rfl <| .nil)
    have hlh5 := hlh4.trans hle5
    clear hst4 hfr4 hk5
    refine hK12 _ _ ?_; clear hK12
    refine wp_ret ?_
    repeat (with_reducible first | refine then_ret ?_ | refine block_ret ?_)
    exact fn_ret hst5 hfr5 rfl (.tmp rfl <| .nil) (by rw [hfin]; rfl)

set_option maxHeartbeats 400000 in
theorem namesP_c {w : World} {m : Mem} {p : Pr} {vs_p : List Value} {sa : Str} {sb : Str} (hA : Agree w m) (h_p : PrR m p vs_p) : FnV Tryd.prog 37 #[.agg vs_p.toArray, S sa, S sb] w m (fun _ _ v => v = .bool (namesM p.left p.right sa sb)) := by
  obtain ⟨oL_p, cL_p, oQ_p, cQ_p, rfl, hlf_p, hrg_p⟩ := id h_p
  have hbl_p := hlf_p.big; have hcl_p_ := hlf_p.cap; have hbr_p := hrg_p.big; have hcr_p_ := hrg_p.cap
  refine fn_enter (vs := [_, _, _]) Tryd.func37 rfl rfl rfl fun a0 hfr0 => ?_
  have hst0 := st_enter hA (loc_nil [] _ w m)
  have hM : MLe m m := MLe.refl m
  refine seq_any fun _ hK1 => ?_
  refine rp0 hst0 hfr0 (.cons rfl (ob_box rfl rfl) <| .cons rfl (ob_assign rfl) <| .nil) ?_
  intro a1 w1 m1 hst1 hle1 hk1
  have hfr1 := hk1.fr (T' := [(1, _), (2, _)]) (.old rfl rfl <| .old rfl rfl <| .nil)
  obtain ⟨g2, e2, hc3⟩ := hk1.ex 3 rfl
  replace hfr1 := hfr1.cons e2
  replace hlf_p := hlf_p.mono hle1
  replace hrg_p := hrg_p.mono hle1
  clear hst0 hfr0 hk1
  refine hK1 _ _ ?_; clear hK1
  refine seq_any fun _ hK3 => ?_
  refine region_plain (fun _ => mixed) hst1 hfr1 (by kernel_rfl) (by kernel_rfl) (.cons rfl (ob_fieldAddrO (off := 0) rfl Tryd.underlying68 rfl rfl Tryd.sizeOf27 rfl) <| .cons rfl (ob_load1 rfl hc3 Tryd.isAgg27 rfl) <| .cons rfl (ob_move rfl) <| .cons rfl (ob_callE rfl (.cons rfl <| .cons rfl <| .nil) Tryd.call47 (fun w m hK => by have hle_ := KC.le hK; have hA := KC.agree hK; have hlf_p := hlf_p.mono hle_; exact atL_c hA hlf_p)) <| .cons rfl (ob_fieldAddrO (off := 1) rfl Tryd.underlying68 rfl rfl Tryd.sizeOf27 rfl) <| .cons rfl (ob_load1 rfl hc3 Tryd.isAgg27 rfl) <| .cons rfl (ob_move rfl) <| .cons rfl (ob_callE rfl (.cons rfl <| .cons rfl <| .nil) Tryd.call47 (fun w m hK => by have hle_ := KC.le hK; have hA := KC.agree hK; have hrg_p := hrg_p.mono hle_; exact atL_c hA hrg_p)) <| .cons rfl (ob_assign rfl) <| .cons rfl (ob_assign rfl) <| .nil) ?_
  intro a2 w2 m2 hst2 hle2 hk2
  have hfr2 := hk2.fr (T' := [(1, _), (2, _), (7, _), (8, _)]) (.old rfl rfl <| .old rfl rfl <| .new rfl <| .new rfl <| .nil)
  clear hst1 hfr1 hk2
  refine hK3 _ _ ?_; clear hK3
  refine seq_any fun _ hK4 => ?_
  refine rp0 hst2 hfr2 (.cons rfl (ob_move rfl) <| .cons rfl (ob_move rfl) <| .cons rfl (ob_eql rfl rfl) <| .cons rfl (ob_move rfl) <| .cons rfl (ob_move rfl) <| .cons rfl (ob_geq rfl rfl) <| .cons rfl (ob_move rfl) <| .cons rfl (ob_move rfl) <| .cons rfl (ob_move rfl) <| .cons rfl (ob_seql rfl rfl) <| .cons rfl (ob_or rfl rfl rfl) <| .cons rfl (ob_and rfl rfl rfl) <| .cons rfl (ob_assign rfl) <| .nil) ?_
  intro a3 w3 m3 hst3 hle3 hk3
  have hfr3 := hk3.fr (T' := [(6, _)]) (.new rfl <| .nil)
  clear hst2 hfr2 hk3
  refine hK4 _ _ ?_; clear hK4
  refine wp_ret ?_
  repeat (with_reducible first | refine then_ret ?_ | refine block_ret ?_)
  exact fn_ret hst3 hfr3 rfl (.tmp rfl <| .nil) (rfl)

set_option maxHeartbeats 400000 in
theorem boundW_c {w : World} {m : Mem} {t : Tm} {vs_t : List Value} {i : Nat} (hA : Agree w m) (h_t : TmR m t vs_t) : FnV Tryd.prog 39 #[.agg vs_t.toArray, .int .i64 (i : Int)] w m (fun _ m v => (MP.strs (boundM t.kind t.name t.param i)).p m v) := by
  obtain ⟨⟨oK_t, cK_t, oA_t, cA_t, oR_t, cR_t, t0_t, t1_t, t2_t, t3_t, t4_t, t5_t, u0_t, u1_t, u2_t, u3_t, u4_t, u5_t⟩, rfl, hon_t, hkk_t, haa_t, hrr_t⟩ := h_t.open_
  dsimp only at hkk_t haa_t hrr_t
  have hbg_t := hkk_t.big; have hcp_t := hkk_t.cap; have hbh_t := haa_t.big; have hcq_t := haa_t.cap
  refine fn_enter (vs := [_, _]) Tryd.func39 rfl rfl rfl fun a0 hfr0 => ?_
  have hst0 := st_enter hA (loc_nil [] _ w m)
  have hM : MLe m m := MLe.refl m
  refine seq_any fun _ hK1 => ?_
  refine rp0 hst0 hfr0 (.cons rfl (ob_box rfl rfl) <| .cons rfl (ob_assign rfl) <| .nil) ?_
  intro a1 w1 m1 hst1 hle1 hk1
  have hfr1 := hk1.fr (T' := [(1, _)]) (.old rfl rfl <| .nil)
  obtain ⟨g2, e2, hc2⟩ := hk1.ex 2 rfl
  replace hfr1 := hfr1.cons e2
  clear hst0 hfr0 hk1
  refine hK1 _ _ ?_; clear hK1
  refine seq_any fun _ hK3 => ?_
  refine wp_block ?_
  refine seq_any fun _ hK4 => ?_
  refine seq_any fun _ hK5 => ?_
  refine rp0 hst1 hfr1 (.cons rfl (ob_fieldAddrO (off := 0) rfl Tryd.underlying33 rfl rfl Tryd.sizeOf3 rfl) <| .cons rfl (ob_load1 rfl hc2 Tryd.isAgg3 rfl) <| .cons rfl (ob_eql rfl rfl) <| .cons rfl (ob_assign rfl) <| .nil) ?_
  intro a2 w2 m2 hst2 hle2 hk2
  have hfr2 := hk2.fr (T' := [(1, _), (2, _), (5, _)]) (.old rfl rfl <| .old rfl rfl <| .new rfl <| .nil)
  replace hc2 := hc2.mono hle2
  clear hst1 hfr1 hk2
  refine hK5 _ _ ?_; clear hK5
  refine cond_any hfr2 rfl rfl (fun hb5 => ?_) (fun hb5 => ?_)
  · try simp only [nq1, nq2, nq3, nq4, nq5, nq6, nq7, nq8, nq9, u8_eq] at hb5
    refine wp_skip ?_
    refine hK4 _ _ ?_; clear hK4
    refine cond_any hfr2 rfl rfl (fun hb5x => ?_) (fun hb5x => ?_)
    · try simp only [nq1, nq2, nq3, nq4, nq5, nq6, nq7, nq8, nq9, u8_eq] at hb5x
      refine seq_any fun _ hK6 => ?_
      refine ra0 (tch := []) hst2 hfr2 (.cons rfl (ob_fieldAddrO (off := 2) rfl Tryd.underlying33 rfl rfl Tryd.sizeOf9 rfl) <| .cons rfl (ob_load1 rfl hc2 Tryd.isAgg9 rfl) <| .cons rfl (ob_buildSlice (.cons rfl <| .nil) Tryd.underlying27 Tryd.sizeOf9 Tryd.zeroValue9 rfl rfl rfl rfl) <| .consA 25 rfl rfl <| .nil) ?_
      intro a3 w3 m3 hst3 hle3 hk3
      have hfr3 := hk3.fr (T' := []) (.nil)
      obtain ⟨g9, e7, hg9⟩ := hk3.ex 25 rfl
      replace hfr3 := hfr3.cons (hk3.same 4 rfl e7)
      clear hst2 hfr2 hk3
      refine hK6 _ _ ?_; clear hK6
      refine wp_ret ?_
      repeat (with_reducible first | refine then_ret ?_ | refine block_ret ?_)
      exact fn_ret hst3 hfr3 rfl (.tmp rfl <| .nil) (⟨(some ⟨g9, 0, none⟩, 1), by rw [show boundM t.kind t.name t.param i = [t.name] from by unfold boundM; rw [if_pos (by omega)]]; rfl, by rw [show boundM t.kind t.name t.param i = [t.name] from by unfold boundM; rw [if_pos (by omega)]]; exact Sl.one (vs := [_]) hg9 rfl rfl⟩)
    · exfalso; try simp only [nq1, nq2, nq3, nq4, nq5, nq6, nq7, nq8, nq9, u8_eq] at hb5x
      first | exact absurd hb5x hb5 | exact absurd hb5 hb5x | simp_all
  · try simp only [nq1, nq2, nq3, nq4, nq5, nq6, nq7, nq8, nq9, u8_eq] at hb5
    refine seq_any fun _ hK9 => ?_
    refine rp0 hst2 hfr2 (.cons rfl (ob_fieldAddrO (off := 0) rfl Tryd.underlying33 rfl rfl Tryd.sizeOf3 rfl) <| .cons rfl (ob_load1 rfl hc2 Tryd.isAgg3 rfl) <| .cons rfl (ob_eql rfl rfl) <| .cons rfl (ob_move rfl) <| .cons rfl (ob_move rfl) <| .cons rfl (ob_eql rfl rfl) <| .cons rfl (ob_and rfl rfl rfl) <| .cons rfl (ob_assign rfl) <| .nil) ?_
    intro a3 w3 m3 hst3 hle3 hk3
    have hfr3 := hk3.fr (T' := [(1, _), (2, _), (5, _)]) (.old rfl rfl <| .old rfl rfl <| .new rfl <| .nil)
    replace hc2 := hc2.mono hle3
    clear hst2 hfr2 hk3
    refine hK9 _ _ ?_; clear hK9
    refine cond_any hfr3 rfl rfl (fun hb5 => ?_) (fun hb5 => ?_)
    · try simp only [nq1, nq2, nq3, nq4, nq5, nq6, nq7, nq8, nq9, u8_eq] at hb5
      refine wp_skip ?_
      refine hK4 _ _ ?_; clear hK4
      refine cond_any hfr3 rfl rfl (fun hb5x => ?_) (fun hb5x => ?_)
      · try simp only [nq1, nq2, nq3, nq4, nq5, nq6, nq7, nq8, nq9, u8_eq] at hb5x
        refine seq_any fun _ hK10 => ?_
        refine ra0 (tch := []) hst3 hfr3 (.cons rfl (ob_fieldAddrO (off := 2) rfl Tryd.underlying33 rfl rfl Tryd.sizeOf9 rfl) <| .cons rfl (ob_load1 rfl hc2 Tryd.isAgg9 rfl) <| .cons rfl (ob_buildSlice (.cons rfl <| .nil) Tryd.underlying27 Tryd.sizeOf9 Tryd.zeroValue9 rfl rfl rfl rfl) <| .consA 25 rfl rfl <| .nil) ?_
        intro a4 w4 m4 hst4 hle4 hk4
        have hfr4 := hk4.fr (T' := []) (.nil)
        obtain ⟨g9, e11, hg9⟩ := hk4.ex 25 rfl
        replace hfr4 := hfr4.cons (hk4.same 4 rfl e11)
        clear hst3 hfr3 hk4
        refine hK10 _ _ ?_; clear hK10
        refine wp_ret ?_
        repeat (with_reducible first | refine then_ret ?_ | refine block_ret ?_)
        exact fn_ret hst4 hfr4 rfl (.tmp rfl <| .nil) (⟨(some ⟨g9, 0, none⟩, 1), by rw [show boundM t.kind t.name t.param i = [t.name] from by unfold boundM; rw [if_pos (by omega)]]; rfl, by rw [show boundM t.kind t.name t.param i = [t.name] from by unfold boundM; rw [if_pos (by omega)]]; exact Sl.one (vs := [_]) hg9 rfl rfl⟩)
      · exfalso; try simp only [nq1, nq2, nq3, nq4, nq5, nq6, nq7, nq8, nq9, u8_eq] at hb5x
        first | exact absurd hb5x hb5 | exact absurd hb5 hb5x | simp_all
    · try simp only [nq1, nq2, nq3, nq4, nq5, nq6, nq7, nq8, nq9, u8_eq] at hb5
      refine rp0 hst3 hfr3 (.cons rfl (ob_fieldAddrO (off := 0) rfl Tryd.underlying33 rfl rfl Tryd.sizeOf3 rfl) <| .cons rfl (ob_load1 rfl hc2 Tryd.isAgg3 rfl) <| .cons rfl (ob_eql rfl rfl) <| .cons rfl (ob_move rfl) <| .cons rfl (ob_move rfl) <| .cons rfl (ob_eql rfl rfl) <| .cons rfl (ob_and rfl rfl rfl) <| .cons rfl (ob_assign rfl) <| .nil) ?_
      intro a4 w4 m4 hst4 hle4 hk4
      have hfr4 := hk4.fr (T' := [(2, _), (5, _)]) (.old rfl rfl <| .new rfl <| .nil)
      replace hc2 := hc2.mono hle4
      clear hst3 hfr3 hk4
      refine hK4 _ _ ?_; clear hK4
      refine cond_any hfr4 rfl rfl (fun hb5 => ?_) (fun hb5 => ?_)
      · try simp only [nq1, nq2, nq3, nq4, nq5, nq6, nq7, nq8, nq9, u8_eq] at hb5
        refine seq_any fun _ hK13 => ?_
        refine ra0 (tch := []) hst4 hfr4 (.cons rfl (ob_fieldAddrO (off := 2) rfl Tryd.underlying33 rfl rfl Tryd.sizeOf9 rfl) <| .cons rfl (ob_load1 rfl hc2 Tryd.isAgg9 rfl) <| .cons rfl (ob_buildSlice (.cons rfl <| .nil) Tryd.underlying27 Tryd.sizeOf9 Tryd.zeroValue9 rfl rfl rfl rfl) <| .consA 25 rfl rfl <| .nil) ?_
        intro a5 w5 m5 hst5 hle5 hk5
        have hfr5 := hk5.fr (T' := []) (.nil)
        obtain ⟨g9, e14, hg9⟩ := hk5.ex 25 rfl
        replace hfr5 := hfr5.cons (hk5.same 4 rfl e14)
        clear hst4 hfr4 hk5
        refine hK13 _ _ ?_; clear hK13
        refine wp_ret ?_
        repeat (with_reducible first | refine then_ret ?_ | refine block_ret ?_)
        exact fn_ret hst5 hfr5 rfl (.tmp rfl <| .nil) (⟨(some ⟨g9, 0, none⟩, 1), by rw [show boundM t.kind t.name t.param i = [t.name] from by unfold boundM; rw [if_pos (by omega)]]; rfl, by rw [show boundM t.kind t.name t.param i = [t.name] from by unfold boundM; rw [if_pos (by omega)]]; exact Sl.one (vs := [_]) hg9 rfl rfl⟩)
      · try simp only [nq1, nq2, nq3, nq4, nq5, nq6, nq7, nq8, nq9, u8_eq] at hb5
        refine seq_any fun _ hK16 => ?_
        refine rp0 hst4 hfr4 (.cons rfl (ob_fieldAddrO (off := 0) rfl Tryd.underlying33 rfl rfl Tryd.sizeOf3 rfl) <| .cons rfl (ob_load1 rfl hc2 Tryd.isAgg3 rfl) <| .cons rfl (ob_eql rfl rfl) <| .cons rfl (ob_assign rfl) <| .nil) ?_
        intro a5 w5 m5 hst5 hle5 hk5
        have hfr5 := hk5.fr (T' := [(2, _), (26, _)]) (.old rfl rfl <| .new rfl <| .nil)
        replace hc2 := hc2.mono hle5
        clear hst4 hfr4 hk5
        refine hK16 _ _ ?_; clear hK16
        refine cond_any hfr5 rfl rfl (fun hb26 => ?_) (fun hb26 => ?_)
        · try simp only [nq1, nq2, nq3, nq4, nq5, nq6, nq7, nq8, nq9, u8_eq] at hb26
          refine seq_any fun _ hK17 => ?_
          refine ra0 (tch := []) hst5 hfr5 (.cons rfl (ob_fieldAddrO (off := 2) rfl Tryd.underlying33 rfl rfl Tryd.sizeOf9 rfl) <| .cons rfl (ob_load1 rfl hc2 Tryd.isAgg9 rfl) <| .cons rfl (ob_fieldAddrO (off := 3) rfl Tryd.underlying33 rfl rfl Tryd.sizeOf9 rfl) <| .cons rfl (ob_load1 rfl hc2 Tryd.isAgg9 rfl) <| .cons rfl (ob_buildSlice (.cons rfl <| .cons rfl <| .nil) Tryd.underlying27 Tryd.sizeOf9 Tryd.zeroValue9 rfl rfl rfl rfl) <| .consA 34 rfl rfl <| .nil) ?_
          intro a6 w6 m6 hst6 hle6 hk6
          have hfr6 := hk6.fr (T' := []) (.nil)
          obtain ⟨g9, e18, hg9⟩ := hk6.ex 34 rfl
          replace hfr6 := hfr6.cons (hk6.same 4 rfl e18)
          clear hst5 hfr5 hk6
          refine hK17 _ _ ?_; clear hK17
          refine wp_ret ?_
          repeat (with_reducible first | refine then_ret ?_ | refine block_ret ?_)
          exact fn_ret hst6 hfr6 rfl (.tmp rfl <| .nil) (⟨(some ⟨g9, 0, none⟩, 2), by rw [show boundM t.kind t.name t.param i = [t.name, t.param] from by unfold boundM; rw [if_neg (by omega), if_pos (by omega)]]; rfl, by rw [show boundM t.kind t.name t.param i = [t.name, t.param] from by unfold boundM; rw [if_neg (by omega), if_pos (by omega)]]; exact Sl.two (vs := [_]) (us := [_]) hg9 rfl rfl rfl rfl⟩)
        · try simp only [nq1, nq2, nq3, nq4, nq5, nq6, nq7, nq8, nq9, u8_eq] at hb26
          refine wp_skip ?_
          refine hK3 _ _ ?_; clear hK3
          refine seq_any fun _ hK20 => ?_
          refine rp0 hst5 hfr5 (.cons rfl (ob_assign rfl) <| .nil) ?_
          intro a6 w6 m6 hst6 hle6 hk6
          have hfr6 := hk6.fr (T' := [(4, _)]) (.new rfl <| .nil)
          clear hst5 hfr5 hk6
          refine hK20 _ _ ?_; clear hK20
          refine wp_ret ?_
          repeat (with_reducible first | refine then_ret ?_ | refine block_ret ?_)
          exact fn_ret hst6 hfr6 rfl (.tmp rfl <| .nil) (⟨(none, 0), by rw [show boundM t.kind t.name t.param i = [] from by unfold boundM; rw [if_neg (by omega), if_neg (by omega)]]; rfl, by rw [show boundM t.kind t.name t.param i = [] from by unfold boundM; rw [if_neg (by omega), if_neg (by omega)]]; exact Sl.empty⟩)

end Go.Proofs.YteamjgbhcjojaaaDoor
