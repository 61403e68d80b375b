/-
  Terms: a term of a number; a part of a program. Conditions: those of each theorem.
-/
import Derived.Test.YtppmbhjacjmfkaaTerms1
namespace Go.Proofs.Ytppmbhjacjmfkaa
set_option linter.all false
set_option maxRecDepth 4000
open Go.RowKit
abbrev at_G (t : Tm) : Prop := ∀ {w : World} {m : Mem} {vs_t : List Value} {n : Int} (hA : Agree w m) (h_t : TmR m t vs_t) (hn0 : 0 ≤ n) (hn : n ≤ 1073741824), FnV Try.prog 29 #[.agg vs_t.toArray, .int .i64 n] w m (fun _ m v => (MP.atB t n).p m v)
set_option maxHeartbeats 1600000 in
theorem at_s {t : Tm} (ihk : ∀ u ∈ t.kids, at_G u) (iha : ∀ a ∈ t.arms, at_G a.body) {w : World} {m : Mem} {vs_t : List Value} {n : Int} (hA : Agree w m) (h_t : TmR m t vs_t) (hn0 : 0 ≤ n) (hn : n ≤ 1073741824) : FnV Try.prog 29 #[.agg vs_t.toArray, .int .i64 n] w m (fun _ m v => (MP.atB t n).p m v) := by
  obtain ⟨⟨oK_t, cK_t, oA_t, cA_t, oR_t, cR_t, t0_t, t1_t, t2_t, t3_t, t4_t, t5_t, u0_t, u1_t, u2_t, u3_t, u4_t, u5_t⟩, rfl, hon_t, hkk_t, haa_t, hrr_t⟩ := h_t.open_
  dsimp only at hkk_t haa_t hrr_t
  have hbg_t := hkk_t.big; have hcp_t := hkk_t.cap; have hbh_t := haa_t.big; have hcq_t := haa_t.cap
  refine fn_enter (vs := [_, _]) Try.func29 rfl rfl rfl fun a0 hfr0 => ?_
  have hst0 := st_enter hA (loc_nil [] _ w m)
  have hM : MLe m m := MLe.refl m
  refine seq_any fun _ hK1 => ?_
  replace hst0 := hst0.more (r := .free) trivial List.nodup_nil (by simp [Res.blocks])
  refine ra0 (tch := [(1, 0, (fun v => .blk v _))]) hst0 hfr0 (.cons rfl (ob_box rfl rfl) <| .consT rfl rfl (fun _ => rfl) rfl (ob_allocL Try.zeroValue33 rfl) <| .cons rfl (ob_assign rfl) <| .cons rfl (ob_assign rfl) <| .nil) ?_
  intro a1 w1 m1 hst1 hle1 hk1
  have hfr1 := hk1.fr (T' := [(1, _)]) (.old rfl rfl <| .nil)
  obtain ⟨g2, e2, hc2⟩ := hk1.ex 2 rfl
  replace hfr1 := hfr1.cons e2
  obtain ⟨g3, e3, _⟩ := hk1.ex 4 rfl
  replace hfr1 := hfr1.cons e3
  replace hst1 := hst1.fin (L' := [_]) (.cons e3 <| .nil)
  replace h_t := h_t.mono hle1
  replace hkk_t := hkk_t.mono hle1
  replace haa_t := haa_t.mono hle1
  clear hst0 hfr0 hk1
  refine hK1 _ _ ?_; clear hK1
  refine seq_any fun _ hK4 => ?_
  refine seq_any fun _ hK5 => ?_
  refine rp0 hst1 hfr1 (.cons rfl (ob_move rfl) <| .cons rfl (ob_eql rfl rfl) <| .nil) ?_
  intro a2 w2 m2 hst2 hle2 hk2
  have hfr2 := hk2.fr (T' := [(1, _), (2, _), (4, _), (16, _)]) (.old rfl rfl <| .old rfl rfl <| .old rfl rfl <| .new rfl <| .nil)
  replace h_t := h_t.mono hle2
  replace hkk_t := hkk_t.mono hle2
  replace haa_t := haa_t.mono hle2
  replace hc2 := hc2.mono hle2
  clear hst1 hfr1 hk2
  refine hK5 _ _ ?_; clear hK5
  refine cond_any hfr2 rfl rfl (fun hb16 => ?_) (fun hb16 => ?_)
  · try simp only [nq1, nq2, nq3, nq4, nq5, nq6, nq7, nq8, nq9, u8_eq] at hb16
    refine seq_any fun _ hK6 => ?_
    refine ra0 (tch := [(1, 0, (fun _ => .blk _ _))]) hst2 hfr2 (.cons rfl (ob_loadS' rfl hc2 Try.isAgg33 Try.sizeOf33 rfl rfl) <| .consT rfl rfl (fun _ => rfl) rfl (ob_store' rfl rfl rfl Try.sizeOf33 rfl rfl h_t.one) <| .cons rfl (ob_assign rfl) <| .cons rfl (ob_assign rfl) <| .nil) ?_
    intro a3 w3 m3 hst3 hle3 hk3
    have hfr3 := hk3.fr (T' := [(1, _), (4, _), (5, _), (6, _)]) (.old rfl rfl <| .old rfl rfl <| .new rfl <| .new rfl <| .nil)
    replace hst3 := hst3.fin (L' := [_]) (.cons rfl <| .nil)
    try simp only [List.take_succ_cons, List.take_zero, List.drop_succ_cons, List.drop_zero, List.cons_append, List.nil_append, List.append_nil, List.length_cons, List.length_nil, Nat.zero_add, Nat.reduceAdd] at hst3
    replace h_t := h_t.mono hle3
    clear hst2 hfr2 hk3
    refine hK6 _ _ ?_; clear hK6
    refine wp_ret ?_
    repeat (with_reducible first | refine then_ret ?_ | refine block_ret ?_)
    exact fn_ret hst3 hfr3 rfl (.cell rfl (load_blk (blk_heap (hst3.loc.at_ (k := 0) rfl)) Try.isAgg33 Try.sizeOf33) <| .tmp rfl <| .tmp rfl <| .nil) (⟨((t, (⟨oK_t, cK_t, oA_t, cA_t, oR_t, cR_t, t0_t, t1_t, t2_t, t3_t, t4_t, t5_t, u0_t, u1_t, u2_t, u3_t, u4_t, u5_t⟩ : TmY)), 0, true), rfl, h_t, ⟨Int.le_refl _, hn0⟩, .inl (.refl t)⟩)
  · try simp only [nq1, nq2, nq3, nq4, nq5, nq6, nq7, nq8, nq9, u8_eq] at hb16
    refine wp_skip ?_
    refine hK4 _ _ ?_; clear hK4
    refine seq_any fun _ hK8 => ?_
    refine rp0 hst2 hfr2 (.cons rfl (ob_move rfl) <| .cons rfl (ob_sub rfl rfl ⟨by omega, by omega⟩) <| .cons rfl (ob_assign rfl) <| .nil) ?_
    intro a3 w3 m3 hst3 hle3 hk3
    have hfr3 := hk3.fr (T' := [(2, _), (4, _), (1, _)]) (.old rfl rfl <| .old rfl rfl <| .new rfl <| .nil)
    replace hkk_t := hkk_t.mono hle3
    replace haa_t := haa_t.mono hle3
    replace hc2 := hc2.mono hle3
    clear hst2 hfr2 hk3
    refine hK8 _ _ ?_; clear hK8
    refine seq_any fun _ hK9 => ?_
    refine seq_any fun _ hK10 => ?_
    refine rp0 hst3 hfr3 (.cons rfl (ob_assign rfl) <| .nil) ?_
    intro a4 w4 m4 hst4 hle4 hk4
    have hfr4 := hk4.fr (T' := [(2, _), (4, _), (1, _), (7, _)]) (.old rfl rfl <| .old rfl rfl <| .old rfl rfl <| .new rfl <| .nil)
    replace hkk_t := hkk_t.mono hle4
    replace haa_t := haa_t.mono hle4
    replace hc2 := hc2.mono hle4
    clear hst3 hfr3 hk4
    refine hK10 _ _ ?_; clear hK10
    refine wp_block ?_
    refine loop_any (T := [(2, _), (4, _)]) (fun (y : Nat × Int) => ([(1, .int .i64 y.2), (7, .int .i64 (y.1 : Int))] : List (Nat × Value))) (fun _ => _) (fun (y : Nat × Int) m => (fun (y : Nat) (v : Int) => (y ≤ t.kids.length) ∧ (0 ≤ v) ∧ (v ≤ n)) y.1 y.2) (fun y => t.kids.length - y.1) ((0, (n - 1))) ⟨hst4, MLe.refl _, hfr4.sub (.cons rfl <| .cons rfl <| .cons rfl <| .cons rfl <| .nil), ⟨Nat.zero_le _, by omega, by omega⟩⟩ fun y a5 w5 m5 hh5 => ?_
    have hst5 := hh5.st; have hle5 := hh5.le; have hfr5 := hh5.fr; have hrel := hh5.rel; clear hh5
    replace hkk_t := hkk_t.mono hle5
    replace haa_t := haa_t.mono hle5
    replace hc2 := hc2.mono hle5
    clear hst4 hfr4
    obtain ⟨y, v⟩ := y
    dsimp only at hrel hfr5 hst5
    obtain ⟨hyn, hv0, hvn⟩ := hrel
    have hlh5 := hle5
    refine seq_any fun _ hK12 => ?_
    refine seq_any fun _ hK13 => ?_
    refine rp0 hst5 hfr5 (.cons rfl (ob_move rfl) <| .cons rfl (ob_fieldAddrO (off := 5) rfl Try.underlying33 rfl rfl Try.sizeOf24 rfl) <| .cons rfl (ob_load1 rfl hc2 Try.isAgg24 rfl) <| .cons rfl (ob_len rfl Try.underlying24) <| .cons rfl (ob_lss rfl rfl) <| .nil) ?_
    intro a6 w6 m6 hst6 hle6 hk6
    have hfr6 := hk6.fr (T' := [(1, _), (7, _), (2, _), (4, _), (24, _)]) (.old rfl rfl <| .old rfl rfl <| .old rfl rfl <| .old rfl rfl <| .new rfl <| .nil)
    replace hkk_t := hkk_t.mono hle6
    replace haa_t := haa_t.mono hle6
    replace hc2 := hc2.mono hle6
    have hlh6 := hlh5.trans hle6
    clear hst5 hfr5 hk6
    refine hK13 _ _ ?_; clear hK13
    refine cond_any hfr6 rfl rfl (fun hb24 => ?_) (fun hb24 => ?_)
    · try simp only [nq1, nq2, nq3, nq4, nq5, nq6, nq7, nq8, nq9, u8_eq] at hb24
      refine wp_skip ?_
      refine hK12 _ _ ?_; clear hK12
      refine seq_any fun _ hK14 => ?_
      refine wp_block ?_
      refine seq_any fun _ hK15 => ?_
      obtain ⟨p16, vs16, x16, ho16, hd16, hm_x16, ht16, hcv16, hl16, hv16⟩ := hkk_t.nth (k := y) (by omega)
      cases ho16
      obtain ⟨⟨oK16, cK16, oA16, cA16, oR16, cR16, t016, t116, t216, t316, t416, t516, u016, u116, u216, u316, u416, u516⟩, rfl, hon16, hkk16, haa16, hrr16⟩ := hv16.open_
      dsimp only at hkk16 haa16 hrr16
      have hbg16 := hkk16.big; have hcp16 := hkk16.cap; have hbh16 := haa16.big; have hcq16 := haa16.cap
      replace hst6 := hst6.more (r := .free) trivial List.nodup_nil (by simp [Res.blocks])
      refine ra0 (tch := [(11, 1, (fun v => .blk v _)), (12, 1, (fun v => .blkx v _ _))]) hst6 hfr6 (.cons rfl (ob_fieldAddrO (off := 5) rfl Try.underlying33 rfl rfl Try.sizeOf24 rfl) <| .cons rfl (ob_load1 rfl hc2 Try.isAgg24 rfl) <| .cons rfl (ob_move rfl) <| .cons rfl (ob_indexAddr (k := y) rfl rfl Try.underlying24 Try.sizeOf33 rfl (by omega)) <| .cons rfl (ob_loadS' rfl hcv16 Try.isAgg33 Try.sizeOf33 rfl rfl) <| .cons rfl (ob_move rfl) <| .cons rfl (ob_call (φ := MP.atB x16 v) rfl (.cons rfl <| .cons rfl <| .nil) Try.call29 (fun w m hK => by have hle_ := KC.le hK; have hA := KC.agree hK; have hv16 := hv16.mono hle_; exact FnG.mono (ihk _ hm_x16 hA hv16 hv0 (by omega)) fun _ _ _ _ h => h)) <| .cons rfl (ob_imgV 34 rfl rfl rfl fun y34 => ob_move rfl) <| .cons rfl (ob_imgV 27 rfl rfl rfl fun y27 => ob_extract rfl rfl) <| .cons rfl (ob_imgV 27 rfl rfl rfl fun y27 => ob_extract rfl rfl) <| .cons rfl (ob_imgV 27 rfl rfl rfl fun y27 => ob_extract rfl rfl) <| .consT rfl rfl (fun _ => rfl) rfl (ob_allocL Try.zeroValue33 rfl) <| .consT rfl rfl (fun _ => rfl) rfl (ob_imgT 8 rfl rfl rfl fun y8 => ob_imgTX 35 rfl rfl rfl fun y35 => ob_storeKF rfl rfl rfl rfl rfl Try.sizeOf33 rfl rfl (fun w m hK => hK.2.1.one)) <| .consA 36 rfl rfl <| .consA 37 rfl rfl <| .nil) ?_
      intro a7 w7 m7 hst7 hle7 hk7
      have hfr7 := hk7.fr (T' := [(1, _), (7, _), (2, _), (4, _)]) (.old rfl rfl <| .old rfl rfl <| .old rfl rfl <| .old rfl rfl <| .nil)
      obtain ⟨⟨⟨xa, ya⟩, na, ba⟩, e17, ⟨_, hla, _⟩⟩ := hk7.ex 36 rfl
      obtain ⟨⟨⟨xb, yb⟩, nb, bb⟩, e18, _⟩ := hk7.ex 37 rfl
      obtain ⟨g19, e19, _⟩ := hk7.ex 8 rfl
      replace hfr7 := hfr7.cons e19
      replace hfr7 := hfr7.cons (hk7.same 9 rfl e17)
      replace hfr7 := hfr7.cons (hk7.same 10 rfl e18)
      replace hst7 := hst7.fin (L' := [_, _]) (.cons e19 <| .cons e19 <| .nil)
      try simp only [List.take_succ_cons, List.take_zero, List.drop_succ_cons, List.drop_zero, List.cons_append, List.nil_append, List.append_nil, List.length_cons, List.length_nil, Nat.zero_add, Nat.reduceAdd] at hst7
      obtain ⟨⟨⟨xu, yu⟩, nu, bu⟩, ⟨htu, hlu, hptu⟩, hst7⟩ := hst7.unx (k := 1) rfl (fun _ => rfl)
      have hlh7 := hlh6.trans hle7
      clear hst6 hfr6 hk7
      dsimp only at hla hlu hptu htu
      refine hK15 _ _ ?_; clear hK15
      refine seq_any fun _ hK21 => ?_
      refine seq_any fun _ hK22 => ?_
      refine rp0 hst7 hfr7 (.cons rfl (ob_move rfl) <| .nil) ?_
      intro a8 w8 m8 hst8 hle8 hk8
      have hfr8 := hk8.fr (T' := [(1, _), (7, _), (2, _), (4, _), (8, _), (9, _), (38, _)]) (.old rfl rfl <| .old rfl rfl <| .old rfl rfl <| .old rfl rfl <| .old rfl rfl <| .old rfl rfl <| .new rfl <| .nil)
      replace htu := htu.mono hle8
      have hlh8 := hlh7.trans hle8
      clear hst7 hfr7 hk8
      refine hK22 _ _ ?_; clear hK22
      refine cond_any hfr8 rfl rfl (fun hb38 => ?_) (fun hb38 => ?_)
      · try simp only [nq1, nq2, nq3, nq4, nq5, nq6, nq7, nq8, nq9, u8_eq] at hb38
        refine seq_any fun _ hK23 => ?_
        refine ra0 (tch := [(1, 0, (fun _ => .blk _ _))]) hst8 hfr8 (.cons rfl (ob_loadLA (j := 1) rfl rfl Try.isAgg33 Try.sizeOf33 rfl) <| .consT rfl rfl (fun _ => rfl) rfl (ob_store' rfl rfl rfl Try.sizeOf33 rfl rfl htu.one) <| .cons rfl (ob_assign rfl) <| .cons rfl (ob_assign rfl) <| .nil) ?_
        intro a9 w9 m9 hst9 hle9 hk9
        have hfr9 := hk9.fr (T' := [(1, _), (7, _), (4, _), (5, _), (6, _)]) (.old rfl rfl <| .old rfl rfl <| .old rfl rfl <| .new rfl <| .new rfl <| .nil)
        replace hst9 := hst9.fin (L' := [_, _]) (.cons rfl <| .nil)
        try simp only [List.take_succ_cons, List.take_zero, List.drop_succ_cons, List.drop_zero, List.cons_append, List.nil_append, List.append_nil, List.length_cons, List.length_nil, Nat.zero_add, Nat.reduceAdd] at hst9
        replace htu := htu.mono hle9
        have hlh9 := hlh8.trans hle9
        clear hst8 hfr8 hk9
        refine hK23 _ _ ?_; clear hK23
        refine wp_ret ?_
        repeat (with_reducible first | refine then_ret ?_ | refine block_ret ?_)
        exact fn_ret hst9 hfr9 rfl (.cell rfl (load_blk (blk_heap (hst9.loc.at_ (k := 0) rfl)) Try.isAgg33 Try.sizeOf33) <| .tmp rfl <| .tmp rfl <| .nil) (⟨((xu, yu), 0, true), rfl, htu, ⟨Int.le_refl _, hn0⟩, hptu.elim (fun h => .inl (.kid hm_x16 h)) .inr⟩)
      · try simp only [nq1, nq2, nq3, nq4, nq5, nq6, nq7, nq8, nq9, u8_eq] at hb38
        refine wp_skip ?_
        refine hK21 _ _ ?_; clear hK21
        refine rp0 hst8 hfr8 (.cons rfl (ob_move rfl) <| .cons rfl (ob_assign rfl) <| .nil) ?_
        intro a9 w9 m9 hst9 hle9 hk9
        have hfr9 := hk9.fr (T' := [(7, _), (2, _), (4, _), (1, _)]) (.old rfl rfl <| .old rfl rfl <| .old rfl rfl <| .new rfl <| .nil)
        have hlh9 := hlh8.trans hle9
        clear hst8 hfr8 hk9
        refine hK14 _ _ ?_; clear hK14
        refine rp0 hst9 hfr9 (.cons rfl (ob_move rfl) <| .cons rfl (ob_add rfl rfl ⟨by omega, by omega⟩) <| .cons rfl (ob_assign rfl) <| .nil) ?_
        intro a10 w10 m10 hst10 hle10 hk10
        have hfr10 := hk10.fr (T' := [(2, _), (4, _), (1, _), (7, _)]) (.old rfl rfl <| .old rfl rfl <| .old rfl rfl <| .new rfl <| .nil)
        have hlh10 := hlh9.trans hle10
        clear hst9 hfr9 hk10
        have hst10 := hst10.take 1
        exact ⟨(y + 1, na), m10, by show t.kids.length - (y + 1) < t.kids.length - y; omega, ⟨hst10, hlh10, hfr10.sub (.cons rfl <| .cons rfl <| .cons rfl <| .cons rfl <| .nil), ⟨by show y + 1 ≤ t.kids.length; omega, hla.1, by have := hla.2; show na ≤ n; omega⟩⟩⟩
    · try simp only [nq1, nq2, nq3, nq4, nq5, nq6, nq7, nq8, nq9, u8_eq] at hb24
      have hge : y = t.kids.length := by omega
      refine wp_exit ?_
      refine hK9 _ _ ?_; clear hK9
      refine seq_any fun _ hK25 => ?_
      refine seq_any fun _ hK26 => ?_
      refine rp0 hst6 hfr6 (.cons rfl (ob_assign rfl) <| .nil) ?_
      intro a7 w7 m7 hst7 hle7 hk7
      have hfr7 := hk7.fr (T' := [(1, _), (7, _), (2, _), (4, _), (11, _)]) (.old rfl rfl <| .old rfl rfl <| .old rfl rfl <| .old rfl rfl <| .new rfl <| .nil)
      replace haa_t := haa_t.mono hle7
      replace hc2 := hc2.mono hle7
      have hlh7 := hlh6.trans hle7
      clear hst6 hfr6 hk7
      refine hK26 _ _ ?_; clear hK26
      refine wp_block ?_
      have hlq27 := hlh7
      refine loop_any (T := [(7, _), (2, _), (4, _)]) (fun (y : Nat × Int) => ([(1, .int .i64 y.2), (11, .int .i64 (y.1 : Int))] : List (Nat × Value))) (fun _ => _) (fun (y : Nat × Int) m => (fun (y : Nat) (u : Int) => (y ≤ t.arms.length) ∧ (0 ≤ u) ∧ (u ≤ n)) y.1 y.2) (fun y => t.arms.length - y.1) ((0, v)) ⟨hst7, MLe.refl _, hfr7.sub (.cons rfl <| .cons rfl <| .cons rfl <| .cons rfl <| .cons rfl <| .nil), ⟨Nat.zero_le _, hv0, hvn⟩⟩ fun y a8 w8 m8 hh8 => ?_
      have hst8 := hh8.st; have hle8 := hh8.le; have hfr8 := hh8.fr; have hrel := hh8.rel; clear hh8
      replace haa_t := haa_t.mono hle8
      replace hc2 := hc2.mono hle8
      clear hst7 hfr7
      obtain ⟨y, u⟩ := y
      dsimp only at hrel hfr8 hst8
      obtain ⟨hyn, hv0, hvn⟩ := hrel
      have hlh8 := hle8
      refine seq_any fun _ hK28 => ?_
      refine seq_any fun _ hK29 => ?_
      refine rp0 hst8 hfr8 (.cons rfl (ob_move rfl) <| .cons rfl (ob_fieldAddrO (off := 6) rfl Try.underlying33 rfl rfl Try.sizeOf25 rfl) <| .cons rfl (ob_load1 rfl hc2 Try.isAgg25 rfl) <| .cons rfl (ob_len rfl Try.underlying25) <| .cons rfl (ob_lss rfl rfl) <| .nil) ?_
      intro a9 w9 m9 hst9 hle9 hk9
      have hfr9 := hk9.fr (T' := [(1, _), (11, _), (7, _), (2, _), (4, _), (45, _)]) (.old rfl rfl <| .old rfl rfl <| .old rfl rfl <| .old rfl rfl <| .old rfl rfl <| .new rfl <| .nil)
      replace haa_t := haa_t.mono hle9
      replace hc2 := hc2.mono hle9
      have hlh9 := hlh8.trans hle9
      clear hst8 hfr8 hk9
      refine hK29 _ _ ?_; clear hK29
      refine cond_any hfr9 rfl rfl (fun hb45 => ?_) (fun hb45 => ?_)
      · try simp only [nq1, nq2, nq3, nq4, nq5, nq6, nq7, nq8, nq9, u8_eq] at hb45
        refine wp_skip ?_
        refine hK28 _ _ ?_; clear hK28
        refine seq_any fun _ hK30 => ?_
        refine wp_block ?_
        refine seq_any fun _ hK31 => ?_
        obtain ⟨p32, vs32, x32, ho32, hd32, hm_x32, ht32, hcv32, hl32, hv32⟩ := haa_t.nth (k := y) (by omega)
        cases ho32
        obtain ⟨oV32, cV32, bs32, rfl, hva32, hbd32⟩ := hv32.open_
        have hbv32 := hva32.big; have hcv32_ := hva32.cap
        obtain ⟨⟨oK32b, cK32b, oA32b, cA32b, oR32b, cR32b, t032b, t132b, t232b, t332b, t432b, t532b, u032b, u132b, u232b, u332b, u432b, u532b⟩, rfl, hon32b, hkk32b, haa32b, hrr32b⟩ := hbd32.open_
        dsimp only at hkk32b haa32b hrr32b
        have hbg32b := hkk32b.big; have hcp32b := hkk32b.cap; have hbh32b := haa32b.big; have hcq32b := haa32b.cap
        replace hst9 := hst9.more (r := .free) trivial List.nodup_nil (by simp [Res.blocks])
        refine ra0 (tch := [(12, 1, (fun v => .blk v _)), (13, 1, (fun v => .blkx v _ _))]) hst9 hfr9 (.cons rfl (ob_fieldAddrO (off := 6) rfl Try.underlying33 rfl rfl Try.sizeOf25 rfl) <| .cons rfl (ob_load1 rfl hc2 Try.isAgg25 rfl) <| .cons rfl (ob_move rfl) <| .cons rfl (ob_indexAddr (k := y) rfl rfl Try.underlying25 Try.sizeOf40 rfl (by omega)) <| .cons rfl (ob_fieldAddrO (off := 2) rfl Try.underlying40 rfl rfl Try.sizeOf33 rfl) <| .cons rfl (ob_loadS rfl hcv32 Try.isAgg33 Try.sizeOf33 rfl rfl) <| .cons rfl (ob_move rfl) <| .cons rfl (ob_call (φ := MP.atB x32.body u) rfl (.cons rfl <| .cons rfl <| .nil) Try.call29 (fun w m hK => by have hle_ := KC.le hK; have hA := KC.agree hK; have hbd32 := hbd32.mono hle_; exact FnG.mono (iha _ hm_x32 hA hbd32 hv0 (by omega)) fun _ _ _ _ h => h)) <| .cons rfl (ob_imgV 56 rfl rfl rfl fun y56 => ob_move rfl) <| .cons rfl (ob_imgV 48 rfl rfl rfl fun y48 => ob_extract rfl rfl) <| .cons rfl (ob_imgV 48 rfl rfl rfl fun y48 => ob_extract rfl rfl) <| .cons rfl (ob_imgV 48 rfl rfl rfl fun y48 => ob_extract rfl rfl) <| .consT rfl rfl (fun _ => rfl) rfl (ob_allocL Try.zeroValue33 rfl) <| .consT rfl rfl (fun _ => rfl) rfl (ob_imgT 12 rfl rfl rfl fun y12 => ob_imgTX 57 rfl rfl rfl fun y57 => ob_storeKF rfl rfl rfl rfl rfl Try.sizeOf33 rfl rfl (fun w m hK => hK.2.1.one)) <| .consA 58 rfl rfl <| .consA 59 rfl rfl <| .nil) ?_
        intro a10 w10 m10 hst10 hle10 hk10
        have hfr10 := hk10.fr (T' := [(1, _), (11, _), (7, _), (2, _), (4, _)]) (.old rfl rfl <| .old rfl rfl <| .old rfl rfl <| .old rfl rfl <| .old rfl rfl <| .nil)
        obtain ⟨⟨⟨xa, ya⟩, na, ba⟩, e33, ⟨_, hla, _⟩⟩ := hk10.ex 58 rfl
        obtain ⟨⟨⟨xb, yb⟩, nb, bb⟩, e34, _⟩ := hk10.ex 59 rfl
        obtain ⟨g35, e35, _⟩ := hk10.ex 12 rfl
        replace hfr10 := hfr10.cons e35
        replace hfr10 := hfr10.cons (hk10.same 13 rfl e33)
        replace hfr10 := hfr10.cons (hk10.same 14 rfl e34)
        replace hst10 := hst10.fin (L' := [_, _]) (.cons e35 <| .cons e35 <| .nil)
        try simp only [List.take_succ_cons, List.take_zero, List.drop_succ_cons, List.drop_zero, List.cons_append, List.nil_append, List.append_nil, List.length_cons, List.length_nil, Nat.zero_add, Nat.reduceAdd] at hst10
        obtain ⟨⟨⟨xu, yu⟩, nu, bu⟩, ⟨htu, hlu, hptu⟩, hst10⟩ := hst10.unx (k := 1) rfl (fun _ => rfl)
        have hlh10 := hlh9.trans hle10
        clear hst9 hfr9 hk10
        dsimp only at hla hlu hptu htu
        refine hK31 _ _ ?_; clear hK31
        refine seq_any fun _ hK37 => ?_
        refine seq_any fun _ hK38 => ?_
        refine rp0 hst10 hfr10 (.cons rfl (ob_move rfl) <| .nil) ?_
        intro a11 w11 m11 hst11 hle11 hk11
        have hfr11 := hk11.fr (T' := [(1, _), (11, _), (7, _), (2, _), (4, _), (12, _), (13, _), (60, _)]) (.old rfl rfl <| .old rfl rfl <| .old rfl rfl <| .old rfl rfl <| .old rfl rfl <| .old rfl rfl <| .old rfl rfl <| .new rfl <| .nil)
        replace htu := htu.mono hle11
        have hlh11 := hlh10.trans hle11
        clear hst10 hfr10 hk11
        refine hK38 _ _ ?_; clear hK38
        refine cond_any hfr11 rfl rfl (fun hb60 => ?_) (fun hb60 => ?_)
        · try simp only [nq1, nq2, nq3, nq4, nq5, nq6, nq7, nq8, nq9, u8_eq] at hb60
          refine seq_any fun _ hK39 => ?_
          refine ra0 (tch := [(1, 0, (fun _ => .blk _ _))]) hst11 hfr11 (.cons rfl (ob_loadLA (j := 1) rfl rfl Try.isAgg33 Try.sizeOf33 rfl) <| .consT rfl rfl (fun _ => rfl) rfl (ob_store' rfl rfl rfl Try.sizeOf33 rfl rfl htu.one) <| .cons rfl (ob_assign rfl) <| .cons rfl (ob_assign rfl) <| .nil) ?_
          intro a12 w12 m12 hst12 hle12 hk12
          have hfr12 := hk12.fr (T' := [(1, _), (11, _), (7, _), (4, _), (5, _), (6, _)]) (.old rfl rfl <| .old rfl rfl <| .old rfl rfl <| .old rfl rfl <| .new rfl <| .new rfl <| .nil)
          replace hst12 := hst12.fin (L' := [_, _]) (.cons rfl <| .nil)
          try simp only [List.take_succ_cons, List.take_zero, List.drop_succ_cons, List.drop_zero, List.cons_append, List.nil_append, List.append_nil, List.length_cons, List.length_nil, Nat.zero_add, Nat.reduceAdd] at hst12
          replace htu := htu.mono hle12
          have hlh12 := hlh11.trans hle12
          clear hst11 hfr11 hk12
          refine hK39 _ _ ?_; clear hK39
          refine wp_ret ?_
          repeat (with_reducible first | refine then_ret ?_ | refine block_ret ?_)
          exact fn_ret hst12 hfr12 rfl (.cell rfl (load_blk (blk_heap (hst12.loc.at_ (k := 0) rfl)) Try.isAgg33 Try.sizeOf33) <| .tmp rfl <| .tmp rfl <| .nil) (⟨((xu, yu), 0, true), rfl, htu, ⟨Int.le_refl _, hn0⟩, hptu.elim (fun h => .inl (.arm hm_x32 h)) .inr⟩)
        · try simp only [nq1, nq2, nq3, nq4, nq5, nq6, nq7, nq8, nq9, u8_eq] at hb60
          refine wp_skip ?_
          refine hK37 _ _ ?_; clear hK37
          refine rp0 hst11 hfr11 (.cons rfl (ob_move rfl) <| .cons rfl (ob_assign rfl) <| .nil) ?_
          intro a12 w12 m12 hst12 hle12 hk12
          have hfr12 := hk12.fr (T' := [(11, _), (7, _), (2, _), (4, _), (1, _)]) (.old rfl rfl <| .old rfl rfl <| .old rfl rfl <| .old rfl rfl <| .new rfl <| .nil)
          have hlh12 := hlh11.trans hle12
          clear hst11 hfr11 hk12
          refine hK30 _ _ ?_; clear hK30
          refine rp0 hst12 hfr12 (.cons rfl (ob_move rfl) <| .cons rfl (ob_add rfl rfl ⟨by omega, by omega⟩) <| .cons rfl (ob_assign rfl) <| .nil) ?_
          intro a13 w13 m13 hst13 hle13 hk13
          have hfr13 := hk13.fr (T' := [(7, _), (2, _), (4, _), (1, _), (11, _)]) (.old rfl rfl <| .old rfl rfl <| .old rfl rfl <| .old rfl rfl <| .new rfl <| .nil)
          have hlh13 := hlh12.trans hle13
          clear hst12 hfr12 hk13
          have hst13 := hst13.take 1
          exact ⟨(y + 1, na), m13, by show t.arms.length - (y + 1) < t.arms.length - y; omega, ⟨hst13, hlh13, hfr13.sub (.cons rfl <| .cons rfl <| .cons rfl <| .cons rfl <| .cons rfl <| .nil), ⟨by show y + 1 ≤ t.arms.length; omega, hla.1, by have := hla.2; show na ≤ n; omega⟩⟩⟩
      · try simp only [nq1, nq2, nq3, nq4, nq5, nq6, nq7, nq8, nq9, u8_eq] at hb45
        have hge : y = t.arms.length := by omega
        refine wp_exit ?_
        refine hK25 _ _ ?_; clear hK25
        refine seq_any fun _ hK41 => ?_
        refine ra0 (tch := [(2, 0, (fun _ => .blk _ _))]) hst9 hfr9 (.cons rfl (ob_buildS (.nil) Try.underlying33 Try.zeroValue33 (.cons Try.sizeOf3 <| .cons Try.sizeOf3 <| .cons Try.sizeOf9 <| .cons Try.sizeOf9 <| .cons Try.sizeOf3 <| .cons Try.sizeOf24 <| .cons Try.sizeOf25 <| .cons Try.sizeOf31 <| .cons Try.sizeOf29 <| .cons Try.sizeOf31 <| .nil) rfl) <| .cons rfl (ob_move rfl) <| .consT rfl rfl (fun _ => rfl) rfl (ob_store' rfl rfl rfl Try.sizeOf33 rfl rfl rfl) <| .cons rfl (ob_assign rfl) <| .cons rfl (ob_assign rfl) <| .nil) ?_
        intro a10 w10 m10 hst10 hle10 hk10
        have hfr10 := hk10.fr (T' := [(1, _), (11, _), (7, _), (4, _), (5, _), (6, _)]) (.old rfl rfl <| .old rfl rfl <| .old rfl rfl <| .old rfl rfl <| .new rfl <| .new rfl <| .nil)
        replace hst10 := hst10.fin (L' := [_]) (.cons rfl <| .nil)
        try simp only [List.take_succ_cons, List.take_zero, List.drop_succ_cons, List.drop_zero, List.cons_append, List.nil_append, List.append_nil, List.length_cons, List.length_nil, Nat.zero_add, Nat.reduceAdd] at hst10
        have hlh10 := hlh9.trans hle10
        clear hst9 hfr9 hk10
        refine hK41 _ _ ?_; clear hK41
        refine wp_ret ?_
        repeat (with_reducible first | refine then_ret ?_ | refine block_ret ?_)
        exact fn_ret hst10 hfr10 rfl (.cell rfl (load_blk (blk_heap (hst10.loc.at_ (k := 0) rfl)) Try.isAgg33 Try.sizeOf33) <| .tmp rfl <| .tmp rfl <| .nil) (⟨((zeroT, TmY.zero none 0 none 0), u, false), rfl, zeroT_R, ⟨hv0, hvn⟩, .inr rfl⟩)
theorem at_c (t : Tm) : at_G t := Tm.rec_ (p := at_G) (fun t ihk iha => at_s ihk iha) t

end Go.Proofs.Ytppmbhjacjmfkaa
