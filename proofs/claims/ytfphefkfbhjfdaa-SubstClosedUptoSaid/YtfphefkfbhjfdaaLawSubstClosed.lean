/-
  'brocadelaw05': the walk of the law. Conditions: those of each theorem.
-/
import Derived.Test.YtfphefkfbhjfdaaClosed5
namespace Go.Proofs.Ytfphefkfbhjfdaa
set_option linter.all false
set_option maxRecDepth 4000
open Go.RowKit
set_option maxHeartbeats 3200000 in
theorem substClosed_c {w : World} {m : Mem} {o_l : Option Addr} {c_l : Nat} {l : List Say} {t : Ty} {vs_t : List Value} {u : Ty} {vs_u : List Value} (hA : Agree w m) (h_l : Says m o_l l.length c_l l) (h_t : TyR m t vs_t) (h_u : TyR m u vs_u) (hw : ∀ x ∈ l, wdT x.ty ≤ 300000000 ∧ x.row.labels.length ≤ 300000000 ∧ cntT x.ty ≤ 300000000) (hwt : wdT t ≤ 300000000) (hct : cntT t ≤ 300000000) (hwu : wdT u ≤ 300000000) (hcu : cntT u ≤ 300000000) : FnV Try.prog 4 #[.slice o_l l.length c_l, .agg vs_t.toArray, .agg vs_u.toArray] w m (fun _ _ v => v = .bool true) := by
  have hb_l := h_l.big; have hc_l := h_l.cap
  obtain ⟨o_t, c_t, oL_t, cL_t, rfl, hk_t, hs_t, hi_t, hj_t, hr_t⟩ := h_t.open_
  have hbg_t := hk_t.big; have hcp_t := hk_t.cap; have hbs_t := hs_t.big; have hcs_t := hs_t.cap
  have hrw_t : RwR _ ⟨t.labels, t.rv⟩ _ := ⟨_, _, rfl, hs_t, hr_t⟩
  obtain ⟨o_u, c_u, oL_u, cL_u, rfl, hk_u, hs_u, hi_u, hj_u, hr_u⟩ := h_u.open_
  have hbg_u := hk_u.big; have hcp_u := hk_u.cap; have hbs_u := hs_u.big; have hcs_u := hs_u.cap
  have hrw_u : RwR _ ⟨u.labels, u.rv⟩ _ := ⟨_, _, rfl, hs_u, hr_u⟩
  refine fn_enter (vs := [_, _, _]) Try.func4 rfl rfl rfl fun a0 hfr0 => ?_
  have hst0 := st_enter hA (loc_nil [] _ w m)
  have hM : MLe m m := MLe.refl m
  have hwS := saidS_w (B := 1073741824) (l := l) (by omega) (fun x hx => by have := hw x hx; omega)
  have hw4 := saidS_w (B := 400000000) (l := l) (by omega) (fun x hx => by have := hw x hx; omega)
  have hwU := hw4.setT 9 (t := u) (by omega)
  refine seq_any fun _ hK1 => ?_
  refine rp0 hst0 hfr0 (.cons rfl (ob_box rfl rfl) <| .cons rfl (ob_box rfl rfl) <| .cons rfl (ob_assign rfl) <| .nil) ?_
  intro a1 w1 m1 hst1 hle1 hk1
  have hfr1 := hk1.fr (T' := [(0, _)]) (.old rfl rfl <| .nil)
  obtain ⟨g2, e2, hc4⟩ := hk1.ex 4 rfl
  replace hfr1 := hfr1.cons e2
  obtain ⟨g3, e3, hc5⟩ := hk1.ex 5 rfl
  replace hfr1 := hfr1.cons e3
  replace h_l := h_l.mono hle1
  replace h_t := h_t.mono hle1
  replace h_u := h_u.mono hle1
  clear hst0 hfr0 hk1
  refine hK1 _ _ ?_; clear hK1
  refine seq_any fun _ hK4 => ?_
  refine rp0 hst1 hfr1 (.cons rfl (ob_callE rfl (.nil) Try.call7 (fun w m hK => by have hle_ := KC.le hK; have hA := KC.agree hK; exact shown_c hA)) <| .cons rfl (ob_assign rfl) <| .nil) ?_
  intro a2 w2 m2 hst2 hle2 hk2
  have hfr2 := hk2.fr (T' := [(0, _), (4, _), (5, _), (7, _)]) (.old rfl rfl <| .old rfl rfl <| .old rfl rfl <| .new rfl <| .nil)
  replace h_l := h_l.mono hle2
  replace h_t := h_t.mono hle2
  replace h_u := h_u.mono hle2
  replace hc4 := hc4.mono hle2
  replace hc5 := hc5.mono hle2
  clear hst1 hfr1 hk2
  refine hK4 _ _ ?_; clear hK4
  refine seq_any fun _ hK5 => ?_
  refine seq_any fun _ hK6 => ?_
  refine rp0 hst2 hfr2 (.cons rfl (ob_loadS' rfl hc4 Try.isAgg28 Try.sizeOf28 rfl rfl) <| .cons rfl (ob_callE rfl (.cons rfl <| .nil) Try.call8 (fun w m hK => by have hle_ := KC.le hK; have hA := KC.agree hK; have h_t := h_t.mono hle_; exact count_c t hA h_t (by omega))) <| .cons rfl (ob_gtr rfl rfl) <| .cons rfl (ob_move rfl) <| .cons rfl (ob_loadS' rfl hc5 Try.isAgg28 Try.sizeOf28 rfl rfl) <| .cons rfl (ob_callE rfl (.cons rfl <| .nil) Try.call8 (fun w m hK => by have hle_ := KC.le hK; have hA := KC.agree hK; have h_u := h_u.mono hle_; exact count_c u hA h_u (by omega))) <| .cons rfl (ob_gtr rfl rfl) <| .cons rfl (ob_or rfl rfl rfl) <| .cons rfl (ob_move rfl) <| .cons rfl (ob_loadS' rfl hc4 Try.isAgg28 Try.sizeOf28 rfl rfl) <| .cons rfl (ob_callE rfl (.cons rfl <| .nil) Try.call16 (fun w m hK => by have hle_ := KC.le hK; have hA := KC.agree hK; have h_t := h_t.mono hle_; exact right0R_c (t := t) hA h_t)) <| .cons rfl (ob_not rfl) <| .cons rfl (ob_or rfl rfl rfl) <| .nil) ?_
  intro a3 w3 m3 hst3 hle3 hk3
  have hfr3 := hk3.fr (T' := [(0, _), (4, _), (5, _), (7, _), (33, _)]) (.old rfl rfl <| .old rfl rfl <| .old rfl rfl <| .old rfl rfl <| .new rfl <| .nil)
  replace h_l := h_l.mono hle3
  replace h_t := h_t.mono hle3
  replace h_u := h_u.mono hle3
  replace hc4 := hc4.mono hle3
  replace hc5 := hc5.mono hle3
  clear hst2 hfr2 hk3
  refine hK6 _ _ ?_; clear hK6
  refine cond_any hfr3 rfl rfl (fun hb33 => ?_) (fun hb33 => ?_)
  · try simp only [nq1, nq2, nq3, nq4, nq5, nq6, nq7, nq8, nq9, u8_eq] at hb33
    refine seq_any fun _ hK7 => ?_
    refine rp0 hst3 hfr3 (.cons rfl (ob_move rfl) <| .cons rfl (ob_assign rfl) <| .nil) ?_
    intro a4 w4 m4 hst4 hle4 hk4
    have hfr4 := hk4.fr (T' := [(6, _)]) (.new rfl <| .nil)
    clear hst3 hfr3 hk4
    refine hK7 _ _ ?_; clear hK7
    refine wp_ret ?_
    repeat (with_reducible first | refine then_ret ?_ | refine block_ret ?_)
    exact fn_ret hst4 hfr4 rfl (.tmp rfl <| .nil) (rfl)
  · try simp only [nq1, nq2, nq3, nq4, nq5, nq6, nq7, nq8, nq9, u8_eq] at hb33
    have hrr : rightT t = true := by simp_all
    refine wp_skip ?_
    refine hK5 _ _ ?_; clear hK5
    refine seq_any fun _ hK9 => ?_
    replace hst3 := hst3.more (r := .free) trivial List.nodup_nil (by simp [Res.blocks])
    replace hst3 := hst3.more (r := .free) trivial List.nodup_nil (by simp [Res.blocks])
    refine ra0 (tch := [(5, 0, (fun v => .blk v _)), (6, 1, (fun v => .blk v _)), (7, 0, (fun v => .blkx v _ _)), (8, 1, (fun v => .blkx v _ _))]) hst3 hfr3 (.cons rfl (ob_move rfl) <| .cons rfl (ob_call (φ := MP.said (saidS l) (saidR l)) rfl (.cons rfl <| .nil) Try.call9 (fun w m hK => by have hle_ := KC.le hK; have hA := KC.agree hK; have h_l := h_l.mono hle_; exact FnG.mono (said_c hA h_l hw) fun _ _ _ _ h => h)) <| .cons rfl (ob_imgV 37 rfl rfl rfl fun y37 => ob_move rfl) <| .cons rfl (ob_imgV 35 rfl rfl rfl fun y35 => ob_extract rfl rfl) <| .cons rfl (ob_imgV 35 rfl rfl rfl fun y35 => ob_extract rfl rfl) <| .consT rfl rfl (fun _ => rfl) rfl (ob_allocL Try.zeroValue36 rfl) <| .consT rfl rfl (fun _ => rfl) rfl (ob_allocL Try.zeroValue40 rfl) <| .consT rfl rfl (fun _ => rfl) rfl (ob_imgT 8 rfl rfl rfl fun y8 => ob_imgTX 38 rfl rfl rfl fun y38 => ob_storeF rfl rfl rfl rfl rfl Try.sizeOf36 rfl rfl rfl) <| .consT rfl rfl (fun _ => rfl) rfl (ob_imgT 9 rfl rfl rfl fun y9 => ob_imgTX 39 rfl rfl rfl fun y39 => ob_storeF rfl rfl rfl rfl rfl Try.sizeOf40 rfl rfl rfl) <| .nil) ?_
    intro a4 w4 m4 hst4 hle4 hk4
    have hfr4 := hk4.fr (T' := [(4, _), (5, _), (7, _)]) (.old rfl rfl <| .old rfl rfl <| .old rfl rfl <| .nil)
    obtain ⟨g10, e10, _⟩ := hk4.ex 8 rfl
    replace hfr4 := hfr4.cons e10
    obtain ⟨g11, e11, _⟩ := hk4.ex 9 rfl
    replace hst4 := hst4.fin (L' := [_, _]) (.cons e10 <| .cons e11 <| .cons e10 <| .cons e11 <| .nil)
    try simp only [List.take_succ_cons, List.take_zero, List.drop_succ_cons, List.drop_zero, List.cons_append, List.nil_append, List.append_nil, List.length_cons, List.length_nil, Nat.zero_add, Nat.reduceAdd] at hst4
    obtain ⟨⟨⟨q1, q2⟩, z9⟩, ⟨hS, _⟩, hst4⟩ := hst4.unx (k := 0) rfl (fun _ => rfl)
    obtain ⟨⟨q9, z1⟩, ⟨_, hR⟩, hst4⟩ := hst4.unx (k := 1) rfl (fun _ => rfl)
    replace h_t := h_t.mono hle4
    replace h_u := h_u.mono hle4
    replace hc4 := hc4.mono hle4
    replace hc5 := hc5.mono hle4
    clear hst3 hfr3 hk4
    refine hK9 _ _ ?_; clear hK9
    refine seq_any fun _ hK14 => ?_
    refine ra0 (tch := []) hst4 hfr4 (.cons rfl (ob_loadS' rfl hc4 Try.isAgg28 Try.sizeOf28 rfl rfl) <| .cons rfl (ob_call (φ := MP.two (walkT t ([], [])).1 (walkT t ([], [])).2) rfl (.cons rfl <| .nil) Try.call17 (fun w m hK => by have hle_ := KC.le hK; have hA := KC.agree hK; have h_t := h_t.mono hle_; exact FnG.mono (vars0R_c (t := t) hA h_t (by omega)) fun _ _ _ _ h => h)) <| .cons rfl (ob_imgV 42 rfl rfl rfl fun y42 => ob_move rfl) <| .cons rfl (ob_imgV 40 rfl rfl rfl fun y40 => ob_extract rfl rfl) <| .cons rfl (ob_imgV 40 rfl rfl rfl fun y40 => ob_extract rfl rfl) <| .consA 43 rfl rfl <| .consA 44 rfl rfl <| .nil) ?_
    intro a5 w5 m5 hst5 hle5 hk5
    have hfr5 := hk5.fr (T' := [(4, _), (5, _), (7, _), (8, _)]) (.old rfl rfl <| .old rfl rfl <| .old rfl rfl <| .old rfl rfl <| .nil)
    obtain ⟨⟨⟨o1, c1⟩, q8⟩, e15, hI1, _⟩ := hk5.ex 43 rfl
    obtain ⟨⟨q7, o2, c2⟩, e16, _, hI2⟩ := hk5.ex 44 rfl
    replace hfr5 := hfr5.cons (hk5.same 10 rfl e15)
    replace hfr5 := hfr5.cons (hk5.same 11 rfl e16)
    replace h_t := h_t.mono hle5
    replace h_u := h_u.mono hle5
    replace hc4 := hc4.mono hle5
    replace hc5 := hc5.mono hle5
    replace hS := hS.mono hle5
    clear hst4 hfr4 hk5
    have hwr := walk_room t ([], [])
    simp only [room, List.length_nil] at hwr
    refine hK14 _ _ ?_; clear hK14
    refine seq_any fun _ hK17 => ?_
    refine seq_any fun _ hK18 => ?_
    refine rp0 hst5 hfr5 (.cons rfl (ob_assign rfl) <| .nil) ?_
    intro a6 w6 m6 hst6 hle6 hk6
    have hfr6 := hk6.fr (T' := [(4, _), (5, _), (7, _), (8, _), (10, _), (11, _), (12, _)]) (.old rfl rfl <| .old rfl rfl <| .old rfl rfl <| .old rfl rfl <| .old rfl rfl <| .old rfl rfl <| .new rfl <| .nil)
    replace h_t := h_t.mono hle6
    replace h_u := h_u.mono hle6
    replace hc4 := hc4.mono hle6
    replace hc5 := hc5.mono hle6
    replace hS := hS.mono hle6
    replace hI1 := hI1.mono hle6
    replace hI2 := hI2.mono hle6
    clear hst5 hfr5 hk6
    refine hK18 _ _ ?_; clear hK18
    refine wp_block ?_
    refine loop_any (T := [(4, _), (5, _), (7, _), (8, _), (10, _), (11, _)]) (fun (y : Nat) => ([(12, .int .i64 (y : Int))] : List (Nat × Value))) (fun _ => _) (fun (y : Nat) m => (y ≤ (walkT t ([], [])).1.length) ∧ (∀ v ∈ ((walkT t ([], [])).1).take y, alook v (saidS l).ts = none)) (fun y => (walkT t ([], [])).1.length - y) (0) ⟨hst6, MLe.refl _, hfr6.sub (.cons rfl <| .cons rfl <| .cons rfl <| .cons rfl <| .cons rfl <| .cons rfl <| .cons rfl <| .nil), ⟨Nat.zero_le _, by simp⟩⟩ fun y a7 w7 m7 hh7 => ?_
    have hst7 := hh7.st; have hle7 := hh7.le; have hfr7 := hh7.fr; have hrel := hh7.rel; clear hh7
    replace h_t := h_t.mono hle7
    replace h_u := h_u.mono hle7
    replace hc4 := hc4.mono hle7
    replace hc5 := hc5.mono hle7
    replace hS := hS.mono hle7
    replace hI1 := hI1.mono hle7
    replace hI2 := hI2.mono hle7
    clear hst6 hfr6
    obtain ⟨hyn, hJ0⟩ := hrel
    have hlh7 := hle7
    refine seq_any fun _ hK20 => ?_
    refine seq_any fun _ hK21 => ?_
    refine rp0 hst7 hfr7 (.cons rfl (ob_move rfl) <| .cons rfl (ob_move rfl) <| .cons rfl (ob_len rfl Try.underlying37) <| .cons rfl (ob_lss rfl rfl) <| .nil) ?_
    intro a8 w8 m8 hst8 hle8 hk8
    have hfr8 := hk8.fr (T' := [(12, _), (4, _), (5, _), (7, _), (8, _), (10, _), (11, _), (48, _)]) (.old rfl rfl <| .old rfl rfl <| .old rfl rfl <| .old rfl rfl <| .old rfl rfl <| .old rfl rfl <| .old rfl rfl <| .new rfl <| .nil)
    replace h_t := h_t.mono hle8
    replace h_u := h_u.mono hle8
    replace hc4 := hc4.mono hle8
    replace hc5 := hc5.mono hle8
    replace hS := hS.mono hle8
    replace hI1 := hI1.mono hle8
    replace hI2 := hI2.mono hle8
    have hlh8 := hlh7.trans hle8
    clear hst7 hfr7 hk8
    refine hK21 _ _ ?_; clear hK21
    refine cond_any hfr8 rfl rfl (fun hb48 => ?_) (fun hb48 => ?_)
    · try simp only [nq1, nq2, nq3, nq4, nq5, nq6, nq7, nq8, nq9, u8_eq] at hb48
      refine wp_skip ?_
      refine hK20 _ _ ?_; clear hK20
      refine seq_any fun _ hK22 => ?_
      refine wp_block ?_
      refine seq_any fun _ hK23 => ?_
      obtain ⟨p24, vs24, x24, ho24, hd24, hm_x24, ht24, hcv24, hl24, hv24⟩ := hI1.nth (k := y) (by omega)
      cases ho24
      subst hv24
      replace hst8 := hst8.more (r := .free) trivial List.nodup_nil (by simp [Res.blocks])
      refine region_any (tch := [(9, 2, (fun v => .blk v _)), (10, 2, (fun v => .blkx v _ _))]) (fun _ => mixed) hst8 hfr8 (by kernel_rfl) (by kernel_rfl) (by kernel_rfl) (.cons rfl (ob_loadLA (j := 0) rfl rfl Try.isAgg36 Try.sizeOf36 rfl) <| .cons rfl (ob_move rfl) <| .cons rfl (ob_move rfl) <| .cons rfl (ob_indexAddr (k := y) rfl rfl Try.underlying37 Try.sizeOf3 rfl (by omega)) <| .cons rfl (ob_load1' rfl hcv24 Try.isAgg3 rfl) <| .cons rfl (ob_call (φ := MP.tyb ((alook x24 (saidS l).ts).getD zeroTy) (alook x24 (saidS l).ts).isSome) rfl (.cons rfl <| .cons rfl <| .nil) Try.call12 (fun w m hK => by have hle_ := KC.le hK; have hA := KC.agree hK; have hS := hS.mono hle_; exact FnG.mono (type_x (s := saidS l) (q := (q1, q2)) (n := x24) hA hS rfl rfl hwS) fun _ _ _ _ h => h)) <| .cons rfl (ob_imgV 57 rfl rfl rfl fun y57 => ob_move rfl) <| .cons rfl (ob_imgV 51 rfl rfl rfl fun y51 => ob_extract rfl rfl) <| .cons rfl (ob_imgE 51 rfl rfl rfl fun y51 => ob_extract rfl rfl) <| .consT rfl rfl (fun _ => rfl) rfl (ob_allocL Try.zeroValue28 rfl) <| .consT rfl rfl (fun _ => rfl) rfl (ob_imgT 13 rfl rfl rfl fun y13 => ob_imgTX 58 rfl rfl rfl fun y58 => ob_storeF rfl rfl rfl rfl rfl Try.sizeOf28 rfl rfl rfl) <| .cons rfl (ob_assign rfl) <| .nil) ?_
      intro a9 w9 m9 hst9 hle9 hk9
      have hfr9 := hk9.fr (T' := [(12, _), (4, _), (5, _), (7, _), (8, _), (10, _), (11, _), (14, _)]) (.old rfl rfl <| .old rfl rfl <| .old rfl rfl <| .old rfl rfl <| .old rfl rfl <| .old rfl rfl <| .old rfl rfl <| .new rfl <| .nil)
      obtain ⟨g25, e25, _⟩ := hk9.ex 13 rfl
      replace hst9 := hst9.fin (L' := [_, _, _]) (.cons e25 <| .cons e25 <| .nil)
      try simp only [List.take_succ_cons, List.take_zero, List.drop_succ_cons, List.drop_zero, List.cons_append, List.nil_append, List.append_nil, List.length_cons, List.length_nil, Nat.zero_add, Nat.reduceAdd] at hst9
      obtain ⟨⟨⟨oa2, ca2⟩, ol2, cl2⟩, hT2, hst9⟩ := hst9.unx (k := 2) rfl (fun _ => rfl)
      have hlh9 := hlh8.trans hle9
      clear hst8 hfr8 hk9
      refine hK23 _ _ ?_; clear hK23
      refine seq_any fun _ hK27 => ?_
      refine rp0 hst9 hfr9 (.cons rfl (ob_move rfl) <| .nil) ?_
      intro a10 w10 m10 hst10 hle10 hk10
      have hfr10 := hk10.fr (T' := [(12, _), (4, _), (5, _), (7, _), (8, _), (10, _), (11, _), (60, _)]) (.old rfl rfl <| .old rfl rfl <| .old rfl rfl <| .old rfl rfl <| .old rfl rfl <| .old rfl rfl <| .old rfl rfl <| .new rfl <| .nil)
      have hlh10 := hlh9.trans hle10
      clear hst9 hfr9 hk10
      refine hK27 _ _ ?_; clear hK27
      refine cond_any hfr10 rfl rfl (fun hb60 => ?_) (fun hb60 => ?_)
      · try simp only [nq1, nq2, nq3, nq4, nq5, nq6, nq7, nq8, nq9, u8_eq] at hb60
        refine seq_any fun _ hK28 => ?_
        refine rp0 hst10 hfr10 (.cons rfl (ob_move rfl) <| .cons rfl (ob_assign rfl) <| .nil) ?_
        intro a11 w11 m11 hst11 hle11 hk11
        have hfr11 := hk11.fr (T' := [(12, _), (6, _)]) (.old rfl rfl <| .new rfl <| .nil)
        have hlh11 := hlh10.trans hle11
        clear hst10 hfr10 hk11
        refine hK28 _ _ ?_; clear hK28
        refine wp_ret ?_
        repeat (with_reducible first | refine then_ret ?_ | refine block_ret ?_)
        exact fn_ret hst11 hfr11 rfl (.tmp rfl <| .nil) (rfl)
      · try simp only [nq1, nq2, nq3, nq4, nq5, nq6, nq7, nq8, nq9, u8_eq] at hb60
        have hno9 : alook x24 (saidS l).ts = none := by simpa using hb60
        refine wp_skip ?_
        refine hK22 _ _ ?_; clear hK22
        refine rp0 hst10 hfr10 (.cons rfl (ob_move rfl) <| .cons rfl (ob_add rfl rfl ⟨by omega, by omega⟩) <| .cons rfl (ob_assign rfl) <| .nil) ?_
        intro a11 w11 m11 hst11 hle11 hk11
        have hfr11 := hk11.fr (T' := [(4, _), (5, _), (7, _), (8, _), (10, _), (11, _), (12, _)]) (.old rfl rfl <| .old rfl rfl <| .old rfl rfl <| .old rfl rfl <| .old rfl rfl <| .old rfl rfl <| .new rfl <| .nil)
        have hlh11 := hlh10.trans hle11
        clear hst10 hfr10 hk11
        have hst11 := hst11.take 2
        exact ⟨y + 1, m11, by show (walkT t ([], [])).1.length - (y + 1) < (walkT t ([], [])).1.length - y; omega, ⟨hst11, hlh11, hfr11.sub (.cons rfl <| .cons rfl <| .cons rfl <| .cons rfl <| .cons rfl <| .cons rfl <| .cons rfl <| .nil), ⟨by show y + 1 ≤ (walkT t ([], [])).1.length; omega, by rw [ht24]; intro v hv; rcases List.mem_append.1 hv with hv | hv; (exact hJ0 v hv); (rw [List.mem_singleton] at hv; subst hv; exact hno9)⟩⟩⟩
    · try simp only [nq1, nq2, nq3, nq4, nq5, nq6, nq7, nq8, nq9, u8_eq] at hb48
      have hge : y = (walkT t ([], [])).1.length := by omega
      rw [List.take_of_length_le (by omega)] at hJ0
      have hcl_ts := hJ0
      refine wp_exit ?_
      refine hK17 _ _ ?_; clear hK17
      refine seq_any fun _ hK30 => ?_
      refine seq_any fun _ hK31 => ?_
      refine rp0 hst8 hfr8 (.cons rfl (ob_assign rfl) <| .nil) ?_
      intro a9 w9 m9 hst9 hle9 hk9
      have hfr9 := hk9.fr (T' := [(12, _), (4, _), (5, _), (7, _), (8, _), (11, _), (15, _)]) (.old rfl rfl <| .old rfl rfl <| .old rfl rfl <| .old rfl rfl <| .old rfl rfl <| .old rfl rfl <| .new rfl <| .nil)
      replace h_t := h_t.mono hle9
      replace h_u := h_u.mono hle9
      replace hc4 := hc4.mono hle9
      replace hc5 := hc5.mono hle9
      replace hS := hS.mono hle9
      replace hI2 := hI2.mono hle9
      have hlh9 := hlh8.trans hle9
      clear hst8 hfr8 hk9
      refine hK31 _ _ ?_; clear hK31
      refine wp_block ?_
      have hlq32 := hlh9
      refine loop_any (T := [(12, _), (4, _), (5, _), (7, _), (8, _), (11, _)]) (fun (y : Nat) => ([(15, .int .i64 (y : Int))] : List (Nat × Value))) (fun _ => _) (fun (y : Nat) m => (y ≤ (walkT t ([], [])).2.length) ∧ (∀ v ∈ ((walkT t ([], [])).2).take y, alook v (saidS l).rs = none)) (fun y => (walkT t ([], [])).2.length - y) (0) ⟨hst9, MLe.refl _, hfr9.sub (.cons rfl <| .cons rfl <| .cons rfl <| .cons rfl <| .cons rfl <| .cons rfl <| .cons rfl <| .nil), ⟨Nat.zero_le _, by simp⟩⟩ fun y a10 w10 m10 hh10 => ?_
      have hst10 := hh10.st; have hle10 := hh10.le; have hfr10 := hh10.fr; have hrel := hh10.rel; clear hh10
      replace h_t := h_t.mono hle10
      replace h_u := h_u.mono hle10
      replace hc4 := hc4.mono hle10
      replace hc5 := hc5.mono hle10
      replace hS := hS.mono hle10
      replace hI2 := hI2.mono hle10
      clear hst9 hfr9
      obtain ⟨hyn, hJ0⟩ := hrel
      have hlh10 := hle10
      refine seq_any fun _ hK33 => ?_
      refine seq_any fun _ hK34 => ?_
      refine rp0 hst10 hfr10 (.cons rfl (ob_move rfl) <| .cons rfl (ob_move rfl) <| .cons rfl (ob_len rfl Try.underlying37) <| .cons rfl (ob_lss rfl rfl) <| .nil) ?_
      intro a11 w11 m11 hst11 hle11 hk11
      have hfr11 := hk11.fr (T' := [(15, _), (12, _), (4, _), (5, _), (7, _), (8, _), (11, _), (65, _)]) (.old rfl rfl <| .old rfl rfl <| .old rfl rfl <| .old rfl rfl <| .old rfl rfl <| .old rfl rfl <| .old rfl rfl <| .new rfl <| .nil)
      replace h_t := h_t.mono hle11
      replace h_u := h_u.mono hle11
      replace hc4 := hc4.mono hle11
      replace hc5 := hc5.mono hle11
      replace hS := hS.mono hle11
      replace hI2 := hI2.mono hle11
      have hlh11 := hlh10.trans hle11
      clear hst10 hfr10 hk11
      refine hK34 _ _ ?_; clear hK34
      refine cond_any hfr11 rfl rfl (fun hb65 => ?_) (fun hb65 => ?_)
      · try simp only [nq1, nq2, nq3, nq4, nq5, nq6, nq7, nq8, nq9, u8_eq] at hb65
        refine wp_skip ?_
        refine hK33 _ _ ?_; clear hK33
        refine seq_any fun _ hK35 => ?_
        refine wp_block ?_
        refine seq_any fun _ hK36 => ?_
        obtain ⟨p37, vs37, x37, ho37, hd37, hm_x37, ht37, hcv37, hl37, hv37⟩ := hI2.nth (k := y) (by omega)
        cases ho37
        subst hv37
        replace hst11 := hst11.more (r := .free) trivial List.nodup_nil (by simp [Res.blocks])
        refine region_any (tch := [(9, 2, (fun v => .blk v _)), (10, 2, (fun v => .blkx v _ _))]) (fun _ => mixed) hst11 hfr11 (by kernel_rfl) (by kernel_rfl) (by kernel_rfl) (.cons rfl (ob_loadLA (j := 0) rfl rfl Try.isAgg36 Try.sizeOf36 rfl) <| .cons rfl (ob_move rfl) <| .cons rfl (ob_move rfl) <| .cons rfl (ob_indexAddr (k := y) rfl rfl Try.underlying37 Try.sizeOf3 rfl (by omega)) <| .cons rfl (ob_load1' rfl hcv37 Try.isAgg3 rfl) <| .cons rfl (ob_call (φ := MP.rwb ((alook x37 (saidS l).rs).getD zeroRw) (alook x37 (saidS l).rs).isSome) rfl (.cons rfl <| .cons rfl <| .nil) Try.call13 (fun w m hK => by have hle_ := KC.le hK; have hA := KC.agree hK; have hS := hS.mono hle_; exact FnG.mono (row_x (s := saidS l) (q := (q1, q2)) (n := x37) hA hS rfl rfl hwS) fun _ _ _ _ h => h)) <| .cons rfl (ob_imgV 74 rfl rfl rfl fun y74 => ob_move rfl) <| .cons rfl (ob_imgV 68 rfl rfl rfl fun y68 => ob_extract rfl rfl) <| .cons rfl (ob_imgE 68 rfl rfl rfl fun y68 => ob_extract rfl rfl) <| .consT rfl rfl (fun _ => rfl) rfl (ob_allocL Try.zeroValue26 rfl) <| .consT rfl rfl (fun _ => rfl) rfl (ob_imgT 16 rfl rfl rfl fun y16 => ob_imgTX 75 rfl rfl rfl fun y75 => ob_storeF rfl rfl rfl rfl rfl Try.sizeOf26 rfl rfl rfl) <| .cons rfl (ob_assign rfl) <| .nil) ?_
        intro a12 w12 m12 hst12 hle12 hk12
        have hfr12 := hk12.fr (T' := [(15, _), (12, _), (4, _), (5, _), (7, _), (8, _), (11, _), (17, _)]) (.old rfl rfl <| .old rfl rfl <| .old rfl rfl <| .old rfl rfl <| .old rfl rfl <| .old rfl rfl <| .old rfl rfl <| .new rfl <| .nil)
        obtain ⟨g38, e38, _⟩ := hk12.ex 16 rfl
        replace hst12 := hst12.fin (L' := [_, _, _]) (.cons e38 <| .cons e38 <| .nil)
        try simp only [List.take_succ_cons, List.take_zero, List.drop_succ_cons, List.drop_zero, List.cons_append, List.nil_append, List.append_nil, List.length_cons, List.length_nil, Nat.zero_add, Nat.reduceAdd] at hst12
        obtain ⟨⟨or2, cr2⟩, hQ2, hst12⟩ := hst12.unx (k := 2) rfl (fun _ => rfl)
        have hlh12 := hlh11.trans hle12
        clear hst11 hfr11 hk12
        refine hK36 _ _ ?_; clear hK36
        refine seq_any fun _ hK40 => ?_
        refine rp0 hst12 hfr12 (.cons rfl (ob_move rfl) <| .nil) ?_
        intro a13 w13 m13 hst13 hle13 hk13
        have hfr13 := hk13.fr (T' := [(15, _), (12, _), (4, _), (5, _), (7, _), (8, _), (11, _), (77, _)]) (.old rfl rfl <| .old rfl rfl <| .old rfl rfl <| .old rfl rfl <| .old rfl rfl <| .old rfl rfl <| .old rfl rfl <| .new rfl <| .nil)
        have hlh13 := hlh12.trans hle13
        clear hst12 hfr12 hk13
        refine hK40 _ _ ?_; clear hK40
        refine cond_any hfr13 rfl rfl (fun hb77 => ?_) (fun hb77 => ?_)
        · try simp only [nq1, nq2, nq3, nq4, nq5, nq6, nq7, nq8, nq9, u8_eq] at hb77
          refine seq_any fun _ hK41 => ?_
          refine rp0 hst13 hfr13 (.cons rfl (ob_move rfl) <| .cons rfl (ob_assign rfl) <| .nil) ?_
          intro a14 w14 m14 hst14 hle14 hk14
          have hfr14 := hk14.fr (T' := [(15, _), (12, _), (6, _)]) (.old rfl rfl <| .old rfl rfl <| .new rfl <| .nil)
          have hlh14 := hlh13.trans hle14
          clear hst13 hfr13 hk14
          refine hK41 _ _ ?_; clear hK41
          refine wp_ret ?_
          repeat (with_reducible first | refine then_ret ?_ | refine block_ret ?_)
          exact fn_ret hst14 hfr14 rfl (.tmp rfl <| .nil) (rfl)
        · try simp only [nq1, nq2, nq3, nq4, nq5, nq6, nq7, nq8, nq9, u8_eq] at hb77
          have hno9 : alook x37 (saidS l).rs = none := by simpa using hb77
          refine wp_skip ?_
          refine hK35 _ _ ?_; clear hK35
          refine rp0 hst13 hfr13 (.cons rfl (ob_move rfl) <| .cons rfl (ob_add rfl rfl ⟨by omega, by omega⟩) <| .cons rfl (ob_assign rfl) <| .nil) ?_
          intro a14 w14 m14 hst14 hle14 hk14
          have hfr14 := hk14.fr (T' := [(12, _), (4, _), (5, _), (7, _), (8, _), (11, _), (15, _)]) (.old rfl rfl <| .old rfl rfl <| .old rfl rfl <| .old rfl rfl <| .old rfl rfl <| .old rfl rfl <| .new rfl <| .nil)
          have hlh14 := hlh13.trans hle14
          clear hst13 hfr13 hk14
          have hst14 := hst14.take 2
          exact ⟨y + 1, m14, by show (walkT t ([], [])).2.length - (y + 1) < (walkT t ([], [])).2.length - y; omega, ⟨hst14, hlh14, hfr14.sub (.cons rfl <| .cons rfl <| .cons rfl <| .cons rfl <| .cons rfl <| .cons rfl <| .cons rfl <| .nil), ⟨by show y + 1 ≤ (walkT t ([], [])).2.length; omega, by rw [ht37]; intro v hv; rcases List.mem_append.1 hv with hv | hv; (exact hJ0 v hv); (rw [List.mem_singleton] at hv; subst hv; exact hno9)⟩⟩⟩
      · try simp only [nq1, nq2, nq3, nq4, nq5, nq6, nq7, nq8, nq9, u8_eq] at hb65
        have hge : y = (walkT t ([], [])).2.length := by omega
        rw [List.take_of_length_le (by omega)] at hJ0
        have hcl_rs := hJ0
        refine wp_exit ?_
        refine hK30 _ _ ?_; clear hK30
        refine seq_any fun _ hK43 => ?_
        replace hst11 := hst11.more (r := .free) trivial List.nodup_nil (by simp [Res.blocks])
        refine ra0 (tch := [(1, 2, (fun v => .blk v _)), (2, 2, (fun v => .blk v _))]) hst11 hfr11 (.cons rfl (ob_buildS (.cons rfl <| .cons rfl <| .nil) Try.underlying28 Try.zeroValue28 (.cons Try.sizeOf3 <| .cons Try.sizeOf9 <| .cons Try.sizeOf3 <| .cons Try.sizeOf23 <| .cons Try.sizeOf26 <| .nil) rfl) <| .consT rfl rfl (fun _ => rfl) rfl (ob_allocL Try.zeroValue28 rfl) <| .consT rfl rfl (fun _ => rfl) rfl (ob_imgT 18 rfl rfl rfl fun y18 => ob_storeF rfl rfl rfl rfl rfl Try.sizeOf28 rfl rfl rfl) <| .nil) ?_
        intro a12 w12 m12 hst12 hle12 hk12
        have hfr12 := hk12.fr (T' := [(15, _), (12, _), (4, _), (5, _), (7, _), (8, _)]) (.old rfl rfl <| .old rfl rfl <| .old rfl rfl <| .old rfl rfl <| .old rfl rfl <| .old rfl rfl <| .nil)
        obtain ⟨g44, e44, _⟩ := hk12.ex 18 rfl
        replace hfr12 := hfr12.cons e44
        replace hst12 := hst12.fin (L' := [_, _, _]) (.cons e44 <| .cons e44 <| .nil)
        try simp only [List.take_succ_cons, List.take_zero, List.drop_succ_cons, List.drop_zero, List.cons_append, List.nil_append, List.append_nil, List.length_cons, List.length_nil, Nat.zero_add, Nat.reduceAdd] at hst12
        replace h_t := h_t.mono hle12
        replace h_u := h_u.mono hle12
        replace hc4 := hc4.mono hle12
        replace hc5 := hc5.mono hle12
        replace hS := hS.mono hle12
        have hlh12 := hlh11.trans hle12
        clear hst11 hfr11 hk12
        refine hK43 _ _ ?_; clear hK43
        refine seq_any fun _ hK45 => ?_
        replace hst12 := hst12.more (r := .free) trivial List.nodup_nil (by simp [Res.blocks])
        refine region_any (tch := [(8, 3, (fun v => .blk v _)), (9, 3, (fun v => .blkx v _ _))]) (fun _ => mixed) hst12 hfr12 (by kernel_rfl) (by kernel_rfl) (by kernel_rfl) (.cons rfl (ob_loadLA (j := 0) rfl rfl Try.isAgg36 Try.sizeOf36 rfl) <| .cons rfl (ob_loadS' rfl hc5 Try.isAgg28 Try.sizeOf28 rfl rfl) <| .cons rfl (ob_call (φ := MP.sub ⟨aset 9 u (saidS l).ts, (saidS l).rs⟩) rfl (.cons rfl <| .cons rfl <| .cons rfl <| .nil) Try.call10 (fun w m hK => by have hle_ := KC.le hK; have hA := KC.agree hK; have h_u := h_u.mono hle_; have hS := hS.mono hle_; exact FnG.mono (setType_c (n := 9) (t := u) hA hS h_u (by omega)) fun _ _ _ _ h => h)) <| .cons rfl (ob_loadLA (j := 2) rfl rfl Try.isAgg28 Try.sizeOf28 rfl) <| .cons rfl (ob_loadLA (j := 2) rfl rfl Try.isAgg28 Try.sizeOf28 rfl) <| .cons rfl (ob_buildSlice (.cons rfl <| .cons rfl <| .nil) Try.underlying23 Try.sizeOf28 Try.zeroValue28 rfl rfl rfl rfl) <| .cons rfl (ob_imgV 85 rfl rfl rfl fun y85 => ob_buildS (.cons rfl <| .cons rfl <| .nil) Try.underlying28 Try.zeroValue28 (.cons Try.sizeOf3 <| .cons Try.sizeOf9 <| .cons Try.sizeOf3 <| .cons Try.sizeOf23 <| .cons Try.sizeOf26 <| .nil) rfl) <| .cons rfl (ob_imgE 82 rfl rfl rfl fun y82 => ob_imgE 86 rfl rfl rfl fun y86 => ob_call (φ := MP.ty (funTT u)) rfl (.cons rfl <| .cons rfl <| .nil) Try.call18 (fun w m hK => by have hle_ := KC.le hK; have hA := KC.agree hK; have hr0_ := hK.2; have hr1_ := hK.1.2; exact FnG.mono (closed_apply hA hr1_ hr0_ hwU) fun _ _ _ _ h => h)) <| .consT rfl rfl (fun _ => rfl) rfl (ob_allocL Try.zeroValue28 rfl) <| .consT rfl rfl (fun _ => rfl) rfl (ob_imgT 19 rfl rfl rfl fun y19 => ob_imgTX 87 rfl rfl rfl fun y87 => ob_storeF rfl rfl rfl rfl rfl Try.sizeOf28 rfl rfl rfl) <| .nil) ?_
        intro a13 w13 m13 hst13 hle13 hk13
        have hfr13 := hk13.fr (T' := [(15, _), (12, _), (4, _), (5, _), (7, _), (8, _)]) (.old rfl rfl <| .old rfl rfl <| .old rfl rfl <| .old rfl rfl <| .old rfl rfl <| .old rfl rfl <| .nil)
        obtain ⟨g46, e46, _⟩ := hk13.ex 19 rfl
        replace hfr13 := hfr13.cons e46
        replace hst13 := hst13.fin (L' := [_, _, _, _]) (.cons e46 <| .cons e46 <| .nil)
        try simp only [List.take_succ_cons, List.take_zero, List.drop_succ_cons, List.drop_zero, List.cons_append, List.nil_append, List.append_nil, List.length_cons, List.length_nil, Nat.zero_add, Nat.reduceAdd] at hst13
        obtain ⟨⟨⟨oa, ca⟩, ol, cl⟩, hcv, hst13⟩ := hst13.unx (k := 3) rfl (fun _ => rfl)
        replace h_t := h_t.mono hle13
        replace h_u := h_u.mono hle13
        replace hc4 := hc4.mono hle13
        replace hc5 := hc5.mono hle13
        replace hS := hS.mono hle13
        have hlh13 := hlh12.trans hle13
        clear hst12 hfr12 hk13
        have hcl := apply_closed (saidS l) t hrr hcl_ts hcl_rs
        have hkk : Tys _ oa [u, u].length ca [u, u] := (tyV_open hcv).1
        have hln1 : (funTT u).args.length = 2 := rfl
        refine hK45 _ _ ?_; clear hK45
        refine seq_any fun _ hK48 => ?_
        obtain ⟨p49, vs49, x49, ho49, hd49, hm_x49, ht49, hcv49, hl49, hv49⟩ := hkk.nth (k := 0) (by simp)
        cases ho49
        obtain ⟨o49, c49, oL49, cL49, rfl, hkd49, hs49, hi49, hj49, hr49⟩ := hv49.open_
        have hbg49 := hkd49.big; have hcp49 := hkd49.cap; have hbs49 := hs49.big; have hcs49 := hs49.cap
        have hrw49 : RwR _ ⟨x49.labels, x49.rv⟩ _ := ⟨_, _, rfl, hs49, hr49⟩
        obtain ⟨p50, vs50, x50, ho50, hd50, hm_x50, ht50, hcv50, hl50, hv50⟩ := hkk.nth (k := 1) (by simp)
        cases ho50
        obtain ⟨o50, c50, oL50, cL50, rfl, hkd50, hs50, hi50, hj50, hr50⟩ := hv50.open_
        have hbg50 := hkd50.big; have hcp50 := hkd50.cap; have hbs50 := hs50.big; have hcs50 := hs50.cap
        have hrw50 : RwR _ ⟨x50.labels, x50.rv⟩ _ := ⟨_, _, rfl, hs50, hr50⟩
        refine region_plain (fun _ => mixed) hst13 hfr13 (by kernel_rfl) (by kernel_rfl) (.cons rfl (ob_move rfl) <| .cons rfl (ob_move rfl) <| .cons rfl (ob_loadLA (j := 0) rfl rfl Try.isAgg36 Try.sizeOf36 rfl) <| .cons rfl (ob_loadS' rfl hc4 Try.isAgg28 Try.sizeOf28 rfl rfl) <| .cons rfl (ob_call (φ := MP.ty t) rfl (.cons rfl <| .cons rfl <| .nil) Try.call18 (fun w m hK => by have hle_ := KC.le hK; have hA := KC.agree hK; have h_t := h_t.mono hle_; have hS := hS.mono hle_; exact FnG.mono ((by have h := apply_c t hA hS h_t hw4 (by omega); rw [hcl] at h; exact h)) fun _ _ _ _ h => h)) <| .cons rfl (ob_loadS' rfl hc4 Try.isAgg28 Try.sizeOf28 rfl rfl) <| .cons rfl (ob_imgE 92 rfl rfl rfl fun y92 => ob_callE rfl (.cons rfl <| .cons rfl <| .nil) Try.call14 (fun w m hK => by have hle_ := KC.le hK; have hA := KC.agree hK; have hr0_ := hK.2; have h_t := h_t.mono hle_; exact sameR_c t (u := t) hA hr0_ h_t)) <| .cons rfl (ob_and rfl rfl rfl) <| .cons rfl (ob_move rfl) <| .cons rfl (ob_fieldAddrO (off := 3) rfl Try.underlying28 rfl rfl Try.sizeOf23 rfl) <| .cons rfl (ob_loadL (j := 3) rfl rfl Try.isAgg23 rfl) <| .cons rfl (ob_len rfl Try.underlying23) <| .cons rfl (ob_eql rfl rfl) <| .cons rfl (ob_and rfl rfl rfl) <| .cons rfl (ob_move rfl) <| .cons rfl (ob_fieldAddrO (off := 3) rfl Try.underlying28 rfl rfl Try.sizeOf23 rfl) <| .cons rfl (ob_loadL (j := 3) rfl rfl Try.isAgg23 rfl) <| .cons rfl (ob_indexAddr (k := 0) rfl rfl Try.underlying23 Try.sizeOf28 (by omega) (by omega)) <| .cons rfl (ob_loadS' rfl hcv49 Try.isAgg28 Try.sizeOf28 rfl rfl) <| .cons rfl (ob_loadS' rfl hc5 Try.isAgg28 Try.sizeOf28 rfl rfl) <| .cons rfl (ob_callE rfl (.cons rfl <| .cons rfl <| .nil) Try.call14 (fun w m hK => by have hle_ := KC.le hK; have hA := KC.agree hK; have h_u := h_u.mono hle_; have hv49 := hv49.mono hle_; exact sameR_c x49 (u := u) hA hv49 h_u)) <| .cons rfl (ob_and rfl rfl rfl) <| .cons rfl (ob_move rfl) <| .cons rfl (ob_fieldAddrO (off := 3) rfl Try.underlying28 rfl rfl Try.sizeOf23 rfl) <| .cons rfl (ob_loadL (j := 3) rfl rfl Try.isAgg23 rfl) <| .cons rfl (ob_indexAddr (k := 1) rfl rfl Try.underlying23 Try.sizeOf28 (by omega) (by omega)) <| .cons rfl (ob_loadS' rfl hcv50 Try.isAgg28 Try.sizeOf28 rfl rfl) <| .cons rfl (ob_loadS' rfl hc5 Try.isAgg28 Try.sizeOf28 rfl rfl) <| .cons rfl (ob_callE rfl (.cons rfl <| .cons rfl <| .nil) Try.call14 (fun w m hK => by have hle_ := KC.le hK; have hA := KC.agree hK; have h_u := h_u.mono hle_; have hv50 := hv50.mono hle_; exact sameR_c x50 (u := u) hA hv50 h_u)) <| .cons rfl (ob_and rfl rfl rfl) <| .cons rfl (ob_assign rfl) <| .nil) ?_
        intro a14 w14 m14 hst14 hle14 hk14
        have hfr14 := hk14.fr (T' := [(15, _), (12, _), (6, _)]) (.old rfl rfl <| .old rfl rfl <| .new rfl <| .nil)
        have hlh14 := hlh13.trans hle14
        clear hst13 hfr13 hk14
        have e9 : u = x49 := by simpa using hd49
        have e8 : u = x50 := by simpa using hd50
        refine hK48 _ _ ?_; clear hK48
        refine wp_ret ?_
        repeat (with_reducible first | refine then_ret ?_ | refine block_ret ?_)
        exact fn_ret hst14 hfr14 rfl (.tmp rfl <| .nil) (by refine congrArg Value.bool ?_; rw [← e9, ← e8]; simp [sameT_refl]; rfl)

end Go.Proofs.Ytfphefkfbhjfdaa
