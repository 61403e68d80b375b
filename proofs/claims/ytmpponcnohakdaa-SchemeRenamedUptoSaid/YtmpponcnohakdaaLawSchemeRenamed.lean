/-
  'brocadelaw08': the walk of the law. Conditions: those of each theorem.
-/
import Derived.Test.YtmpponcnohakdaaPlain8e
namespace Go.Proofs.Ytmpponcnohakdaa
set_option linter.all false
set_option maxRecDepth 4000
open Go.RowKit
set_option maxHeartbeats 3200000 in
theorem schemeRenamed_c {w : World} {m : Mem} {t : Ty} {vs_t : List Value} {o : Ty} {vs_o : List Value} (hA : Agree w m) (h_t : TyR m t vs_t) (h_o : TyR m o vs_o) (hw_t : wdT t ≤ 100000000) (hc_t : cntT t ≤ 100000000) (hw_o : wdT o ≤ 100000000) (hc_o : cntT o ≤ 100000000) : FnV Try.prog 5 #[.agg vs_t.toArray, .agg vs_o.toArray] w m (fun _ _ v => v = .bool true) := by
  obtain ⟨o_t, c_t, oL_t, cL_t, rfl, hk_t, hs_t, hi_t, hj_t, hr_t⟩ := h_t.open_
  have hbg_t := hk_t.big; have hcp_t := hk_t.cap; have hbs_t := hs_t.big; have hcs_t := hs_t.cap
  have hrw_t : RwR _ ⟨t.labels, t.rv⟩ _ := ⟨_, _, rfl, hs_t, hr_t⟩
  obtain ⟨o_o, c_o, oL_o, cL_o, rfl, hk_o, hs_o, hi_o, hj_o, hr_o⟩ := h_o.open_
  have hbg_o := hk_o.big; have hcp_o := hk_o.cap; have hbs_o := hs_o.big; have hcs_o := hs_o.cap
  have hrw_o : RwR _ ⟨o.labels, o.rv⟩ _ := ⟨_, _, rfl, hs_o, hr_o⟩
  refine fn_enter (vs := [_, _]) Try.func5 rfl rfl rfl fun a0 hfr0 => ?_
  have hst0 := st_enter hA (loc_nil [] _ w m)
  have hM : MLe m m := MLe.refl m
  have hwr := walk_room t ([], [])
  simp only [room, List.length_nil] at hwr
  have hcf := fun k => fresh_cnt t k
  have hwf := fun k => applyT_wd (freshS_w (B := 0) (genT [] t) k) t
  refine seq_any fun _ hK1 => ?_
  refine rp0 hst0 hfr0 (.cons rfl (ob_box rfl rfl) <| .cons rfl (ob_box rfl rfl) <| .cons rfl (ob_assign rfl) <| .nil) ?_
  intro a1 w1 m1 hst1 hle1 hk1
  have hfr1 := hk1.fr (T' := []) (.nil)
  obtain ⟨g2, e2, hc2⟩ := hk1.ex 2 rfl
  replace hfr1 := hfr1.cons e2
  obtain ⟨g3, e3, hc3⟩ := hk1.ex 3 rfl
  replace hfr1 := hfr1.cons e3
  replace h_t := h_t.mono hle1
  replace h_o := h_o.mono hle1
  clear hst0 hfr0 hk1
  refine hK1 _ _ ?_; clear hK1
  refine seq_any fun _ hK4 => ?_
  refine rp0 hst1 hfr1 (.cons rfl (ob_callE rfl (.nil) Try.call6 (fun w m hK => by have hle_ := KC.le hK; have hA := KC.agree hK; exact shown_c hA)) <| .cons rfl (ob_assign rfl) <| .nil) ?_
  intro a2 w2 m2 hst2 hle2 hk2
  have hfr2 := hk2.fr (T' := [(2, _), (3, _), (5, _)]) (.old rfl rfl <| .old rfl rfl <| .new rfl <| .nil)
  replace h_t := h_t.mono hle2
  replace h_o := h_o.mono hle2
  replace hc2 := hc2.mono hle2
  replace hc3 := hc3.mono hle2
  clear hst1 hfr1 hk2
  refine hK4 _ _ ?_; clear hK4
  refine seq_any fun _ hK5 => ?_
  refine seq_any fun _ hK6 => ?_
  refine rp0 hst2 hfr2 (.cons rfl (ob_loadS' rfl hc2 Try.isAgg27 Try.sizeOf27 rfl rfl) <| .cons rfl (ob_callE rfl (.cons rfl <| .nil) Try.call7 (fun w m hK => by have hle_ := KC.le hK; have hA := KC.agree hK; have h_t := h_t.mono hle_; exact count_c t hA h_t (by omega))) <| .cons rfl (ob_gtr rfl rfl) <| .cons rfl (ob_move rfl) <| .cons rfl (ob_loadS' rfl hc3 Try.isAgg27 Try.sizeOf27 rfl rfl) <| .cons rfl (ob_callE rfl (.cons rfl <| .nil) Try.call7 (fun w m hK => by have hle_ := KC.le hK; have hA := KC.agree hK; have h_o := h_o.mono hle_; exact count_c o hA h_o (by omega))) <| .cons rfl (ob_gtr rfl rfl) <| .cons rfl (ob_or rfl rfl rfl) <| .cons rfl (ob_move rfl) <| .cons rfl (ob_loadS' rfl hc2 Try.isAgg27 Try.sizeOf27 rfl rfl) <| .cons rfl (ob_callE rfl (.cons rfl <| .nil) Try.call8 (fun w m hK => by have hle_ := KC.le hK; have hA := KC.agree hK; have h_t := h_t.mono hle_; exact right0R_c (t := t) hA h_t)) <| .cons rfl (ob_not rfl) <| .cons rfl (ob_or rfl rfl rfl) <| .cons rfl (ob_move rfl) <| .cons rfl (ob_loadS' rfl hc3 Try.isAgg27 Try.sizeOf27 rfl rfl) <| .cons rfl (ob_callE rfl (.cons rfl <| .nil) Try.call8 (fun w m hK => by have hle_ := KC.le hK; have hA := KC.agree hK; have h_o := h_o.mono hle_; exact right0R_c (t := o) hA h_o)) <| .cons rfl (ob_not rfl) <| .cons rfl (ob_or rfl rfl rfl) <| .nil) ?_
  intro a3 w3 m3 hst3 hle3 hk3
  have hfr3 := hk3.fr (T' := [(2, _), (3, _), (5, _), (38, _)]) (.old rfl rfl <| .old rfl rfl <| .old rfl rfl <| .new rfl <| .nil)
  replace h_t := h_t.mono hle3
  replace h_o := h_o.mono hle3
  replace hc2 := hc2.mono hle3
  replace hc3 := hc3.mono hle3
  clear hst2 hfr2 hk3
  refine hK6 _ _ ?_; clear hK6
  refine cond_any hfr3 rfl rfl (fun hb38 => ?_) (fun hb38 => ?_)
  · try simp only [nq1, nq2, nq3, nq4, nq5, nq6, nq7, nq8, nq9, u8_eq] at hb38
    refine seq_any fun _ hK7 => ?_
    refine rp0 hst3 hfr3 (.cons rfl (ob_move rfl) <| .cons rfl (ob_assign rfl) <| .nil) ?_
    intro a4 w4 m4 hst4 hle4 hk4
    have hfr4 := hk4.fr (T' := [(4, _)]) (.new rfl <| .nil)
    clear hst3 hfr3 hk4
    refine hK7 _ _ ?_; clear hK7
    refine wp_ret ?_
    repeat (with_reducible first | refine then_ret ?_ | refine block_ret ?_)
    exact fn_ret hst4 hfr4 rfl (.tmp rfl <| .nil) (rfl)
  · try simp only [nq1, nq2, nq3, nq4, nq5, nq6, nq7, nq8, nq9, u8_eq] at hb38
    have hrt : rightT t = true := by simp_all
    have hro : rightT o = true := by simp_all
    have hvs := fresh_vars hrt (k := 1000) (by omega)
    have hap := fresh_apart hrt (k := 1000) (j := (1000 + ((genT [] t).ts.length : Int) + ((genT [] t).rs.length : Int))) (by omega) rfl
    have hg1 : (genT [] t).ts.length + (genT [] t).rs.length ≤ 2 * cntT t := by show (walkT t ([], [])).1.length + (walkT t ([], [])).2.length ≤ _; omega
    have hv2 := fresh_vars hrt (k := (1000 + ((genT [] t).ts.length : Int) + ((genT [] t).rs.length : Int))) (by omega)
    have hlA : (varsT (freshA t 1000)).1.length = (varsT t).1.length ∧ (varsT (freshA t 1000)).2.length = (varsT t).2.length := by rw [hvs]; simp
    have hlB : (varsT (freshA t (1000 + ((genT [] t).ts.length : Int) + ((genT [] t).rs.length : Int)))).1.length = (varsT t).1.length ∧ (varsT (freshA t (1000 + ((genT [] t).ts.length : Int) + ((genT [] t).rs.length : Int)))).2.length = (varsT t).2.length := by rw [hv2]; simp
    have hlT : (varsT t).1.length + (varsT t).2.length ≤ 2 * cntT t := by show (walkT t ([], [])).1.length + (walkT t ([], [])).2.length ≤ _; omega
    obtain ⟨hlA1, hlA2⟩ := hlA
    obtain ⟨hlB1, hlB2⟩ := hlB
    refine wp_skip ?_
    refine hK5 _ _ ?_; clear hK5
    refine seq_any fun _ hK9 => ?_
    replace hst3 := hst3.more (r := .free) trivial List.nodup_nil (by simp [Res.blocks])
    refine ra0 (tch := [(2, 0, (fun v => .blk v _)), (3, 0, (fun v => .blkx v _ _))]) hst3 hfr3 (.cons rfl (ob_loadS' rfl hc2 Try.isAgg27 Try.sizeOf27 rfl rfl) <| .cons rfl (ob_call (φ := MP.sch (genT [] t)) rfl (.cons rfl <| .cons rfl <| .nil) Try.call11 (fun w m hK => by have hle_ := KC.le hK; have hA := KC.agree hK; have h_t := h_t.mono hle_; exact FnG.mono (genR_c (env := []) (t := t) hA Sl.empty h_t hrt (by omega) (by omega) (fun x hx => (by cases hx))) fun _ _ _ _ h => h)) <| .consT rfl rfl (fun _ => rfl) rfl (ob_allocL Try.zeroValue35 rfl) <| .consT rfl rfl (fun _ => rfl) rfl (ob_imgT 6 rfl rfl rfl fun y6 => ob_imgTX 41 rfl rfl rfl fun y41 => ob_storeF rfl rfl rfl rfl rfl Try.sizeOf35 rfl rfl rfl) <| .nil) ?_
    intro a4 w4 m4 hst4 hle4 hk4
    have hfr4 := hk4.fr (T' := [(3, _), (5, _)]) (.old rfl rfl <| .old rfl rfl <| .nil)
    obtain ⟨g10, e10, _⟩ := hk4.ex 6 rfl
    replace hfr4 := hfr4.cons e10
    replace hst4 := hst4.fin (L' := [_]) (.cons e10 <| .cons e10 <| .nil)
    try simp only [List.take_succ_cons, List.take_zero, List.drop_succ_cons, List.drop_zero, List.cons_append, List.nil_append, List.append_nil, List.length_cons, List.length_nil, Nat.zero_add, Nat.reduceAdd] at hst4
    obtain ⟨⟨⟨⟨oS, cS⟩, oR, cR⟩, ⟨oT, cT⟩, oU, cU⟩, hgS, hst4⟩ := hst4.unx (k := 0) rfl (fun _ => rfl)
    replace h_o := h_o.mono hle4
    replace hc3 := hc3.mono hle4
    clear hst3 hfr3 hk4
    refine hK9 _ _ ?_; clear hK9
    refine seq_any fun _ hK12 => ?_
    replace hst4 := hst4.more (r := .free) trivial List.nodup_nil (by simp [Res.blocks])
    refine ra0 (tch := [(5, 1, (fun v => .blk v _)), (6, 1, (fun v => .blkx v _ _))]) hst4 hfr4 (.cons rfl (ob_loadLA (j := 0) rfl rfl Try.isAgg35 Try.sizeOf35 rfl) <| .cons rfl (ob_call (φ := MP.tyn (freshA t 1000) (1000 + ((genT [] t).ts.length : Int) + ((genT [] t).rs.length : Int))) rfl (.cons rfl <| .cons rfl <| .nil) Try.call15 (fun w m hK => by have hle_ := KC.le hK; have hA := KC.agree hK; have hgS := hgS.mono hle_; exact FnG.mono (fresh_c (s := genT [] t) (k := 1000) hA hgS (by show wdT t ≤ _; omega) ⟨by omega, by omega⟩ (by omega)) fun _ _ _ _ h => h)) <| .cons rfl (ob_imgV 44 rfl rfl rfl fun y44 => ob_move rfl) <| .cons rfl (ob_imgV 42 rfl rfl rfl fun y42 => ob_extract rfl rfl) <| .cons rfl (ob_imgV 42 rfl rfl rfl fun y42 => ob_extract rfl rfl) <| .consT rfl rfl (fun _ => rfl) rfl (ob_allocL Try.zeroValue27 rfl) <| .consT rfl rfl (fun _ => rfl) rfl (ob_imgT 7 rfl rfl rfl fun y7 => ob_imgTX 45 rfl rfl rfl fun y45 => ob_storeF rfl rfl rfl rfl rfl Try.sizeOf27 rfl rfl rfl) <| .consA 46 rfl rfl <| .nil) ?_
    intro a5 w5 m5 hst5 hle5 hk5
    have hfr5 := hk5.fr (T' := [(3, _), (5, _), (6, _)]) (.old rfl rfl <| .old rfl rfl <| .old rfl rfl <| .nil)
    obtain ⟨y13, e13, hy13⟩ := hk5.ex 46 rfl
    obtain ⟨g14, e14, _⟩ := hk5.ex 7 rfl
    replace hfr5 := hfr5.cons e14
    replace hfr5 := hfr5.cons (hk5.same 8 rfl e13)
    replace hst5 := hst5.fin (L' := [_, _]) (.cons e14 <| .cons e14 <| .nil)
    try simp only [List.take_succ_cons, List.take_zero, List.drop_succ_cons, List.drop_zero, List.cons_append, List.nil_append, List.append_nil, List.length_cons, List.length_nil, Nat.zero_add, Nat.reduceAdd] at hst5
    obtain ⟨⟨⟨oF, cF⟩, oG, cG⟩, hF, hst5⟩ := hst5.unx (k := 1) rfl (fun _ => rfl)
    replace h_o := h_o.mono hle5
    replace hc3 := hc3.mono hle5
    replace hgS := hgS.mono hle5
    clear hst4 hfr4 hk5
    refine hK12 _ _ ?_; clear hK12
    refine seq_any fun _ hK16 => ?_
    replace hst5 := hst5.more (r := .free) trivial List.nodup_nil (by simp [Res.blocks])
    refine ra0 (tch := [(6, 2, (fun v => .blk v _)), (7, 2, (fun v => .blkx v _ _))]) hst5 hfr5 (.cons rfl (ob_loadLA (j := 0) rfl rfl Try.isAgg35 Try.sizeOf35 rfl) <| .cons rfl (ob_move rfl) <| .cons rfl (ob_call (φ := MP.tyn (freshA t (1000 + ((genT [] t).ts.length : Int) + ((genT [] t).rs.length : Int))) ((1000 + ((genT [] t).ts.length : Int) + ((genT [] t).rs.length : Int)) + ((genT [] t).ts.length : Int) + ((genT [] t).rs.length : Int))) rfl (.cons rfl <| .cons rfl <| .nil) Try.call15 (fun w m hK => by have hle_ := KC.le hK; have hA := KC.agree hK; have hgS := hgS.mono hle_; exact FnG.mono (fresh_c (s := genT [] t) (k := (1000 + ((genT [] t).ts.length : Int) + ((genT [] t).rs.length : Int))) hA hgS (by show wdT t ≤ _; omega) ⟨by omega, by omega⟩ (by omega)) fun _ _ _ _ h => h)) <| .cons rfl (ob_imgV 50 rfl rfl rfl fun y50 => ob_move rfl) <| .cons rfl (ob_imgV 47 rfl rfl rfl fun y47 => ob_extract rfl rfl) <| .cons rfl (ob_imgV 47 rfl rfl rfl fun y47 => ob_extract rfl rfl) <| .consT rfl rfl (fun _ => rfl) rfl (ob_allocL Try.zeroValue27 rfl) <| .consT rfl rfl (fun _ => rfl) rfl (ob_imgT 9 rfl rfl rfl fun y9 => ob_imgTX 51 rfl rfl rfl fun y51 => ob_storeF rfl rfl rfl rfl rfl Try.sizeOf27 rfl rfl rfl) <| .consA 52 rfl rfl <| .nil) ?_
    intro a6 w6 m6 hst6 hle6 hk6
    have hfr6 := hk6.fr (T' := [(3, _), (5, _), (6, _), (7, _), (8, _)]) (.old rfl rfl <| .old rfl rfl <| .old rfl rfl <| .old rfl rfl <| .old rfl rfl <| .nil)
    obtain ⟨y17, e17, hy17⟩ := hk6.ex 52 rfl
    obtain ⟨g18, e18, _⟩ := hk6.ex 9 rfl
    replace hfr6 := hfr6.cons e18
    replace hfr6 := hfr6.cons (hk6.same 10 rfl e17)
    replace hst6 := hst6.fin (L' := [_, _, _]) (.cons e18 <| .cons e18 <| .nil)
    try simp only [List.take_succ_cons, List.take_zero, List.drop_succ_cons, List.drop_zero, List.cons_append, List.nil_append, List.append_nil, List.length_cons, List.length_nil, Nat.zero_add, Nat.reduceAdd] at hst6
    obtain ⟨⟨⟨oH, cH⟩, oI, cI⟩, hH, hst6⟩ := hst6.unx (k := 2) rfl (fun _ => rfl)
    replace h_o := h_o.mono hle6
    replace hc3 := hc3.mono hle6
    replace hgS := hgS.mono hle6
    replace hF := hF.mono hle6
    clear hst5 hfr5 hk6
    refine hK16 _ _ ?_; clear hK16
    refine seq_any fun _ hK20 => ?_
    replace hst6 := hst6.more (r := .free) trivial List.nodup_nil (by simp [Res.blocks])
    refine ra0 (tch := [(2, 3, (fun v => .blk v _)), (3, 3, (fun v => .blkx v _ _))]) hst6 hfr6 (.cons rfl (ob_loadLA (j := 1) rfl rfl Try.isAgg27 Try.sizeOf27 rfl) <| .cons rfl (ob_call (φ := MP.sch (genT [] (freshA t 1000))) rfl (.cons rfl <| .cons rfl <| .nil) Try.call11 (fun w m hK => by have hle_ := KC.le hK; have hA := KC.agree hK; have hF := hF.mono hle_; exact FnG.mono (genR_c (env := []) (t := (freshA t 1000)) hA Sl.empty hF (fresh_right hrt (by omega)) (by have := hwf 1000; show wdT (applyT _ t) ≤ _; omega) (by have := hcf 1000; omega) (fun x hx => (by cases hx))) fun _ _ _ _ h => h)) <| .consT rfl rfl (fun _ => rfl) rfl (ob_allocL Try.zeroValue35 rfl) <| .consT rfl rfl (fun _ => rfl) rfl (ob_imgT 11 rfl rfl rfl fun y11 => ob_imgTX 54 rfl rfl rfl fun y54 => ob_storeF rfl rfl rfl rfl rfl Try.sizeOf35 rfl rfl rfl) <| .nil) ?_
    intro a7 w7 m7 hst7 hle7 hk7
    have hfr7 := hk7.fr (T' := [(3, _), (5, _), (6, _), (7, _), (8, _), (9, _), (10, _)]) (.old rfl rfl <| .old rfl rfl <| .old rfl rfl <| .old rfl rfl <| .old rfl rfl <| .old rfl rfl <| .old rfl rfl <| .nil)
    obtain ⟨g21, e21, _⟩ := hk7.ex 11 rfl
    replace hfr7 := hfr7.cons e21
    replace hst7 := hst7.fin (L' := [_, _, _, _]) (.cons e21 <| .cons e21 <| .nil)
    try simp only [List.take_succ_cons, List.take_zero, List.drop_succ_cons, List.drop_zero, List.cons_append, List.nil_append, List.append_nil, List.length_cons, List.length_nil, Nat.zero_add, Nat.reduceAdd] at hst7
    obtain ⟨⟨⟨⟨oV, cV⟩, oW, cW⟩, ⟨oX, cX⟩, oY, cY⟩, hgA, hst7⟩ := hst7.unx (k := 3) rfl (fun _ => rfl)
    replace h_o := h_o.mono hle7
    replace hc3 := hc3.mono hle7
    replace hgS := hgS.mono hle7
    replace hF := hF.mono hle7
    replace hH := hH.mono hle7
    clear hst6 hfr6 hk7
    refine hK20 _ _ ?_; clear hK20
    refine seq_any fun _ hK23 => ?_
    refine ra0 (tch := []) hst7 hfr7 (.cons rfl (ob_loadLA (j := 1) rfl rfl Try.isAgg27 Try.sizeOf27 rfl) <| .cons rfl (ob_call (φ := MP.two (varsT (freshA t 1000)).1 (varsT (freshA t 1000)).2) rfl (.cons rfl <| .nil) Try.call19 (fun w m hK => by have hle_ := KC.le hK; have hA := KC.agree hK; have hF := hF.mono hle_; exact FnG.mono (vars0R_c (t := (freshA t 1000)) hA hF (by have := hcf 1000; omega)) fun _ _ _ _ h => h)) <| .cons rfl (ob_imgV 57 rfl rfl rfl fun y57 => ob_move rfl) <| .cons rfl (ob_imgV 55 rfl rfl rfl fun y55 => ob_extract rfl rfl) <| .cons rfl (ob_imgV 55 rfl rfl rfl fun y55 => ob_extract rfl rfl) <| .consA 58 rfl rfl <| .consA 59 rfl rfl <| .nil) ?_
    intro a8 w8 m8 hst8 hle8 hk8
    have hfr8 := hk8.fr (T' := [(3, _), (5, _), (6, _), (8, _), (9, _), (10, _), (11, _)]) (.old rfl rfl <| .old rfl rfl <| .old rfl rfl <| .old rfl rfl <| .old rfl rfl <| .old rfl rfl <| .old rfl rfl <| .nil)
    obtain ⟨⟨⟨o1, c1⟩, q1⟩, e24, hI1, _⟩ := hk8.ex 58 rfl
    obtain ⟨⟨q2, o2, c2⟩, e25, _, hI2⟩ := hk8.ex 59 rfl
    replace hfr8 := hfr8.cons (hk8.same 12 rfl e24)
    replace hfr8 := hfr8.cons (hk8.same 13 rfl e25)
    replace h_o := h_o.mono hle8
    replace hc3 := hc3.mono hle8
    replace hgS := hgS.mono hle8
    replace hH := hH.mono hle8
    replace hgA := hgA.mono hle8
    clear hst7 hfr7 hk8
    refine hK23 _ _ ?_; clear hK23
    refine seq_any fun _ hK26 => ?_
    refine ra0 (tch := []) hst8 hfr8 (.cons rfl (ob_loadLA (j := 2) rfl rfl Try.isAgg27 Try.sizeOf27 rfl) <| .cons rfl (ob_call (φ := MP.two (varsT (freshA t (1000 + ((genT [] t).ts.length : Int) + ((genT [] t).rs.length : Int)))).1 (varsT (freshA t (1000 + ((genT [] t).ts.length : Int) + ((genT [] t).rs.length : Int)))).2) rfl (.cons rfl <| .nil) Try.call19 (fun w m hK => by have hle_ := KC.le hK; have hA := KC.agree hK; have hH := hH.mono hle_; exact FnG.mono (vars0R_c (t := (freshA t (1000 + ((genT [] t).ts.length : Int) + ((genT [] t).rs.length : Int)))) hA hH (by have := hcf (1000 + ((genT [] t).ts.length : Int) + ((genT [] t).rs.length : Int)); omega)) fun _ _ _ _ h => h)) <| .cons rfl (ob_imgV 62 rfl rfl rfl fun y62 => ob_move rfl) <| .cons rfl (ob_imgV 60 rfl rfl rfl fun y60 => ob_extract rfl rfl) <| .cons rfl (ob_imgV 60 rfl rfl rfl fun y60 => ob_extract rfl rfl) <| .consA 63 rfl rfl <| .consA 64 rfl rfl <| .nil) ?_
    intro a9 w9 m9 hst9 hle9 hk9
    have hfr9 := hk9.fr (T' := [(3, _), (5, _), (6, _), (8, _), (10, _), (11, _), (12, _), (13, _)]) (.old rfl rfl <| .old rfl rfl <| .old rfl rfl <| .old rfl rfl <| .old rfl rfl <| .old rfl rfl <| .old rfl rfl <| .old rfl rfl <| .nil)
    obtain ⟨⟨⟨o3, c3⟩, q3⟩, e27, hI3, _⟩ := hk9.ex 63 rfl
    obtain ⟨⟨q4, o4, c4⟩, e28, _, hI4⟩ := hk9.ex 64 rfl
    replace hfr9 := hfr9.cons (hk9.same 14 rfl e27)
    replace hfr9 := hfr9.cons (hk9.same 15 rfl e28)
    replace h_o := h_o.mono hle9
    replace hc3 := hc3.mono hle9
    replace hgS := hgS.mono hle9
    replace hgA := hgA.mono hle9
    replace hI1 := hI1.mono hle9
    replace hI2 := hI2.mono hle9
    clear hst8 hfr8 hk9
    refine hK26 _ _ ?_; clear hK26
    refine seq_any fun _ hK29 => ?_
    refine seq_any fun _ hK30 => ?_
    refine rp0 hst9 hfr9 (.cons rfl (ob_assign rfl) <| .nil) ?_
    intro a10 w10 m10 hst10 hle10 hk10
    have hfr10 := hk10.fr (T' := [(3, _), (5, _), (6, _), (8, _), (10, _), (11, _), (12, _), (13, _), (14, _), (15, _), (16, _)]) (.old rfl rfl <| .old rfl rfl <| .old rfl rfl <| .old rfl rfl <| .old rfl rfl <| .old rfl rfl <| .old rfl rfl <| .old rfl rfl <| .old rfl rfl <| .old rfl rfl <| .new rfl <| .nil)
    replace h_o := h_o.mono hle10
    replace hc3 := hc3.mono hle10
    replace hgS := hgS.mono hle10
    replace hgA := hgA.mono hle10
    replace hI1 := hI1.mono hle10
    replace hI2 := hI2.mono hle10
    replace hI3 := hI3.mono hle10
    replace hI4 := hI4.mono hle10
    clear hst9 hfr9 hk10
    refine hK30 _ _ ?_; clear hK30
    refine wp_block ?_
    refine loop_any (T := [(3, _), (5, _), (6, _), (8, _), (10, _), (11, _), (12, _), (13, _), (14, _), (15, _)]) (fun (y : Nat) => ([(16, .int .i64 (y : Int))] : List (Nat × Value))) (fun _ => _) (fun (y : Nat) m => (y ≤ (varsT (freshA t 1000)).1.length)) (fun y => (varsT (freshA t 1000)).1.length - y) (0) ⟨hst10, MLe.refl _, hfr10.sub (.cons rfl <| .cons rfl <| .cons rfl <| .cons rfl <| .cons rfl <| .cons rfl <| .cons rfl <| .cons rfl <| .cons rfl <| .cons rfl <| .cons rfl <| .nil), Nat.zero_le _⟩ fun y a11 w11 m11 hh11 => ?_
    have hst11 := hh11.st; have hle11 := hh11.le; have hfr11 := hh11.fr; have hrel := hh11.rel; clear hh11
    replace h_o := h_o.mono hle11
    replace hc3 := hc3.mono hle11
    replace hgS := hgS.mono hle11
    replace hgA := hgA.mono hle11
    replace hI1 := hI1.mono hle11
    replace hI2 := hI2.mono hle11
    replace hI3 := hI3.mono hle11
    replace hI4 := hI4.mono hle11
    clear hst10 hfr10
    have hyn := hrel
    have hlh11 := hle11
    refine seq_any fun _ hK32 => ?_
    refine seq_any fun _ hK33 => ?_
    refine rp0 hst11 hfr11 (.cons rfl (ob_move rfl) <| .cons rfl (ob_move rfl) <| .cons rfl (ob_len rfl Try.underlying33) <| .cons rfl (ob_lss rfl rfl) <| .nil) ?_
    intro a12 w12 m12 hst12 hle12 hk12
    have hfr12 := hk12.fr (T' := [(16, _), (3, _), (5, _), (6, _), (8, _), (10, _), (11, _), (12, _), (13, _), (14, _), (15, _), (68, _)]) (.old rfl rfl <| .old rfl rfl <| .old rfl rfl <| .old rfl rfl <| .old rfl rfl <| .old rfl rfl <| .old rfl rfl <| .old rfl rfl <| .old rfl rfl <| .old rfl rfl <| .old rfl rfl <| .new rfl <| .nil)
    replace h_o := h_o.mono hle12
    replace hc3 := hc3.mono hle12
    replace hgS := hgS.mono hle12
    replace hgA := hgA.mono hle12
    replace hI1 := hI1.mono hle12
    replace hI2 := hI2.mono hle12
    replace hI3 := hI3.mono hle12
    replace hI4 := hI4.mono hle12
    have hlh12 := hlh11.trans hle12
    clear hst11 hfr11 hk12
    refine hK33 _ _ ?_; clear hK33
    refine cond_any hfr12 rfl rfl (fun hb68 => ?_) (fun hb68 => ?_)
    · try simp only [nq1, nq2, nq3, nq4, nq5, nq6, nq7, nq8, nq9, u8_eq] at hb68
      refine wp_skip ?_
      refine hK32 _ _ ?_; clear hK32
      refine seq_any fun _ hK34 => ?_
      refine wp_block ?_
      refine seq_any fun _ hK35 => ?_
      refine rp0 hst12 hfr12 (.cons rfl (ob_assign rfl) <| .nil) ?_
      intro a13 w13 m13 hst13 hle13 hk13
      have hfr13 := hk13.fr (T' := [(16, _), (3, _), (5, _), (6, _), (8, _), (10, _), (11, _), (12, _), (13, _), (14, _), (15, _), (17, _)]) (.old rfl rfl <| .old rfl rfl <| .old rfl rfl <| .old rfl rfl <| .old rfl rfl <| .old rfl rfl <| .old rfl rfl <| .old rfl rfl <| .old rfl rfl <| .old rfl rfl <| .old rfl rfl <| .new rfl <| .nil)
      replace hI1 := hI1.mono hle13
      replace hI3 := hI3.mono hle13
      have hlh13 := hlh12.trans hle13
      clear hst12 hfr12 hk13
      refine hK35 _ _ ?_; clear hK35
      refine wp_block ?_
      have hlq36 := hlh13
      refine loop_any (T := [(16, _), (3, _), (5, _), (6, _), (8, _), (10, _), (11, _), (12, _), (13, _), (14, _), (15, _)]) (fun (k : Nat) => ([(17, .int .i64 (k : Int))] : List (Nat × Value))) (fun _ => _) (fun (k : Nat) m => (k ≤ (varsT (freshA t (1000 + ((genT [] t).ts.length : Int) + ((genT [] t).rs.length : Int)))).1.length)) (fun k => (varsT (freshA t (1000 + ((genT [] t).ts.length : Int) + ((genT [] t).rs.length : Int)))).1.length - k) (0) ⟨hst13, MLe.refl _, hfr13.sub (.cons rfl <| .cons rfl <| .cons rfl <| .cons rfl <| .cons rfl <| .cons rfl <| .cons rfl <| .cons rfl <| .cons rfl <| .cons rfl <| .cons rfl <| .cons rfl <| .nil), Nat.zero_le _⟩ fun k a14 w14 m14 hh14 => ?_
      have hst14 := hh14.st; have hle14 := hh14.le; have hfr14 := hh14.fr; have hrel := hh14.rel; clear hh14
      replace hI1 := hI1.mono hle14
      replace hI3 := hI3.mono hle14
      clear hst13 hfr13
      have hkn := hrel
      replace hlq36 := hlq36.trans hle14
      have hlh14 := hle14
      refine seq_any fun _ hK37 => ?_
      refine seq_any fun _ hK38 => ?_
      refine rp0 hst14 hfr14 (.cons rfl (ob_move rfl) <| .cons rfl (ob_move rfl) <| .cons rfl (ob_len rfl Try.underlying33) <| .cons rfl (ob_lss rfl rfl) <| .nil) ?_
      intro a15 w15 m15 hst15 hle15 hk15
      have hfr15 := hk15.fr (T' := [(17, _), (16, _), (3, _), (5, _), (6, _), (8, _), (10, _), (11, _), (12, _), (13, _), (14, _), (15, _), (74, _)]) (.old rfl rfl <| .old rfl rfl <| .old rfl rfl <| .old rfl rfl <| .old rfl rfl <| .old rfl rfl <| .old rfl rfl <| .old rfl rfl <| .old rfl rfl <| .old rfl rfl <| .old rfl rfl <| .old rfl rfl <| .new rfl <| .nil)
      replace hI1 := hI1.mono hle15
      replace hI3 := hI3.mono hle15
      have hlh15 := hlh14.trans hle15
      replace hlq36 := hlq36.trans hle15
      clear hst14 hfr14 hk15
      refine hK38 _ _ ?_; clear hK38
      refine cond_any hfr15 rfl rfl (fun hb74 => ?_) (fun hb74 => ?_)
      · try simp only [nq1, nq2, nq3, nq4, nq5, nq6, nq7, nq8, nq9, u8_eq] at hb74
        refine wp_skip ?_
        refine hK37 _ _ ?_; clear hK37
        refine seq_any fun _ hK39 => ?_
        refine wp_block ?_
        refine seq_any fun _ hK40 => ?_
        obtain ⟨p41, vs41, x41, ho41, hd41, hm_x41, ht41, hcv41, hl41, hv41⟩ := hI1.nth (k := y) (by omega)
        cases ho41
        subst hv41
        obtain ⟨p42, vs42, x42, ho42, hd42, hm_x42, ht42, hcv42, hl42, hv42⟩ := hI3.nth (k := k) (by omega)
        cases ho42
        subst hv42
        refine region_plain (fun _ => mixed) hst15 hfr15 (by kernel_rfl) (by kernel_rfl) (.cons rfl (ob_move rfl) <| .cons rfl (ob_move rfl) <| .cons rfl (ob_indexAddr (k := y) rfl rfl Try.underlying33 Try.sizeOf3 rfl (by omega)) <| .cons rfl (ob_load1' rfl hcv41 Try.isAgg3 rfl) <| .cons rfl (ob_move rfl) <| .cons rfl (ob_move rfl) <| .cons rfl (ob_indexAddr (k := k) rfl rfl Try.underlying33 Try.sizeOf3 rfl (by omega)) <| .cons rfl (ob_load1' rfl hcv42 Try.isAgg3 rfl) <| .cons rfl (ob_eql rfl rfl) <| .nil) ?_
        intro a16 w16 m16 hst16 hle16 hk16
        have hfr16 := hk16.fr (T' := [(17, _), (16, _), (3, _), (5, _), (6, _), (8, _), (10, _), (11, _), (12, _), (13, _), (14, _), (15, _), (85, _)]) (.old rfl rfl <| .old rfl rfl <| .old rfl rfl <| .old rfl rfl <| .old rfl rfl <| .old rfl rfl <| .old rfl rfl <| .old rfl rfl <| .old rfl rfl <| .old rfl rfl <| .old rfl rfl <| .old rfl rfl <| .new rfl <| .nil)
        have hlh16 := hlh15.trans hle16
        clear hst15 hfr15 hk16
        refine hK40 _ _ ?_; clear hK40
        refine cond_any hfr16 rfl rfl (fun hb85 => ?_) (fun hb85 => ?_)
        · exact absurd (of_decide_eq_true hb85) (hap.1 x41 hm_x41 x42 hm_x42)
        · try simp only [nq1, nq2, nq3, nq4, nq5, nq6, nq7, nq8, nq9, u8_eq] at hb85
          refine wp_skip ?_
          refine hK39 _ _ ?_; clear hK39
          refine rp0 hst16 hfr16 (.cons rfl (ob_move rfl) <| .cons rfl (ob_add rfl rfl ⟨by omega, by omega⟩) <| .cons rfl (ob_assign rfl) <| .nil) ?_
          intro a17 w17 m17 hst17 hle17 hk17
          have hfr17 := hk17.fr (T' := [(16, _), (3, _), (5, _), (6, _), (8, _), (10, _), (11, _), (12, _), (13, _), (14, _), (15, _), (17, _)]) (.old rfl rfl <| .old rfl rfl <| .old rfl rfl <| .old rfl rfl <| .old rfl rfl <| .old rfl rfl <| .old rfl rfl <| .old rfl rfl <| .old rfl rfl <| .old rfl rfl <| .old rfl rfl <| .new rfl <| .nil)
          have hlh17 := hlh16.trans hle17
          clear hst16 hfr16 hk17
          exact ⟨k + 1, m17, by show (varsT (freshA t (1000 + ((genT [] t).ts.length : Int) + ((genT [] t).rs.length : Int)))).1.length - (k + 1) < (varsT (freshA t (1000 + ((genT [] t).ts.length : Int) + ((genT [] t).rs.length : Int)))).1.length - k; omega, ⟨hst17, hlh17, hfr17.sub (.cons rfl <| .cons rfl <| .cons rfl <| .cons rfl <| .cons rfl <| .cons rfl <| .cons rfl <| .cons rfl <| .cons rfl <| .cons rfl <| .cons rfl <| .cons rfl <| .nil), by show k + 1 ≤ (varsT (freshA t (1000 + ((genT [] t).ts.length : Int) + ((genT [] t).rs.length : Int)))).1.length; omega⟩⟩
      · try simp only [nq1, nq2, nq3, nq4, nq5, nq6, nq7, nq8, nq9, u8_eq] at hb74
        have hgek : k = (varsT (freshA t (1000 + ((genT [] t).ts.length : Int) + ((genT [] t).rs.length : Int)))).1.length := by omega
        refine wp_exit ?_
        refine hK34 _ _ ?_; clear hK34
        refine rp0 hst15 hfr15 (.cons rfl (ob_move rfl) <| .cons rfl (ob_add rfl rfl ⟨by omega, by omega⟩) <| .cons rfl (ob_assign rfl) <| .nil) ?_
        intro a16 w16 m16 hst16 hle16 hk16
        have hfr16 := hk16.fr (T' := [(17, _), (3, _), (5, _), (6, _), (8, _), (10, _), (11, _), (12, _), (13, _), (14, _), (15, _), (16, _)]) (.old rfl rfl <| .old rfl rfl <| .old rfl rfl <| .old rfl rfl <| .old rfl rfl <| .old rfl rfl <| .old rfl rfl <| .old rfl rfl <| .old rfl rfl <| .old rfl rfl <| .old rfl rfl <| .new rfl <| .nil)
        have hlh16 := hlh15.trans hle16
        replace hlq36 := hlq36.trans hle16
        clear hst15 hfr15 hk16
        exact ⟨y + 1, m16, by show (varsT (freshA t 1000)).1.length - (y + 1) < (varsT (freshA t 1000)).1.length - y; omega, ⟨hst16, hlq36, hfr16.sub (.cons rfl <| .cons rfl <| .cons rfl <| .cons rfl <| .cons rfl <| .cons rfl <| .cons rfl <| .cons rfl <| .cons rfl <| .cons rfl <| .cons rfl <| .nil), by show y + 1 ≤ (varsT (freshA t 1000)).1.length; omega⟩⟩
    · try simp only [nq1, nq2, nq3, nq4, nq5, nq6, nq7, nq8, nq9, u8_eq] at hb68
      have hge : y = (varsT (freshA t 1000)).1.length := by omega
      refine wp_exit ?_
      refine hK29 _ _ ?_; clear hK29
      refine seq_any fun _ hK43 => ?_
      refine seq_any fun _ hK44 => ?_
      refine rp0 hst12 hfr12 (.cons rfl (ob_assign rfl) <| .nil) ?_
      intro a13 w13 m13 hst13 hle13 hk13
      have hfr13 := hk13.fr (T' := [(16, _), (3, _), (5, _), (6, _), (8, _), (10, _), (11, _), (13, _), (15, _), (18, _)]) (.old rfl rfl <| .old rfl rfl <| .old rfl rfl <| .old rfl rfl <| .old rfl rfl <| .old rfl rfl <| .old rfl rfl <| .old rfl rfl <| .old rfl rfl <| .new rfl <| .nil)
      replace h_o := h_o.mono hle13
      replace hc3 := hc3.mono hle13
      replace hgS := hgS.mono hle13
      replace hgA := hgA.mono hle13
      replace hI2 := hI2.mono hle13
      replace hI4 := hI4.mono hle13
      have hlh13 := hlh12.trans hle13
      clear hst12 hfr12 hk13
      refine hK44 _ _ ?_; clear hK44
      refine wp_block ?_
      have hlq45 := hlh13
      refine loop_any (T := [(16, _), (3, _), (5, _), (6, _), (8, _), (10, _), (11, _), (13, _), (15, _)]) (fun (y : Nat) => ([(18, .int .i64 (y : Int))] : List (Nat × Value))) (fun _ => _) (fun (y : Nat) m => (y ≤ (varsT (freshA t 1000)).2.length)) (fun y => (varsT (freshA t 1000)).2.length - y) (0) ⟨hst13, MLe.refl _, hfr13.sub (.cons rfl <| .cons rfl <| .cons rfl <| .cons rfl <| .cons rfl <| .cons rfl <| .cons rfl <| .cons rfl <| .cons rfl <| .cons rfl <| .nil), Nat.zero_le _⟩ fun y a14 w14 m14 hh14 => ?_
      have hst14 := hh14.st; have hle14 := hh14.le; have hfr14 := hh14.fr; have hrel := hh14.rel; clear hh14
      replace h_o := h_o.mono hle14
      replace hc3 := hc3.mono hle14
      replace hgS := hgS.mono hle14
      replace hgA := hgA.mono hle14
      replace hI2 := hI2.mono hle14
      replace hI4 := hI4.mono hle14
      clear hst13 hfr13
      have hyn := hrel
      have hlh14 := hle14
      refine seq_any fun _ hK46 => ?_
      refine seq_any fun _ hK47 => ?_
      refine rp0 hst14 hfr14 (.cons rfl (ob_move rfl) <| .cons rfl (ob_move rfl) <| .cons rfl (ob_len rfl Try.underlying33) <| .cons rfl (ob_lss rfl rfl) <| .nil) ?_
      intro a15 w15 m15 hst15 hle15 hk15
      have hfr15 := hk15.fr (T' := [(18, _), (16, _), (3, _), (5, _), (6, _), (8, _), (10, _), (11, _), (13, _), (15, _), (89, _)]) (.old rfl rfl <| .old rfl rfl <| .old rfl rfl <| .old rfl rfl <| .old rfl rfl <| .old rfl rfl <| .old rfl rfl <| .old rfl rfl <| .old rfl rfl <| .old rfl rfl <| .new rfl <| .nil)
      replace h_o := h_o.mono hle15
      replace hc3 := hc3.mono hle15
      replace hgS := hgS.mono hle15
      replace hgA := hgA.mono hle15
      replace hI2 := hI2.mono hle15
      replace hI4 := hI4.mono hle15
      have hlh15 := hlh14.trans hle15
      clear hst14 hfr14 hk15
      refine hK47 _ _ ?_; clear hK47
      refine cond_any hfr15 rfl rfl (fun hb89 => ?_) (fun hb89 => ?_)
      · try simp only [nq1, nq2, nq3, nq4, nq5, nq6, nq7, nq8, nq9, u8_eq] at hb89
        refine wp_skip ?_
        refine hK46 _ _ ?_; clear hK46
        refine seq_any fun _ hK48 => ?_
        refine wp_block ?_
        refine seq_any fun _ hK49 => ?_
        refine rp0 hst15 hfr15 (.cons rfl (ob_assign rfl) <| .nil) ?_
        intro a16 w16 m16 hst16 hle16 hk16
        have hfr16 := hk16.fr (T' := [(18, _), (16, _), (3, _), (5, _), (6, _), (8, _), (10, _), (11, _), (13, _), (15, _), (19, _)]) (.old rfl rfl <| .old rfl rfl <| .old rfl rfl <| .old rfl rfl <| .old rfl rfl <| .old rfl rfl <| .old rfl rfl <| .old rfl rfl <| .old rfl rfl <| .old rfl rfl <| .new rfl <| .nil)
        replace hI2 := hI2.mono hle16
        replace hI4 := hI4.mono hle16
        have hlh16 := hlh15.trans hle16
        clear hst15 hfr15 hk16
        refine hK49 _ _ ?_; clear hK49
        refine wp_block ?_
        have hlq50 := hlh16
        refine loop_any (T := [(18, _), (16, _), (3, _), (5, _), (6, _), (8, _), (10, _), (11, _), (13, _), (15, _)]) (fun (k : Nat) => ([(19, .int .i64 (k : Int))] : List (Nat × Value))) (fun _ => _) (fun (k : Nat) m => (k ≤ (varsT (freshA t (1000 + ((genT [] t).ts.length : Int) + ((genT [] t).rs.length : Int)))).2.length)) (fun k => (varsT (freshA t (1000 + ((genT [] t).ts.length : Int) + ((genT [] t).rs.length : Int)))).2.length - k) (0) ⟨hst16, MLe.refl _, hfr16.sub (.cons rfl <| .cons rfl <| .cons rfl <| .cons rfl <| .cons rfl <| .cons rfl <| .cons rfl <| .cons rfl <| .cons rfl <| .cons rfl <| .cons rfl <| .nil), Nat.zero_le _⟩ fun k a17 w17 m17 hh17 => ?_
        have hst17 := hh17.st; have hle17 := hh17.le; have hfr17 := hh17.fr; have hrel := hh17.rel; clear hh17
        replace hI2 := hI2.mono hle17
        replace hI4 := hI4.mono hle17
        clear hst16 hfr16
        have hkn := hrel
        replace hlq50 := hlq50.trans hle17
        have hlh17 := hle17
        refine seq_any fun _ hK51 => ?_
        refine seq_any fun _ hK52 => ?_
        refine rp0 hst17 hfr17 (.cons rfl (ob_move rfl) <| .cons rfl (ob_move rfl) <| .cons rfl (ob_len rfl Try.underlying33) <| .cons rfl (ob_lss rfl rfl) <| .nil) ?_
        intro a18 w18 m18 hst18 hle18 hk18
        have hfr18 := hk18.fr (T' := [(19, _), (18, _), (16, _), (3, _), (5, _), (6, _), (8, _), (10, _), (11, _), (13, _), (15, _), (95, _)]) (.old rfl rfl <| .old rfl rfl <| .old rfl rfl <| .old rfl rfl <| .old rfl rfl <| .old rfl rfl <| .old rfl rfl <| .old rfl rfl <| .old rfl rfl <| .old rfl rfl <| .old rfl rfl <| .new rfl <| .nil)
        replace hI2 := hI2.mono hle18
        replace hI4 := hI4.mono hle18
        have hlh18 := hlh17.trans hle18
        replace hlq50 := hlq50.trans hle18
        clear hst17 hfr17 hk18
        refine hK52 _ _ ?_; clear hK52
        refine cond_any hfr18 rfl rfl (fun hb95 => ?_) (fun hb95 => ?_)
        · try simp only [nq1, nq2, nq3, nq4, nq5, nq6, nq7, nq8, nq9, u8_eq] at hb95
          refine wp_skip ?_
          refine hK51 _ _ ?_; clear hK51
          refine seq_any fun _ hK53 => ?_
          refine wp_block ?_
          refine seq_any fun _ hK54 => ?_
          obtain ⟨p55, vs55, x55, ho55, hd55, hm_x55, ht55, hcv55, hl55, hv55⟩ := hI2.nth (k := y) (by omega)
          cases ho55
          subst hv55
          obtain ⟨p56, vs56, x56, ho56, hd56, hm_x56, ht56, hcv56, hl56, hv56⟩ := hI4.nth (k := k) (by omega)
          cases ho56
          subst hv56
          refine region_plain (fun _ => mixed) hst18 hfr18 (by kernel_rfl) (by kernel_rfl) (.cons rfl (ob_move rfl) <| .cons rfl (ob_move rfl) <| .cons rfl (ob_indexAddr (k := y) rfl rfl Try.underlying33 Try.sizeOf3 rfl (by omega)) <| .cons rfl (ob_load1' rfl hcv55 Try.isAgg3 rfl) <| .cons rfl (ob_move rfl) <| .cons rfl (ob_move rfl) <| .cons rfl (ob_indexAddr (k := k) rfl rfl Try.underlying33 Try.sizeOf3 rfl (by omega)) <| .cons rfl (ob_load1' rfl hcv56 Try.isAgg3 rfl) <| .cons rfl (ob_eql rfl rfl) <| .nil) ?_
          intro a19 w19 m19 hst19 hle19 hk19
          have hfr19 := hk19.fr (T' := [(19, _), (18, _), (16, _), (3, _), (5, _), (6, _), (8, _), (10, _), (11, _), (13, _), (15, _), (106, _)]) (.old rfl rfl <| .old rfl rfl <| .old rfl rfl <| .old rfl rfl <| .old rfl rfl <| .old rfl rfl <| .old rfl rfl <| .old rfl rfl <| .old rfl rfl <| .old rfl rfl <| .old rfl rfl <| .new rfl <| .nil)
          have hlh19 := hlh18.trans hle19
          clear hst18 hfr18 hk19
          refine hK54 _ _ ?_; clear hK54
          refine cond_any hfr19 rfl rfl (fun hb106 => ?_) (fun hb106 => ?_)
          · exact absurd (of_decide_eq_true hb106) (hap.2 x55 hm_x55 x56 hm_x56)
          · try simp only [nq1, nq2, nq3, nq4, nq5, nq6, nq7, nq8, nq9, u8_eq] at hb106
            refine wp_skip ?_
            refine hK53 _ _ ?_; clear hK53
            refine rp0 hst19 hfr19 (.cons rfl (ob_move rfl) <| .cons rfl (ob_add rfl rfl ⟨by omega, by omega⟩) <| .cons rfl (ob_assign rfl) <| .nil) ?_
            intro a20 w20 m20 hst20 hle20 hk20
            have hfr20 := hk20.fr (T' := [(18, _), (16, _), (3, _), (5, _), (6, _), (8, _), (10, _), (11, _), (13, _), (15, _), (19, _)]) (.old rfl rfl <| .old rfl rfl <| .old rfl rfl <| .old rfl rfl <| .old rfl rfl <| .old rfl rfl <| .old rfl rfl <| .old rfl rfl <| .old rfl rfl <| .old rfl rfl <| .new rfl <| .nil)
            have hlh20 := hlh19.trans hle20
            clear hst19 hfr19 hk20
            exact ⟨k + 1, m20, by show (varsT (freshA t (1000 + ((genT [] t).ts.length : Int) + ((genT [] t).rs.length : Int)))).2.length - (k + 1) < (varsT (freshA t (1000 + ((genT [] t).ts.length : Int) + ((genT [] t).rs.length : Int)))).2.length - k; omega, ⟨hst20, hlh20, hfr20.sub (.cons rfl <| .cons rfl <| .cons rfl <| .cons rfl <| .cons rfl <| .cons rfl <| .cons rfl <| .cons rfl <| .cons rfl <| .cons rfl <| .cons rfl <| .nil), by show k + 1 ≤ (varsT (freshA t (1000 + ((genT [] t).ts.length : Int) + ((genT [] t).rs.length : Int)))).2.length; omega⟩⟩
        · try simp only [nq1, nq2, nq3, nq4, nq5, nq6, nq7, nq8, nq9, u8_eq] at hb95
          have hgek : k = (varsT (freshA t (1000 + ((genT [] t).ts.length : Int) + ((genT [] t).rs.length : Int)))).2.length := by omega
          refine wp_exit ?_
          refine hK48 _ _ ?_; clear hK48
          refine rp0 hst18 hfr18 (.cons rfl (ob_move rfl) <| .cons rfl (ob_add rfl rfl ⟨by omega, by omega⟩) <| .cons rfl (ob_assign rfl) <| .nil) ?_
          intro a19 w19 m19 hst19 hle19 hk19
          have hfr19 := hk19.fr (T' := [(19, _), (16, _), (3, _), (5, _), (6, _), (8, _), (10, _), (11, _), (13, _), (15, _), (18, _)]) (.old rfl rfl <| .old rfl rfl <| .old rfl rfl <| .old rfl rfl <| .old rfl rfl <| .old rfl rfl <| .old rfl rfl <| .old rfl rfl <| .old rfl rfl <| .old rfl rfl <| .new rfl <| .nil)
          have hlh19 := hlh18.trans hle19
          replace hlq50 := hlq50.trans hle19
          clear hst18 hfr18 hk19
          exact ⟨y + 1, m19, by show (varsT (freshA t 1000)).2.length - (y + 1) < (varsT (freshA t 1000)).2.length - y; omega, ⟨hst19, hlq50, hfr19.sub (.cons rfl <| .cons rfl <| .cons rfl <| .cons rfl <| .cons rfl <| .cons rfl <| .cons rfl <| .cons rfl <| .cons rfl <| .cons rfl <| .nil), by show y + 1 ≤ (varsT (freshA t 1000)).2.length; omega⟩⟩
      · try simp only [nq1, nq2, nq3, nq4, nq5, nq6, nq7, nq8, nq9, u8_eq] at hb89
        have hge : y = (varsT (freshA t 1000)).2.length := by omega
        refine wp_exit ?_
        refine hK43 _ _ ?_; clear hK43
        refine seq_any fun _ hK57 => ?_
        refine region_plain (fun _ => mixed) hst15 hfr15 (by kernel_rfl) (by kernel_rfl) (.cons rfl (ob_move rfl) <| .cons rfl (ob_move rfl) <| .cons rfl (ob_move rfl) <| .cons rfl (ob_move rfl) <| .cons rfl (ob_sub rfl rfl ⟨by omega, by omega⟩) <| .cons rfl (ob_move rfl) <| .cons rfl (ob_sub rfl rfl ⟨by omega, by omega⟩) <| .cons rfl (ob_eql rfl rfl) <| .cons rfl (ob_and rfl rfl rfl) <| .cons rfl (ob_move rfl) <| .cons rfl (ob_loadLA (j := 0) rfl rfl Try.isAgg35 Try.sizeOf35 rfl) <| .cons rfl (ob_loadS' rfl hc3 Try.isAgg27 Try.sizeOf27 rfl rfl) <| .cons rfl (ob_callE rfl (.cons rfl <| .cons rfl <| .nil) Try.call16 (fun w m hK => by have hle_ := KC.le hK; have hA := KC.agree hK; have h_o := h_o.mono hle_; have hgS := hgS.mono hle_; exact instance_c (s := genT [] t) (t := o) hA hgS h_o (by show wdT t ≤ _; omega) (by omega))) <| .cons rfl (ob_loadLA (j := 3) rfl rfl Try.isAgg35 Try.sizeOf35 rfl) <| .cons rfl (ob_loadS' rfl hc3 Try.isAgg27 Try.sizeOf27 rfl rfl) <| .cons rfl (ob_callE rfl (.cons rfl <| .cons rfl <| .nil) Try.call16 (fun w m hK => by have hle_ := KC.le hK; have hA := KC.agree hK; have h_o := h_o.mono hle_; have hgA := hgA.mono hle_; exact instance_c (s := genT [] (freshA t 1000)) (t := o) hA hgA h_o (by have := hwf 1000; show wdT (applyT _ t) ≤ _; omega) (by omega))) <| .cons rfl (ob_beql rfl rfl Try.underlying4) <| .cons rfl (ob_and rfl rfl rfl) <| .cons rfl (ob_move rfl) <| .cons rfl (ob_fieldAddrO (off := 0) rfl Try.underlying35 rfl rfl Try.sizeOf33 rfl) <| .cons rfl (ob_loadL (j := 3) rfl rfl Try.isAgg33 rfl) <| .cons rfl (ob_len rfl Try.underlying33) <| .cons rfl (ob_fieldAddrO (off := 0) rfl Try.underlying35 rfl rfl Try.sizeOf33 rfl) <| .cons rfl (ob_loadL (j := 0) rfl rfl Try.isAgg33 rfl) <| .cons rfl (ob_len rfl Try.underlying33) <| .cons rfl (ob_eql rfl rfl) <| .cons rfl (ob_and rfl rfl rfl) <| .cons rfl (ob_move rfl) <| .cons rfl (ob_fieldAddrO (off := 1) rfl Try.underlying35 rfl rfl Try.sizeOf33 rfl) <| .cons rfl (ob_loadL (j := 3) rfl rfl Try.isAgg33 rfl) <| .cons rfl (ob_len rfl Try.underlying33) <| .cons rfl (ob_fieldAddrO (off := 1) rfl Try.underlying35 rfl rfl Try.sizeOf33 rfl) <| .cons rfl (ob_loadL (j := 0) rfl rfl Try.isAgg33 rfl) <| .cons rfl (ob_len rfl Try.underlying33) <| .cons rfl (ob_eql rfl rfl) <| .cons rfl (ob_and rfl rfl rfl) <| .cons rfl (ob_assign rfl) <| .nil) ?_
        intro a16 w16 m16 hst16 hle16 hk16
        have hfr16 := hk16.fr (T' := [(18, _), (16, _), (4, _)]) (.old rfl rfl <| .old rfl rfl <| .new rfl <| .nil)
        have hlh16 := hlh15.trans hle16
        clear hst15 hfr15 hk16
        have e91 : ((genT [] (freshA t 1000)).ts.length : Int) = ((genT [] t).ts.length : Int) := by show ((varsT (freshA t 1000)).1.length : Int) = ((varsT t).1.length : Int); rw [hlA1]
        have e92 : ((genT [] (freshA t 1000)).rs.length : Int) = ((genT [] t).rs.length : Int) := by show ((varsT (freshA t 1000)).2.length : Int) = ((varsT t).2.length : Int); rw [hlA2]
        have e93 := fresh_again (o := o) hrt (k := 1000) (by omega)
        refine hK57 _ _ ?_; clear hK57
        refine wp_ret ?_
        repeat (with_reducible first | refine then_ret ?_ | refine block_ret ?_)
        exact fn_ret hst16 hfr16 rfl (.tmp rfl <| .nil) (by refine congrArg Value.bool ?_; rw [e91, e92, ← e93]; simp <;> omega)

end Go.Proofs.Ytmpponcnohakdaa
