/-
  'brocadelaw08': the walk of the law. Conditions: those of each theorem.
-/
import Derived.Test.YtmpponcnohakdaaPlain8e
namespace Go.Proofs.Ytmpponcnohakdaa
set_option linter.all false
set_option maxRecDepth 4000
open Go.RowKit
set_option maxHeartbeats 3200000 in
theorem schemeFree_c {w : World} {m : Mem} {o_env : Option Addr} {c_env : Nat} {env : List Ty} {t : Ty} {vs_t : List Value} {o : Ty} {vs_o : List Value} (hA : Agree w m) (h_env : Tys m o_env env.length c_env env) (h_t : TyR m t vs_t) (h_o : TyR m o vs_o) (he : ∀ x ∈ env, wdT x ≤ 100000000 ∧ cntT x ≤ 100000000) (hw_t : wdT t ≤ 100000000) (hc_t : cntT t ≤ 100000000) (hw_o : wdT o ≤ 100000000) (hc_o : cntT o ≤ 100000000) : FnV Try.prog 4 #[.slice o_env env.length c_env, .agg vs_t.toArray, .agg vs_o.toArray] w m (fun _ _ v => v = .bool true) := by
  have hb_env := h_env.big; have hc_env := h_env.cap
  obtain ⟨o_t, c_t, oL_t, cL_t, rfl, hk_t, hs_t, hi_t, hj_t, hr_t⟩ := h_t.open_
  have hbg_t := hk_t.big; have hcp_t := hk_t.cap; have hbs_t := hs_t.big; have hcs_t := hs_t.cap
  have hrw_t : RwR _ ⟨t.labels, t.rv⟩ _ := ⟨_, _, rfl, hs_t, hr_t⟩
  obtain ⟨o_o, c_o, oL_o, cL_o, rfl, hk_o, hs_o, hi_o, hj_o, hr_o⟩ := h_o.open_
  have hbg_o := hk_o.big; have hcp_o := hk_o.cap; have hbs_o := hs_o.big; have hcs_o := hs_o.cap
  have hrw_o : RwR _ ⟨o.labels, o.rv⟩ _ := ⟨_, _, rfl, hs_o, hr_o⟩
  refine fn_enter (vs := [_, _, _]) Try.func4 rfl rfl rfl fun a0 hfr0 => ?_
  have hst0 := st_enter hA (loc_nil [] _ w m)
  have hM : MLe m m := MLe.refl m
  have hwr := walk_room t ([], [])
  simp only [room, List.length_nil] at hwr
  refine seq_any fun _ hK1 => ?_
  refine rp0 hst0 hfr0 (.cons rfl (ob_box rfl rfl) <| .cons rfl (ob_box rfl rfl) <| .cons rfl (ob_assign rfl) <| .nil) ?_
  intro a1 w1 m1 hst1 hle1 hk1
  have hfr1 := hk1.fr (T' := [(0, _)]) (.old rfl rfl <| .nil)
  obtain ⟨g2, e2, hc4⟩ := hk1.ex 4 rfl
  replace hfr1 := hfr1.cons e2
  obtain ⟨g3, e3, hc5⟩ := hk1.ex 5 rfl
  replace hfr1 := hfr1.cons e3
  replace h_env := h_env.mono hle1
  replace h_t := h_t.mono hle1
  replace h_o := h_o.mono hle1
  clear hst0 hfr0 hk1
  refine hK1 _ _ ?_; clear hK1
  refine seq_any fun _ hK4 => ?_
  refine rp0 hst1 hfr1 (.cons rfl (ob_callE rfl (.nil) Try.call6 (fun w m hK => by have hle_ := KC.le hK; have hA := KC.agree hK; exact shown_c hA)) <| .cons rfl (ob_assign rfl) <| .nil) ?_
  intro a2 w2 m2 hst2 hle2 hk2
  have hfr2 := hk2.fr (T' := [(0, _), (4, _), (5, _), (7, _)]) (.old rfl rfl <| .old rfl rfl <| .old rfl rfl <| .new rfl <| .nil)
  replace h_env := h_env.mono hle2
  replace h_t := h_t.mono hle2
  replace h_o := h_o.mono hle2
  replace hc4 := hc4.mono hle2
  replace hc5 := hc5.mono hle2
  clear hst1 hfr1 hk2
  refine hK4 _ _ ?_; clear hK4
  refine seq_any fun _ hK5 => ?_
  refine seq_any fun _ hK6 => ?_
  refine rp0 hst2 hfr2 (.cons rfl (ob_loadS' rfl hc4 Try.isAgg27 Try.sizeOf27 rfl rfl) <| .cons rfl (ob_callE rfl (.cons rfl <| .nil) Try.call7 (fun w m hK => by have hle_ := KC.le hK; have hA := KC.agree hK; have h_t := h_t.mono hle_; exact count_c t hA h_t (by omega))) <| .cons rfl (ob_gtr rfl rfl) <| .cons rfl (ob_move rfl) <| .cons rfl (ob_loadS' rfl hc4 Try.isAgg27 Try.sizeOf27 rfl rfl) <| .cons rfl (ob_callE rfl (.cons rfl <| .nil) Try.call8 (fun w m hK => by have hle_ := KC.le hK; have hA := KC.agree hK; have h_t := h_t.mono hle_; exact right0R_c (t := t) hA h_t)) <| .cons rfl (ob_not rfl) <| .cons rfl (ob_or rfl rfl rfl) <| .cons rfl (ob_move rfl) <| .cons rfl (ob_loadS' rfl hc5 Try.isAgg27 Try.sizeOf27 rfl rfl) <| .cons rfl (ob_callE rfl (.cons rfl <| .nil) Try.call7 (fun w m hK => by have hle_ := KC.le hK; have hA := KC.agree hK; have h_o := h_o.mono hle_; exact count_c o hA h_o (by omega))) <| .cons rfl (ob_gtr rfl rfl) <| .cons rfl (ob_or rfl rfl rfl) <| .cons rfl (ob_move rfl) <| .cons rfl (ob_loadS' rfl hc5 Try.isAgg27 Try.sizeOf27 rfl rfl) <| .cons rfl (ob_callE rfl (.cons rfl <| .nil) Try.call8 (fun w m hK => by have hle_ := KC.le hK; have hA := KC.agree hK; have h_o := h_o.mono hle_; exact right0R_c (t := o) hA h_o)) <| .cons rfl (ob_not rfl) <| .cons rfl (ob_or rfl rfl rfl) <| .nil) ?_
  intro a3 w3 m3 hst3 hle3 hk3
  have hfr3 := hk3.fr (T' := [(0, _), (4, _), (5, _), (7, _), (39, _)]) (.old rfl rfl <| .old rfl rfl <| .old rfl rfl <| .old rfl rfl <| .new rfl <| .nil)
  replace h_env := h_env.mono hle3
  replace h_t := h_t.mono hle3
  replace h_o := h_o.mono hle3
  replace hc4 := hc4.mono hle3
  replace hc5 := hc5.mono hle3
  clear hst2 hfr2 hk3
  refine hK6 _ _ ?_; clear hK6
  refine cond_any hfr3 rfl rfl (fun hb39 => ?_) (fun hb39 => ?_)
  · try simp only [nq1, nq2, nq3, nq4, nq5, nq6, nq7, nq8, nq9, u8_eq] at hb39
    refine seq_any fun _ hK7 => ?_
    refine rp0 hst3 hfr3 (.cons rfl (ob_move rfl) <| .cons rfl (ob_assign rfl) <| .nil) ?_
    intro a4 w4 m4 hst4 hle4 hk4
    have hfr4 := hk4.fr (T' := [(6, _)]) (.new rfl <| .nil)
    clear hst3 hfr3 hk4
    refine hK7 _ _ ?_; clear hK7
    refine wp_ret ?_
    repeat (with_reducible first | refine then_ret ?_ | refine block_ret ?_)
    exact fn_ret hst4 hfr4 rfl (.tmp rfl <| .nil) (rfl)
  · try simp only [nq1, nq2, nq3, nq4, nq5, nq6, nq7, nq8, nq9, u8_eq] at hb39
    have hrt : rightT t = true := by simp_all
    have hro : rightT o = true := by simp_all
    refine wp_skip ?_
    refine hK5 _ _ ?_; clear hK5
    refine seq_any fun _ hK9 => ?_
    refine rp0 hst3 hfr3 (.cons rfl (ob_assign rfl) <| .nil) ?_
    intro a4 w4 m4 hst4 hle4 hk4
    have hfr4 := hk4.fr (T' := [(0, _), (4, _), (5, _), (7, _), (8, _)]) (.old rfl rfl <| .old rfl rfl <| .old rfl rfl <| .old rfl rfl <| .new rfl <| .nil)
    replace h_env := h_env.mono hle4
    replace h_t := h_t.mono hle4
    replace h_o := h_o.mono hle4
    replace hc4 := hc4.mono hle4
    replace hc5 := hc5.mono hle4
    clear hst3 hfr3 hk4
    have hst4 := hst4.more (r := .rowx (.slice none 0 0) 0 8 35 (MP.reads (fun m vs x => SchR m x vs) 8 [])) rowx_new List.nodup_nil (by simp [Res.blocks, rowBlock])
    have hsl_E : Schs m4 none ([] : List Sch).length 0 ([] : List Sch) := Sl.empty
    refine hK9 _ _ ?_; clear hK9
    refine seq_any fun _ hK10 => ?_
    refine seq_any fun _ hK11 => ?_
    refine rp0 hst4 hfr4 (.cons rfl (ob_assign rfl) <| .nil) ?_
    intro a5 w5 m5 hst5 hle5 hk5
    have hfr5 := hk5.fr (T' := [(0, _), (4, _), (5, _), (7, _), (8, _), (9, _)]) (.old rfl rfl <| .old rfl rfl <| .old rfl rfl <| .old rfl rfl <| .old rfl rfl <| .new rfl <| .nil)
    replace h_env := h_env.mono hle5
    replace h_t := h_t.mono hle5
    replace h_o := h_o.mono hle5
    replace hc4 := hc4.mono hle5
    replace hc5 := hc5.mono hle5
    replace hsl_E := hsl_E.mono hle5
    clear hst4 hfr4 hk5
    refine hK11 _ _ ?_; clear hK11
    refine wp_block ?_
    refine loop_any (T := [(0, _), (4, _), (5, _), (7, _)]) (fun (y : Nat × Option Addr × Nat × List Sch) => ([(8, .slice y.2.1 y.2.2.2.length y.2.2.1), (9, .int .i64 (y.1 : Int))] : List (Nat × Value))) (fun y => [.rowx (nz (.slice y.2.1 y.2.2.2.length y.2.2.1)) y.2.2.2.length 8 35 (MP.reads (fun m vs x => SchR m x vs) 8 y.2.2.2)]) (fun (y : Nat × Option Addr × Nat × List Sch) m => (fun (y : Nat) (geo : Option Addr) (gep : Nat) (ge : List Sch) => (y ≤ (min env.length 4)) ∧ (Schs m geo ge.length gep ge) ∧ (ge = (keepT (env.take y)).map bareS ∧ ge.length ≤ y)) y.1 y.2.1 y.2.2.1 y.2.2.2) (fun y => (min env.length 4) - y.1) ((0, none, 0, ([] : List Sch))) ⟨hst5, MLe.refl _, hfr5.sub (.cons rfl <| .cons rfl <| .cons rfl <| .cons rfl <| .cons rfl <| .cons rfl <| .nil), ⟨Nat.zero_le _, hsl_E, ⟨rfl, Nat.le_refl _⟩⟩⟩ fun y a6 w6 m6 hh6 => ?_
    have hst6 := hh6.st; have hle6 := hh6.le; have hfr6 := hh6.fr; have hrel := hh6.rel; clear hh6
    replace h_env := h_env.mono hle6
    replace h_t := h_t.mono hle6
    replace h_o := h_o.mono hle6
    replace hc4 := hc4.mono hle6
    replace hc5 := hc5.mono hle6
    clear hst5 hfr5
    obtain ⟨y, geo, gep, ge⟩ := y
    dsimp only at hrel hfr6 hst6
    obtain ⟨hyn, hsl_ge, hlen_ge⟩ := hrel
    have hlh6 := hle6
    refine seq_any fun _ hK13 => ?_
    refine seq_any fun _ hK14 => ?_
    refine rp0 hst6 hfr6 (.cons rfl (ob_move rfl) <| .cons rfl (ob_move rfl) <| .cons rfl (ob_len rfl Try.underlying22) <| .cons rfl (ob_lss rfl rfl) <| .cons rfl (ob_move rfl) <| .cons rfl (ob_move rfl) <| .cons rfl (ob_lss rfl rfl) <| .cons rfl (ob_and rfl rfl rfl) <| .nil) ?_
    intro a7 w7 m7 hst7 hle7 hk7
    have hfr7 := hk7.fr (T' := [(8, _), (9, _), (0, _), (4, _), (5, _), (7, _), (48, _)]) (.old rfl rfl <| .old rfl rfl <| .old rfl rfl <| .old rfl rfl <| .old rfl rfl <| .old rfl rfl <| .new rfl <| .nil)
    replace h_env := h_env.mono hle7
    replace h_t := h_t.mono hle7
    replace h_o := h_o.mono hle7
    replace hc4 := hc4.mono hle7
    replace hc5 := hc5.mono hle7
    replace hsl_ge := hsl_ge.mono hle7
    have hlh7 := hlh6.trans hle7
    clear hst6 hfr6 hk7
    refine hK14 _ _ ?_; clear hK14
    refine cond_any hfr7 rfl rfl (fun hb48 => ?_) (fun hb48 => ?_)
    · try simp only [nq1, nq2, nq3, nq4, nq5, nq6, nq7, nq8, nq9, u8_eq] at hb48
      refine wp_skip ?_
      refine hK13 _ _ ?_; clear hK13
      refine seq_any fun _ hK15 => ?_
      refine wp_block ?_
      refine seq_any fun _ hK16 => ?_
      obtain ⟨p17, vs17, x17, ho17, hd17, hm_x17, ht17, hcv17, hl17, hv17⟩ := h_env.nth (k := y) (by omega)
      cases ho17
      obtain ⟨o17, c17, oL17, cL17, rfl, hkd17, hs17, hi17, hj17, hr17⟩ := hv17.open_
      have hbg17 := hkd17.big; have hcp17 := hkd17.cap; have hbs17 := hs17.big; have hcs17 := hs17.cap
      have hrw17 : RwR _ ⟨x17.labels, x17.rv⟩ _ := ⟨_, _, rfl, hs17, hr17⟩
      refine rp0 hst7 hfr7 (.cons rfl (ob_move rfl) <| .cons rfl (ob_move rfl) <| .cons rfl (ob_indexAddr (k := y) rfl rfl Try.underlying22 Try.sizeOf27 rfl (by omega)) <| .cons rfl (ob_loadS' rfl hcv17 Try.isAgg27 Try.sizeOf27 rfl rfl) <| .cons rfl (ob_callE rfl (.cons rfl <| .nil) Try.call8 (fun w m hK => by have hle_ := KC.le hK; have hA := KC.agree hK; have hv17 := hv17.mono hle_; exact right0R_c (t := x17) hA hv17)) <| .cons rfl (ob_move rfl) <| .cons rfl (ob_move rfl) <| .cons rfl (ob_move rfl) <| .cons rfl (ob_indexAddr (k := y) rfl rfl Try.underlying22 Try.sizeOf27 rfl (by omega)) <| .cons rfl (ob_loadS' rfl hcv17 Try.isAgg27 Try.sizeOf27 rfl rfl) <| .cons rfl (ob_callE rfl (.cons rfl <| .nil) Try.call7 (fun w m hK => by have hle_ := KC.le hK; have hA := KC.agree hK; have hv17 := hv17.mono hle_; exact count_c x17 hA hv17 (Nat.le_trans (he _ hm_x17).2 (by omega)))) <| .cons rfl (ob_lss rfl rfl) <| .cons rfl (ob_and rfl rfl rfl) <| .nil) ?_
      intro a8 w8 m8 hst8 hle8 hk8
      have hfr8 := hk8.fr (T' := [(8, _), (9, _), (0, _), (4, _), (5, _), (7, _), (63, _)]) (.old rfl rfl <| .old rfl rfl <| .old rfl rfl <| .old rfl rfl <| .old rfl rfl <| .old rfl rfl <| .new rfl <| .nil)
      replace hsl_ge := hsl_ge.mono hle8
      replace hcv17 := hcv17.mono hle8
      replace hv17 := hv17.mono hle8
      have hlh8 := hlh7.trans hle8
      clear hst7 hfr7 hk8
      have hex := he x17 hm_x17
      refine hK16 _ _ ?_; clear hK16
      refine cond_any hfr8 rfl rfl (fun hb63 => ?_) (fun hb63 => ?_)
      · try simp only [nq1, nq2, nq3, nq4, nq5, nq6, nq7, nq8, nq9, u8_eq] at hb63
        have hkx : keepB x17 = true := by obtain ⟨⟨k1, k2⟩, k3⟩ := hb63; unfold keepB; rw [decide_eq_true k1, k2, decide_eq_true (show cntT x17 < 50 by omega)]; rfl
        have hrx : rightT x17 = true := keepB_right hkx
        refine region_cut 6 (by kernel_rfl) ?_
        refine ops_seq (tch := []) hst8 hfr8 (by kernel_rfl) (by kernel_rfl) (by kernel_rfl) (.cons rfl (ob_move rfl) <| .cons rfl (ob_move rfl) <| .cons rfl (ob_move rfl) <| .cons rfl (ob_indexAddr (k := y) rfl rfl Try.underlying22 Try.sizeOf27 rfl (by omega)) <| .cons rfl (ob_loadS' rfl hcv17 Try.isAgg27 Try.sizeOf27 rfl rfl) <| .cons rfl (ob_call (φ := MP.sch ⟨[], [], x17⟩) rfl (.cons rfl <| .nil) Try.call10 (fun w m hK => by have hle_ := KC.le hK; have hA := KC.agree hK; have hv17 := hv17.mono hle_; exact FnG.mono (bareR_c (t := x17) hA hv17 hrx (by omega)) fun _ _ _ _ h => h)) <| .nil) ?_
        intro a9 w9 m9 hst9 hle9 hk9
        have hfr9 := hk9.fr (T' := [(8, _), (9, _), (0, _), (4, _), (5, _), (7, _), (64, _)]) (.old rfl rfl <| .old rfl rfl <| .old rfl rfl <| .old rfl rfl <| .old rfl rfl <| .old rfl rfl <| .new rfl <| .nil)
        obtain ⟨yb, e18, hyb⟩ := hk9.ex 69 rfl
        replace hfr9 := hfr9.cons e18
        have hlh9 := hlh8.trans hle9
        clear hst8 hfr8 hk9
        refine ops_seq (tch := [(1, 0, (fun v => .rowx (nz v) _ _ _ _))]) hst9 hfr9 (by kernel_rfl) (by kernel_rfl) (by kernel_rfl) (.cons rfl (ob_buildSlice1 rfl Try.underlying32 Try.sizeOf35 Try.zeroValue35 rfl rfl rfl rfl) <| .consT rfl rfl (fun _ => rfl) rfl (ob_imgT 70 rfl rfl rfl fun y70 => ob_appendX (size := 8) (bytes := 136) (l := ge) (l' := [bareS x17]) rfl rfl (fun _ => by first | exact .inl rfl | exact .inr (.inl rfl)) Try.underlying32 Try.type35 rfl rfl rfl rfl (fun w m hK => Sl.one (R := fun m vs t => SchR m t vs) hK.2 rfl (hyb.mono (KC.le hK))) rfl (by decide) (by simp only [maxLen]; omega) (by omega)) <| .consA 71 rfl rfl <| .nil) ?_
        intro a10 w10 m10 hst10 hle10 hk10
        have hfr10 := hk10.fr (T' := [(9, _), (0, _), (4, _), (5, _), (7, _), (64, _), (69, _)]) (.old rfl rfl <| .old rfl rfl <| .old rfl rfl <| .old rfl rfl <| .old rfl rfl <| .old rfl rfl <| .old rfl rfl <| .nil)
        obtain ⟨⟨E_19o, E_19p⟩, e20, hsl_E_19⟩ := hk10.ex 71 rfl
        replace hfr10 := hfr10.cons e20
        replace hfr10 := hfr10.cons (hk10.same 8 rfl e20)
        replace hst10 := hst10.fin (L' := [_]) (.cons e20 <| .nil)
        have hlh10 := hlh9.trans hle10
        clear hst9 hfr9 hk10
        replace hsl_E_19 : Schs m10 E_19o (ge ++ [bareS x17]).length E_19p (ge ++ [bareS x17]) := hsl_E_19
        refine hK15 _ _ ?_; clear hK15
        refine rp0 hst10 hfr10 (.cons rfl (ob_move rfl) <| .cons rfl (ob_add rfl rfl ⟨by omega, by omega⟩) <| .cons rfl (ob_assign rfl) <| .nil) ?_
        intro a11 w11 m11 hst11 hle11 hk11
        have hfr11 := hk11.fr (T' := [(0, _), (4, _), (5, _), (7, _), (8, _), (9, _)]) (.old rfl rfl <| .old rfl rfl <| .old rfl rfl <| .old rfl rfl <| .old rfl rfl <| .new rfl <| .nil)
        replace hsl_E_19 := hsl_E_19.mono hle11
        have hlh11 := hlh10.trans hle11
        clear hst10 hfr10 hk11
        exact ⟨(y + 1, E_19o, E_19p, (ge ++ [bareS x17])), m11, by show (min env.length 4) - (y + 1) < (min env.length 4) - y; omega, ⟨hst11, hlh11, hfr11.sub (.cons rfl <| .cons rfl <| .cons rfl <| .cons rfl <| .cons rfl <| .cons rfl <| .nil), ⟨by show y + 1 ≤ (min env.length 4); omega, hsl_E_19, ⟨by rw [hlen_ge.1, ht17, keepT_snoc, if_pos hkx]; simp, by rw [List.length_append]; have := hlen_ge.2; simp; omega⟩⟩⟩⟩
      · try simp only [nq1, nq2, nq3, nq4, nq5, nq6, nq7, nq8, nq9, u8_eq] at hb63
        have hkx : keepB x17 = false := by unfold keepB; rcases hb63 with (h | h) | h; (rw [decide_eq_false (show ¬ deepT x17 ≤ 200 by omega)]; rfl); (rw [h]; simp); (rw [decide_eq_false (show ¬ cntT x17 < 50 by omega)]; simp)
        refine wp_skip ?_
        refine hK15 _ _ ?_; clear hK15
        refine rp0 hst8 hfr8 (.cons rfl (ob_move rfl) <| .cons rfl (ob_add rfl rfl ⟨by omega, by omega⟩) <| .cons rfl (ob_assign rfl) <| .nil) ?_
        intro a9 w9 m9 hst9 hle9 hk9
        have hfr9 := hk9.fr (T' := [(8, _), (0, _), (4, _), (5, _), (7, _), (9, _)]) (.old rfl rfl <| .old rfl rfl <| .old rfl rfl <| .old rfl rfl <| .old rfl rfl <| .new rfl <| .nil)
        replace hsl_ge := hsl_ge.mono hle9
        have hlh9 := hlh8.trans hle9
        clear hst8 hfr8 hk9
        exact ⟨(y + 1, geo, gep, ge), m9, by show (min env.length 4) - (y + 1) < (min env.length 4) - y; omega, ⟨hst9, hlh9, hfr9.sub (.cons rfl <| .cons rfl <| .cons rfl <| .cons rfl <| .cons rfl <| .cons rfl <| .nil), ⟨by show y + 1 ≤ (min env.length 4); omega, hsl_ge, ⟨by rw [hlen_ge.1, ht17, keepT_snoc, if_neg (by simp [hkx])], Nat.le_succ_of_le hlen_ge.2⟩⟩⟩⟩
    · try simp only [nq1, nq2, nq3, nq4, nq5, nq6, nq7, nq8, nq9, u8_eq] at hb48
      have hge : y = min env.length 4 := by omega
      obtain ⟨hgE, hgL⟩ := hlen_ge
      have hgc := bare_small hgE
      refine wp_exit ?_
      refine hK10 _ _ ?_; clear hK10
      refine seq_any fun _ hK21 => ?_
      replace hst7 := hst7.more (r := .free) trivial List.nodup_nil (by simp [Res.blocks])
      refine ra0 (tch := [(3, 1, (fun v => .blk v _)), (4, 1, (fun v => .blkx v _ _))]) hst7 hfr7 (.cons rfl (ob_move rfl) <| .cons rfl (ob_loadS' rfl hc4 Try.isAgg27 Try.sizeOf27 rfl rfl) <| .cons rfl (ob_call (φ := MP.sch (genT ge t)) rfl (.cons rfl <| .cons rfl <| .nil) Try.call11 (fun w m hK => by have hle_ := KC.le hK; have hA := KC.agree hK; have h_t := h_t.mono hle_; have hsl_ge := hsl_ge.mono hle_; exact FnG.mono (genR_c (env := ge) (t := t) hA hsl_ge h_t hrt (by omega) (by omega) (fun x hx => Nat.le_trans (hgc x hx) (by omega))) fun _ _ _ _ h => h)) <| .consT rfl rfl (fun _ => rfl) rfl (ob_allocL Try.zeroValue35 rfl) <| .consT rfl rfl (fun _ => rfl) rfl (ob_imgT 10 rfl rfl rfl fun y10 => ob_imgTX 74 rfl rfl rfl fun y74 => ob_storeF rfl rfl rfl rfl rfl Try.sizeOf35 rfl rfl rfl) <| .nil) ?_
      intro a8 w8 m8 hst8 hle8 hk8
      have hfr8 := hk8.fr (T' := [(8, _), (9, _), (4, _), (5, _), (7, _)]) (.old rfl rfl <| .old rfl rfl <| .old rfl rfl <| .old rfl rfl <| .old rfl rfl <| .nil)
      obtain ⟨gS, e22, _⟩ := hk8.ex 10 rfl
      replace hfr8 := hfr8.cons e22
      replace hst8 := hst8.fin (L' := [_, _]) (.cons e22 <| .cons e22 <| .nil)
      try simp only [List.take_succ_cons, List.take_zero, List.drop_succ_cons, List.drop_zero, List.cons_append, List.nil_append, List.append_nil, List.length_cons, List.length_nil, Nat.zero_add, Nat.reduceAdd] at hst8
      obtain ⟨⟨⟨⟨oS, cS⟩, oR, cR⟩, ⟨oT, cT⟩, oU, cU⟩, hgS, hst8⟩ := hst8.unx (k := 1) rfl (fun _ => rfl)
      replace h_t := h_t.mono hle8
      replace h_o := h_o.mono hle8
      replace hc4 := hc4.mono hle8
      replace hc5 := hc5.mono hle8
      replace hsl_ge := hsl_ge.mono hle8
      have hlh8 := hlh7.trans hle8
      clear hst7 hfr7 hk8
      obtain ⟨S9, hS9⟩ : ∃ S9, S9 = genT ge t := ⟨_, rfl⟩
      have hgp := gen_parts ge t
      rw [← hS9] at hgS hgp hst8
      have hty9 : S9.ty = t := by rw [hS9]; rfl
      obtain ⟨hgp1, hgp2⟩ := hgp
      obtain ⟨hsT, hsR, -⟩ := schV_open hgS
      have hwv : (varsT t).1.length + (varsT t).2.length ≤ 2 * cntT t := by show (walkT t ([], [])).1.length + (walkT t ([], [])).2.length ≤ _; omega
      refine hK21 _ _ ?_; clear hK21
      refine seq_any fun _ hK24 => ?_
      refine ra0 (tch := []) hst8 hfr8 (.cons rfl (ob_loadLA (j := 1) rfl rfl Try.isAgg35 Try.sizeOf35 rfl) <| .cons rfl (ob_call (φ := MP.two (freeI S9).1 (freeI S9).2) rfl (.cons rfl <| .nil) Try.call18 (fun w m hK => by have hle_ := KC.le hK; have hA := KC.agree hK; have hgS := hgS.mono hle_; exact FnG.mono (free_c (s := S9) hA hgS (by rw [hty9]; omega)) fun _ _ _ _ h => h)) <| .cons rfl (ob_imgV 77 rfl rfl rfl fun y77 => ob_move rfl) <| .cons rfl (ob_imgV 75 rfl rfl rfl fun y75 => ob_extract rfl rfl) <| .cons rfl (ob_imgV 75 rfl rfl rfl fun y75 => ob_extract rfl rfl) <| .consA 78 rfl rfl <| .consA 79 rfl rfl <| .nil) ?_
      intro a9 w9 m9 hst9 hle9 hk9
      have hfr9 := hk9.fr (T' := [(8, _), (9, _), (4, _), (5, _), (7, _), (10, _)]) (.old rfl rfl <| .old rfl rfl <| .old rfl rfl <| .old rfl rfl <| .old rfl rfl <| .old rfl rfl <| .nil)
      obtain ⟨⟨⟨o1, c1⟩, q1⟩, e25, hI1, _⟩ := hk9.ex 78 rfl
      obtain ⟨⟨q2, o2, c2⟩, e26, _, hI2⟩ := hk9.ex 79 rfl
      replace hfr9 := hfr9.cons (hk9.same 11 rfl e25)
      replace hfr9 := hfr9.cons (hk9.same 12 rfl e26)
      replace h_t := h_t.mono hle9
      replace h_o := h_o.mono hle9
      replace hc4 := hc4.mono hle9
      replace hc5 := hc5.mono hle9
      replace hsl_ge := hsl_ge.mono hle9
      replace hsT := hsT.mono hle9
      replace hsR := hsR.mono hle9
      have hlh9 := hlh8.trans hle9
      clear hst8 hfr8 hk9
      refine hK24 _ _ ?_; clear hK24
      refine seq_any fun _ hK27 => ?_
      refine ra0 (tch := []) hst9 hfr9 (.cons rfl (ob_loadS' rfl hc4 Try.isAgg27 Try.sizeOf27 rfl rfl) <| .cons rfl (ob_call (φ := MP.two (varsT t).1 (varsT t).2) rfl (.cons rfl <| .nil) Try.call19 (fun w m hK => by have hle_ := KC.le hK; have hA := KC.agree hK; have h_t := h_t.mono hle_; exact FnG.mono (vars0R_c (t := t) hA h_t (by omega)) fun _ _ _ _ h => h)) <| .cons rfl (ob_imgV 82 rfl rfl rfl fun y82 => ob_move rfl) <| .cons rfl (ob_imgV 80 rfl rfl rfl fun y80 => ob_extract rfl rfl) <| .cons rfl (ob_imgV 80 rfl rfl rfl fun y80 => ob_extract rfl rfl) <| .consA 83 rfl rfl <| .consA 84 rfl rfl <| .nil) ?_
      intro a10 w10 m10 hst10 hle10 hk10
      have hfr10 := hk10.fr (T' := [(8, _), (9, _), (4, _), (5, _), (7, _), (10, _), (11, _), (12, _)]) (.old rfl rfl <| .old rfl rfl <| .old rfl rfl <| .old rfl rfl <| .old rfl rfl <| .old rfl rfl <| .old rfl rfl <| .old rfl rfl <| .nil)
      obtain ⟨⟨⟨o3, c3⟩, q3⟩, e28, hI3, _⟩ := hk10.ex 83 rfl
      obtain ⟨⟨q4, o4, c4⟩, e29, _, hI4⟩ := hk10.ex 84 rfl
      replace hfr10 := hfr10.cons (hk10.same 13 rfl e28)
      replace hfr10 := hfr10.cons (hk10.same 14 rfl e29)
      replace h_t := h_t.mono hle10
      replace h_o := h_o.mono hle10
      replace hc4 := hc4.mono hle10
      replace hc5 := hc5.mono hle10
      replace hsl_ge := hsl_ge.mono hle10
      replace hsT := hsT.mono hle10
      replace hsR := hsR.mono hle10
      have hlh10 := hlh9.trans hle10
      clear hst9 hfr9 hk10
      refine hK27 _ _ ?_; clear hK27
      refine seq_any fun _ hK30 => ?_
      refine seq_any fun _ hK31 => ?_
      refine rp0 hst10 hfr10 (.cons rfl (ob_move rfl) <| .cons rfl (ob_len rfl Try.underlying33) <| .cons rfl (ob_fieldAddrO (off := 0) rfl Try.underlying35 rfl rfl Try.sizeOf33 rfl) <| .cons rfl (ob_loadL (j := 1) rfl rfl Try.isAgg33 rfl) <| .cons rfl (ob_len rfl Try.underlying33) <| .cons rfl (ob_add rfl rfl ⟨by omega, by omega⟩) <| .cons rfl (ob_move rfl) <| .cons rfl (ob_len rfl Try.underlying33) <| .cons rfl (ob_neq rfl rfl) <| .cons rfl (ob_move rfl) <| .cons rfl (ob_move rfl) <| .cons rfl (ob_len rfl Try.underlying33) <| .cons rfl (ob_fieldAddrO (off := 1) rfl Try.underlying35 rfl rfl Try.sizeOf33 rfl) <| .cons rfl (ob_loadL (j := 1) rfl rfl Try.isAgg33 rfl) <| .cons rfl (ob_len rfl Try.underlying33) <| .cons rfl (ob_add rfl rfl ⟨by omega, by omega⟩) <| .cons rfl (ob_move rfl) <| .cons rfl (ob_len rfl Try.underlying33) <| .cons rfl (ob_neq rfl rfl) <| .cons rfl (ob_or rfl rfl rfl) <| .nil) ?_
      intro a11 w11 m11 hst11 hle11 hk11
      have hfr11 := hk11.fr (T' := [(8, _), (9, _), (4, _), (5, _), (7, _), (10, _), (104, _)]) (.old rfl rfl <| .old rfl rfl <| .old rfl rfl <| .old rfl rfl <| .old rfl rfl <| .old rfl rfl <| .new rfl <| .nil)
      replace h_t := h_t.mono hle11
      replace h_o := h_o.mono hle11
      replace hc4 := hc4.mono hle11
      replace hc5 := hc5.mono hle11
      replace hsl_ge := hsl_ge.mono hle11
      replace hsT := hsT.mono hle11
      replace hsR := hsR.mono hle11
      have hlh11 := hlh10.trans hle11
      clear hst10 hfr10 hk11
      refine hK31 _ _ ?_; clear hK31
      refine cond_any hfr11 rfl rfl (fun hb104 => ?_) (fun hb104 => ?_)
      · exfalso; simp at hb104; omega
      · try simp only [nq1, nq2, nq3, nq4, nq5, nq6, nq7, nq8, nq9, u8_eq] at hb104
        refine wp_skip ?_
        refine hK30 _ _ ?_; clear hK30
        refine seq_any fun _ hK32 => ?_
        refine seq_any fun _ hK33 => ?_
        refine rp0 hst11 hfr11 (.cons rfl (ob_assign rfl) <| .nil) ?_
        intro a12 w12 m12 hst12 hle12 hk12
        have hfr12 := hk12.fr (T' := [(8, _), (9, _), (4, _), (5, _), (7, _), (10, _), (15, _)]) (.old rfl rfl <| .old rfl rfl <| .old rfl rfl <| .old rfl rfl <| .old rfl rfl <| .old rfl rfl <| .new rfl <| .nil)
        replace h_t := h_t.mono hle12
        replace h_o := h_o.mono hle12
        replace hc4 := hc4.mono hle12
        replace hc5 := hc5.mono hle12
        replace hsl_ge := hsl_ge.mono hle12
        replace hsT := hsT.mono hle12
        replace hsR := hsR.mono hle12
        have hlh12 := hlh11.trans hle12
        clear hst11 hfr11 hk12
        refine hK33 _ _ ?_; clear hK33
        refine wp_block ?_
        have hlq34 := hlh12
        refine loop_any (T := [(8, _), (9, _), (4, _), (5, _), (7, _), (10, _)]) (fun (y : Nat) => ([(15, .int .i64 (y : Int))] : List (Nat × Value))) (fun _ => _) (fun (y : Nat) m => (y ≤ ge.length)) (fun y => ge.length - y) (0) ⟨hst12, MLe.refl _, hfr12.sub (.cons rfl <| .cons rfl <| .cons rfl <| .cons rfl <| .cons rfl <| .cons rfl <| .cons rfl <| .nil), Nat.zero_le _⟩ fun y a13 w13 m13 hh13 => ?_
        have hst13 := hh13.st; have hle13 := hh13.le; have hfr13 := hh13.fr; have hrel := hh13.rel; clear hh13
        replace h_t := h_t.mono hle13
        replace h_o := h_o.mono hle13
        replace hc4 := hc4.mono hle13
        replace hc5 := hc5.mono hle13
        replace hsl_ge := hsl_ge.mono hle13
        replace hsT := hsT.mono hle13
        replace hsR := hsR.mono hle13
        clear hst12 hfr12
        have hyn := hrel
        have hlh13 := hle13
        refine seq_any fun _ hK35 => ?_
        refine seq_any fun _ hK36 => ?_
        refine rp0 hst13 hfr13 (.cons rfl (ob_move rfl) <| .cons rfl (ob_move rfl) <| .cons rfl (ob_len rfl Try.underlying32) <| .cons rfl (ob_lss rfl rfl) <| .nil) ?_
        intro a14 w14 m14 hst14 hle14 hk14
        have hfr14 := hk14.fr (T' := [(15, _), (8, _), (9, _), (4, _), (5, _), (7, _), (10, _), (108, _)]) (.old rfl rfl <| .old rfl rfl <| .old rfl rfl <| .old rfl rfl <| .old rfl rfl <| .old rfl rfl <| .old rfl rfl <| .new rfl <| .nil)
        replace h_t := h_t.mono hle14
        replace h_o := h_o.mono hle14
        replace hc4 := hc4.mono hle14
        replace hc5 := hc5.mono hle14
        replace hsl_ge := hsl_ge.mono hle14
        replace hsT := hsT.mono hle14
        replace hsR := hsR.mono hle14
        have hlh14 := hlh13.trans hle14
        clear hst13 hfr13 hk14
        refine hK36 _ _ ?_; clear hK36
        refine cond_any hfr14 rfl rfl (fun hb108 => ?_) (fun hb108 => ?_)
        · try simp only [nq1, nq2, nq3, nq4, nq5, nq6, nq7, nq8, nq9, u8_eq] at hb108
          refine wp_skip ?_
          refine hK35 _ _ ?_; clear hK35
          refine seq_any fun _ hK37 => ?_
          refine wp_block ?_
          refine seq_any fun _ hK38 => ?_
          obtain ⟨p39, vs39, x39, ho39, hd39, hm_x39, ht39, hcv39, hl39, hv39⟩ := hsl_ge.nth (k := y) (by omega)
          cases ho39
          obtain ⟨⟨⟨⟨oa39, ca39⟩, ob39, cb39⟩, ⟨oc39, cc39⟩, od39, cd39⟩, rfl, hts39, hrs39, hty39⟩ := id hv39
          have hb139 := hts39.big; have hb239 := hrs39.big
          have hgx := hgc x39 hm_x39
          have hax := gen_apart hm_x39 t
          rw [← hS9] at hax
          have hwx := walk_room x39.ty ([], [])
          simp only [room, List.length_nil] at hwx
          have hlx1 := lessI_len (walkT x39.ty ([], [])).1 x39.ts
          have hlx2 := lessI_len (walkT x39.ty ([], [])).2 x39.rs
          have hfl1 : (freeI x39).1.length ≤ 1000000 := by show (lessI (walkT x39.ty ([], [])).1 x39.ts).length ≤ _; omega
          have hfl2 : (freeI x39).2.length ≤ 1000000 := by show (lessI (walkT x39.ty ([], [])).2 x39.rs).length ≤ _; omega
          refine ra0 (tch := []) hst14 hfr14 (.cons rfl (ob_move rfl) <| .cons rfl (ob_move rfl) <| .cons rfl (ob_indexAddr (k := y) rfl rfl Try.underlying32 Try.sizeOf35 rfl (by omega)) <| .cons rfl (ob_loadS' rfl hcv39 Try.isAgg35 Try.sizeOf35 rfl rfl) <| .cons rfl (ob_call (φ := MP.two (freeI x39).1 (freeI x39).2) rfl (.cons rfl <| .nil) Try.call18 (fun w m hK => by have hle_ := KC.le hK; have hA := KC.agree hK; have hv39 := hv39.mono hle_; exact FnG.mono (free_c (s := x39) hA hv39 (by omega)) fun _ _ _ _ h => h)) <| .cons rfl (ob_imgV 116 rfl rfl rfl fun y116 => ob_move rfl) <| .cons rfl (ob_imgV 111 rfl rfl rfl fun y111 => ob_extract rfl rfl) <| .cons rfl (ob_imgV 111 rfl rfl rfl fun y111 => ob_extract rfl rfl) <| .consA 117 rfl rfl <| .consA 118 rfl rfl <| .nil) ?_
          intro a15 w15 m15 hst15 hle15 hk15
          have hfr15 := hk15.fr (T' := [(15, _), (8, _), (9, _), (4, _), (5, _), (7, _), (10, _)]) (.old rfl rfl <| .old rfl rfl <| .old rfl rfl <| .old rfl rfl <| .old rfl rfl <| .old rfl rfl <| .old rfl rfl <| .nil)
          obtain ⟨⟨⟨o5, c5⟩, q5⟩, e40, hI5, _⟩ := hk15.ex 117 rfl
          obtain ⟨⟨q6, o6, c6⟩, e41, _, hI6⟩ := hk15.ex 118 rfl
          replace hfr15 := hfr15.cons (hk15.same 16 rfl e40)
          replace hfr15 := hfr15.cons (hk15.same 17 rfl e41)
          replace hsT := hsT.mono hle15
          replace hsR := hsR.mono hle15
          have hlh15 := hlh14.trans hle15
          clear hst14 hfr14 hk15
          refine hK38 _ _ ?_; clear hK38
          refine seq_any fun _ hK42 => ?_
          refine seq_any fun _ hK43 => ?_
          refine rp0 hst15 hfr15 (.cons rfl (ob_assign rfl) <| .nil) ?_
          intro a16 w16 m16 hst16 hle16 hk16
          have hfr16 := hk16.fr (T' := [(15, _), (8, _), (9, _), (4, _), (5, _), (7, _), (10, _), (16, _), (17, _), (18, _)]) (.old rfl rfl <| .old rfl rfl <| .old rfl rfl <| .old rfl rfl <| .old rfl rfl <| .old rfl rfl <| .old rfl rfl <| .old rfl rfl <| .old rfl rfl <| .new rfl <| .nil)
          replace hsT := hsT.mono hle16
          replace hsR := hsR.mono hle16
          replace hI5 := hI5.mono hle16
          replace hI6 := hI6.mono hle16
          have hlh16 := hlh15.trans hle16
          clear hst15 hfr15 hk16
          refine hK43 _ _ ?_; clear hK43
          refine wp_block ?_
          have hlq44 := hlh16
          refine loop_any (T := [(15, _), (8, _), (9, _), (4, _), (5, _), (7, _), (10, _), (16, _), (17, _)]) (fun (k : Nat) => ([(18, .int .i64 (k : Int))] : List (Nat × Value))) (fun _ => _) (fun (k : Nat) m => (k ≤ (freeI x39).1.length)) (fun k => (freeI x39).1.length - k) (0) ⟨hst16, MLe.refl _, hfr16.sub (.cons rfl <| .cons rfl <| .cons rfl <| .cons rfl <| .cons rfl <| .cons rfl <| .cons rfl <| .cons rfl <| .cons rfl <| .cons rfl <| .nil), Nat.zero_le _⟩ fun k a17 w17 m17 hh17 => ?_
          have hst17 := hh17.st; have hle17 := hh17.le; have hfr17 := hh17.fr; have hrel := hh17.rel; clear hh17
          replace hsT := hsT.mono hle17
          replace hsR := hsR.mono hle17
          replace hI5 := hI5.mono hle17
          replace hI6 := hI6.mono hle17
          clear hst16 hfr16
          have hkn := hrel
          replace hlq44 := hlq44.trans hle17
          have hlh17 := hle17
          refine seq_any fun _ hK45 => ?_
          refine seq_any fun _ hK46 => ?_
          refine rp0 hst17 hfr17 (.cons rfl (ob_move rfl) <| .cons rfl (ob_move rfl) <| .cons rfl (ob_len rfl Try.underlying33) <| .cons rfl (ob_lss rfl rfl) <| .nil) ?_
          intro a18 w18 m18 hst18 hle18 hk18
          have hfr18 := hk18.fr (T' := [(18, _), (15, _), (8, _), (9, _), (4, _), (5, _), (7, _), (10, _), (16, _), (17, _), (122, _)]) (.old rfl rfl <| .old rfl rfl <| .old rfl rfl <| .old rfl rfl <| .old rfl rfl <| .old rfl rfl <| .old rfl rfl <| .old rfl rfl <| .old rfl rfl <| .old rfl rfl <| .new rfl <| .nil)
          replace hsT := hsT.mono hle18
          replace hsR := hsR.mono hle18
          replace hI5 := hI5.mono hle18
          replace hI6 := hI6.mono hle18
          have hlh18 := hlh17.trans hle18
          replace hlq44 := hlq44.trans hle18
          clear hst17 hfr17 hk18
          refine hK46 _ _ ?_; clear hK46
          refine cond_any hfr18 rfl rfl (fun hb122 => ?_) (fun hb122 => ?_)
          · try simp only [nq1, nq2, nq3, nq4, nq5, nq6, nq7, nq8, nq9, u8_eq] at hb122
            refine wp_skip ?_
            refine hK45 _ _ ?_; clear hK45
            refine seq_any fun _ hK47 => ?_
            refine wp_block ?_
            refine seq_any fun _ hK48 => ?_
            obtain ⟨p49, vs49, x49, ho49, hd49, hm_x49, ht49, hcv49, hl49, hv49⟩ := hI5.nth (k := k) (by omega)
            cases ho49
            subst hv49
            refine region_plain (fun _ => mixed) hst18 hfr18 (by kernel_rfl) (by kernel_rfl) (.cons rfl (ob_fieldAddrO (off := 0) rfl Try.underlying35 rfl rfl Try.sizeOf33 rfl) <| .cons rfl (ob_loadL (j := 1) rfl rfl Try.isAgg33 rfl) <| .cons rfl (ob_move rfl) <| .cons rfl (ob_move rfl) <| .cons rfl (ob_indexAddr (k := k) rfl rfl Try.underlying33 Try.sizeOf3 rfl (by omega)) <| .cons rfl (ob_load1' rfl hcv49 Try.isAgg3 rfl) <| .cons rfl (ob_callE rfl (.cons rfl <| .cons rfl <| .nil) Try.call20 (fun w m hK => by have hle_ := KC.le hK; have hA := KC.agree hK; have hsT := hsT.mono hle_; exact in_c (l := S9.ts) (n := x49) hA hsT)) <| .nil) ?_
            intro a19 w19 m19 hst19 hle19 hk19
            have hfr19 := hk19.fr (T' := [(18, _), (15, _), (8, _), (9, _), (4, _), (5, _), (7, _), (10, _), (16, _), (17, _), (131, _)]) (.old rfl rfl <| .old rfl rfl <| .old rfl rfl <| .old rfl rfl <| .old rfl rfl <| .old rfl rfl <| .old rfl rfl <| .old rfl rfl <| .old rfl rfl <| .old rfl rfl <| .new rfl <| .nil)
            have hlh19 := hlh18.trans hle19
            clear hst18 hfr18 hk19
            refine hK48 _ _ ?_; clear hK48
            refine cond_any hfr19 rfl rfl (fun hb131 => ?_) (fun hb131 => ?_)
            · exact absurd (of_decide_eq_true hb131) (hax.1 x49 hm_x49)
            · try simp only [nq1, nq2, nq3, nq4, nq5, nq6, nq7, nq8, nq9, u8_eq] at hb131
              refine wp_skip ?_
              refine hK47 _ _ ?_; clear hK47
              refine rp0 hst19 hfr19 (.cons rfl (ob_move rfl) <| .cons rfl (ob_add rfl rfl ⟨by omega, by omega⟩) <| .cons rfl (ob_assign rfl) <| .nil) ?_
              intro a20 w20 m20 hst20 hle20 hk20
              have hfr20 := hk20.fr (T' := [(15, _), (8, _), (9, _), (4, _), (5, _), (7, _), (10, _), (16, _), (17, _), (18, _)]) (.old rfl rfl <| .old rfl rfl <| .old rfl rfl <| .old rfl rfl <| .old rfl rfl <| .old rfl rfl <| .old rfl rfl <| .old rfl rfl <| .old rfl rfl <| .new rfl <| .nil)
              have hlh20 := hlh19.trans hle20
              clear hst19 hfr19 hk20
              exact ⟨k + 1, m20, by show (freeI x39).1.length - (k + 1) < (freeI x39).1.length - k; omega, ⟨hst20, hlh20, hfr20.sub (.cons rfl <| .cons rfl <| .cons rfl <| .cons rfl <| .cons rfl <| .cons rfl <| .cons rfl <| .cons rfl <| .cons rfl <| .cons rfl <| .nil), by show k + 1 ≤ (freeI x39).1.length; omega⟩⟩
          · try simp only [nq1, nq2, nq3, nq4, nq5, nq6, nq7, nq8, nq9, u8_eq] at hb122
            have hgek : k = (freeI x39).1.length := by omega
            refine wp_exit ?_
            refine hK42 _ _ ?_; clear hK42
            refine seq_any fun _ hK50 => ?_
            refine rp0 hst18 hfr18 (.cons rfl (ob_assign rfl) <| .nil) ?_
            intro a19 w19 m19 hst19 hle19 hk19
            have hfr19 := hk19.fr (T' := [(18, _), (15, _), (8, _), (9, _), (4, _), (5, _), (7, _), (10, _), (17, _), (19, _)]) (.old rfl rfl <| .old rfl rfl <| .old rfl rfl <| .old rfl rfl <| .old rfl rfl <| .old rfl rfl <| .old rfl rfl <| .old rfl rfl <| .old rfl rfl <| .new rfl <| .nil)
            replace hsR := hsR.mono hle19
            replace hI6 := hI6.mono hle19
            have hlh19 := hlh18.trans hle19
            replace hlq44 := hlq44.trans hle19
            clear hst18 hfr18 hk19
            refine hK50 _ _ ?_; clear hK50
            refine wp_block ?_
            have hlq51 := hlh19
            refine loop_any (T := [(18, _), (15, _), (8, _), (9, _), (4, _), (5, _), (7, _), (10, _), (17, _)]) (fun (k : Nat) => ([(19, .int .i64 (k : Int))] : List (Nat × Value))) (fun _ => _) (fun (k : Nat) m => (k ≤ (freeI x39).2.length)) (fun k => (freeI x39).2.length - k) (0) ⟨hst19, MLe.refl _, hfr19.sub (.cons rfl <| .cons rfl <| .cons rfl <| .cons rfl <| .cons rfl <| .cons rfl <| .cons rfl <| .cons rfl <| .cons rfl <| .cons rfl <| .nil), Nat.zero_le _⟩ fun k a20 w20 m20 hh20 => ?_
            have hst20 := hh20.st; have hle20 := hh20.le; have hfr20 := hh20.fr; have hrel := hh20.rel; clear hh20
            replace hsR := hsR.mono hle20
            replace hI6 := hI6.mono hle20
            clear hst19 hfr19
            have hkn := hrel
            replace hlq44 := hlq44.trans hle20
            have hlh20 := hle20
            refine seq_any fun _ hK52 => ?_
            refine seq_any fun _ hK53 => ?_
            refine rp0 hst20 hfr20 (.cons rfl (ob_move rfl) <| .cons rfl (ob_move rfl) <| .cons rfl (ob_len rfl Try.underlying33) <| .cons rfl (ob_lss rfl rfl) <| .nil) ?_
            intro a21 w21 m21 hst21 hle21 hk21
            have hfr21 := hk21.fr (T' := [(19, _), (18, _), (15, _), (8, _), (9, _), (4, _), (5, _), (7, _), (10, _), (17, _), (135, _)]) (.old rfl rfl <| .old rfl rfl <| .old rfl rfl <| .old rfl rfl <| .old rfl rfl <| .old rfl rfl <| .old rfl rfl <| .old rfl rfl <| .old rfl rfl <| .old rfl rfl <| .new rfl <| .nil)
            replace hsR := hsR.mono hle21
            replace hI6 := hI6.mono hle21
            have hlh21 := hlh20.trans hle21
            replace hlq44 := hlq44.trans hle21
            clear hst20 hfr20 hk21
            refine hK53 _ _ ?_; clear hK53
            refine cond_any hfr21 rfl rfl (fun hb135 => ?_) (fun hb135 => ?_)
            · try simp only [nq1, nq2, nq3, nq4, nq5, nq6, nq7, nq8, nq9, u8_eq] at hb135
              refine wp_skip ?_
              refine hK52 _ _ ?_; clear hK52
              refine seq_any fun _ hK54 => ?_
              refine wp_block ?_
              refine seq_any fun _ hK55 => ?_
              obtain ⟨p56, vs56, x56, ho56, hd56, hm_x56, ht56, hcv56, hl56, hv56⟩ := hI6.nth (k := k) (by omega)
              cases ho56
              subst hv56
              refine region_plain (fun _ => mixed) hst21 hfr21 (by kernel_rfl) (by kernel_rfl) (.cons rfl (ob_fieldAddrO (off := 1) rfl Try.underlying35 rfl rfl Try.sizeOf33 rfl) <| .cons rfl (ob_loadL (j := 1) rfl rfl Try.isAgg33 rfl) <| .cons rfl (ob_move rfl) <| .cons rfl (ob_move rfl) <| .cons rfl (ob_indexAddr (k := k) rfl rfl Try.underlying33 Try.sizeOf3 rfl (by omega)) <| .cons rfl (ob_load1' rfl hcv56 Try.isAgg3 rfl) <| .cons rfl (ob_callE rfl (.cons rfl <| .cons rfl <| .nil) Try.call20 (fun w m hK => by have hle_ := KC.le hK; have hA := KC.agree hK; have hsR := hsR.mono hle_; exact in_c (l := S9.rs) (n := x56) hA hsR)) <| .nil) ?_
              intro a22 w22 m22 hst22 hle22 hk22
              have hfr22 := hk22.fr (T' := [(19, _), (18, _), (15, _), (8, _), (9, _), (4, _), (5, _), (7, _), (10, _), (17, _), (144, _)]) (.old rfl rfl <| .old rfl rfl <| .old rfl rfl <| .old rfl rfl <| .old rfl rfl <| .old rfl rfl <| .old rfl rfl <| .old rfl rfl <| .old rfl rfl <| .old rfl rfl <| .new rfl <| .nil)
              have hlh22 := hlh21.trans hle22
              clear hst21 hfr21 hk22
              refine hK55 _ _ ?_; clear hK55
              refine cond_any hfr22 rfl rfl (fun hb144 => ?_) (fun hb144 => ?_)
              · exact absurd (of_decide_eq_true hb144) (hax.2 x56 hm_x56)
              · try simp only [nq1, nq2, nq3, nq4, nq5, nq6, nq7, nq8, nq9, u8_eq] at hb144
                refine wp_skip ?_
                refine hK54 _ _ ?_; clear hK54
                refine rp0 hst22 hfr22 (.cons rfl (ob_move rfl) <| .cons rfl (ob_add rfl rfl ⟨by omega, by omega⟩) <| .cons rfl (ob_assign rfl) <| .nil) ?_
                intro a23 w23 m23 hst23 hle23 hk23
                have hfr23 := hk23.fr (T' := [(18, _), (15, _), (8, _), (9, _), (4, _), (5, _), (7, _), (10, _), (17, _), (19, _)]) (.old rfl rfl <| .old rfl rfl <| .old rfl rfl <| .old rfl rfl <| .old rfl rfl <| .old rfl rfl <| .old rfl rfl <| .old rfl rfl <| .old rfl rfl <| .new rfl <| .nil)
                have hlh23 := hlh22.trans hle23
                clear hst22 hfr22 hk23
                exact ⟨k + 1, m23, by show (freeI x39).2.length - (k + 1) < (freeI x39).2.length - k; omega, ⟨hst23, hlh23, hfr23.sub (.cons rfl <| .cons rfl <| .cons rfl <| .cons rfl <| .cons rfl <| .cons rfl <| .cons rfl <| .cons rfl <| .cons rfl <| .cons rfl <| .nil), by show k + 1 ≤ (freeI x39).2.length; omega⟩⟩
            · try simp only [nq1, nq2, nq3, nq4, nq5, nq6, nq7, nq8, nq9, u8_eq] at hb135
              have hgek : k = (freeI x39).2.length := by omega
              refine wp_exit ?_
              refine hK37 _ _ ?_; clear hK37
              refine rp0 hst21 hfr21 (.cons rfl (ob_move rfl) <| .cons rfl (ob_add rfl rfl ⟨by omega, by omega⟩) <| .cons rfl (ob_assign rfl) <| .nil) ?_
              intro a22 w22 m22 hst22 hle22 hk22
              have hfr22 := hk22.fr (T' := [(19, _), (18, _), (8, _), (9, _), (4, _), (5, _), (7, _), (10, _), (15, _)]) (.old rfl rfl <| .old rfl rfl <| .old rfl rfl <| .old rfl rfl <| .old rfl rfl <| .old rfl rfl <| .old rfl rfl <| .old rfl rfl <| .new rfl <| .nil)
              have hlh22 := hlh21.trans hle22
              replace hlq44 := hlq44.trans hle22
              clear hst21 hfr21 hk22
              exact ⟨y + 1, m22, by show ge.length - (y + 1) < ge.length - y; omega, ⟨hst22, hlq44, hfr22.sub (.cons rfl <| .cons rfl <| .cons rfl <| .cons rfl <| .cons rfl <| .cons rfl <| .cons rfl <| .nil), by show y + 1 ≤ ge.length; omega⟩⟩
        · try simp only [nq1, nq2, nq3, nq4, nq5, nq6, nq7, nq8, nq9, u8_eq] at hb108
          have hge : y = ge.length := by omega
          refine wp_exit ?_
          refine hK32 _ _ ?_; clear hK32
          refine seq_any fun _ hK57 => ?_
          replace hst14 := hst14.more (r := .free) trivial List.nodup_nil (by simp [Res.blocks])
          refine region_any (tch := [(5, 2, (fun v => .blk v _)), (6, 2, (fun v => .blkx v _ _))]) (fun _ => mixed) hst14 hfr14 (by kernel_rfl) (by kernel_rfl) (by kernel_rfl) (.cons rfl (ob_loadS' rfl hc4 Try.isAgg27 Try.sizeOf27 rfl rfl) <| .cons rfl (ob_call (φ := MP.sch (⟨[], [], t⟩ : Sch)) rfl (.cons rfl <| .nil) Try.call10 (fun w m hK => by have hle_ := KC.le hK; have hA := KC.agree hK; have h_t := h_t.mono hle_; exact FnG.mono (bareR_c (t := t) hA h_t hrt (by omega)) fun _ _ _ _ h => h)) <| .cons rfl (ob_imgI 146 rfl rfl rfl fun y146 => ob_buildSlice1 rfl Try.underlying32 Try.sizeOf35 Try.zeroValue35 rfl rfl rfl rfl) <| .cons rfl (ob_loadS' rfl hc4 Try.isAgg27 Try.sizeOf27 rfl rfl) <| .cons rfl (ob_imgE 147 rfl rfl rfl fun y147 => ob_call (φ := MP.sch (⟨[], [], t⟩ : Sch)) rfl (.cons rfl <| .cons rfl <| .nil) Try.call11 (fun w m hK => by have hle_ := KC.le hK; have hA := KC.agree hK; have hr0_ := hK.2; have h_t := h_t.mono hle_; exact FnG.mono ((by have h9 := genR_c (env := [(⟨[], [], t⟩ : Sch)]) (t := t) hA (Sl.one (by exact hr0_.2) rfl hr0_.1) h_t hrt (by omega) (by omega) (fun x hx => by rw [List.mem_singleton] at hx; subst hx; show cntT t ≤ _; omega); rw [gen_self] at h9; exact h9)) fun _ _ _ _ h => h)) <| .consT rfl rfl (fun _ => rfl) rfl (ob_allocL Try.zeroValue35 rfl) <| .consT rfl rfl (fun _ => rfl) rfl (ob_imgT 20 rfl rfl rfl fun y20 => ob_imgTX 149 rfl rfl rfl fun y149 => ob_storeF rfl rfl rfl rfl rfl Try.sizeOf35 rfl rfl rfl) <| .nil) ?_
          intro a15 w15 m15 hst15 hle15 hk15
          have hfr15 := hk15.fr (T' := [(15, _), (8, _), (9, _), (4, _), (5, _), (7, _)]) (.old rfl rfl <| .old rfl rfl <| .old rfl rfl <| .old rfl rfl <| .old rfl rfl <| .old rfl rfl <| .nil)
          obtain ⟨gN, e58, _⟩ := hk15.ex 20 rfl
          replace hfr15 := hfr15.cons e58
          replace hst15 := hst15.fin (L' := [_, _, _]) (.cons e58 <| .cons e58 <| .nil)
          try simp only [List.take_succ_cons, List.take_zero, List.drop_succ_cons, List.drop_zero, List.cons_append, List.nil_append, List.append_nil, List.length_cons, List.length_nil, Nat.zero_add, Nat.reduceAdd] at hst15
          obtain ⟨⟨⟨⟨oV, cV⟩, oW, cW⟩, ⟨oX, cX⟩, oY, cY⟩, hgN, hst15⟩ := hst15.unx (k := 2) rfl (fun _ => rfl)
          replace h_t := h_t.mono hle15
          replace h_o := h_o.mono hle15
          replace hc4 := hc4.mono hle15
          replace hc5 := hc5.mono hle15
          have hlh15 := hlh14.trans hle15
          clear hst14 hfr14 hk15
          refine hK57 _ _ ?_; clear hK57
          refine seq_any fun _ hK60 => ?_
          refine region_plain (fun _ => mixed) hst15 hfr15 (by kernel_rfl) (by kernel_rfl) (.cons rfl (ob_move rfl) <| .cons rfl (ob_move rfl) <| .cons rfl (ob_fieldAddrO (off := 0) rfl Try.underlying35 rfl rfl Try.sizeOf33 rfl) <| .cons rfl (ob_loadL (j := 2) rfl rfl Try.isAgg33 rfl) <| .cons rfl (ob_len rfl Try.underlying33) <| .cons rfl (ob_eql rfl rfl) <| .cons rfl (ob_and rfl rfl rfl) <| .cons rfl (ob_move rfl) <| .cons rfl (ob_fieldAddrO (off := 1) rfl Try.underlying35 rfl rfl Try.sizeOf33 rfl) <| .cons rfl (ob_loadL (j := 2) rfl rfl Try.isAgg33 rfl) <| .cons rfl (ob_len rfl Try.underlying33) <| .cons rfl (ob_eql rfl rfl) <| .cons rfl (ob_and rfl rfl rfl) <| .cons rfl (ob_move rfl) <| .cons rfl (ob_loadLA (j := 2) rfl rfl Try.isAgg35 Try.sizeOf35 rfl) <| .cons rfl (ob_loadS' rfl hc5 Try.isAgg27 Try.sizeOf27 rfl rfl) <| .cons rfl (ob_callE rfl (.cons rfl <| .cons rfl <| .nil) Try.call16 (fun w m hK => by have hle_ := KC.le hK; have hA := KC.agree hK; have h_o := h_o.mono hle_; have hgN := hgN.mono hle_; exact (show FnV Try.prog 16 #[_, _] _ _ (fun _ _ v => v = .bool (sameT t o)) from by have h9 := instance_c (s := (⟨[], [], t⟩ : Sch)) (t := o) hA hgN h_o (by show wdT t ≤ _; omega) (by omega); rw [inst_none hrt hro] at h9; exact h9))) <| .cons rfl (ob_loadS' rfl hc4 Try.isAgg27 Try.sizeOf27 rfl rfl) <| .cons rfl (ob_loadS' rfl hc5 Try.isAgg27 Try.sizeOf27 rfl rfl) <| .cons rfl (ob_callE rfl (.cons rfl <| .cons rfl <| .nil) Try.call21 (fun w m hK => by have hle_ := KC.le hK; have hA := KC.agree hK; have h_t := h_t.mono hle_; have h_o := h_o.mono hle_; exact sameR_c t (u := o) hA h_t h_o)) <| .cons rfl (ob_beql rfl rfl Try.underlying4) <| .cons rfl (ob_and rfl rfl rfl) <| .cons rfl (ob_assign rfl) <| .nil) ?_
          intro a16 w16 m16 hst16 hle16 hk16
          have hfr16 := hk16.fr (T' := [(15, _), (8, _), (9, _), (6, _)]) (.old rfl rfl <| .old rfl rfl <| .old rfl rfl <| .new rfl <| .nil)
          have hlh16 := hlh15.trans hle16
          clear hst15 hfr15 hk16
          refine hK60 _ _ ?_; clear hK60
          refine wp_ret ?_
          repeat (with_reducible first | refine then_ret ?_ | refine block_ret ?_)
          exact fn_ret hst16 hfr16 rfl (.tmp rfl <| .nil) (by refine congrArg Value.bool ?_; simp)

end Go.Proofs.Ytmpponcnohakdaa
