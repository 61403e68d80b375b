/-
  'brocadelaw08': the walk of the law. Conditions: those of each theorem.
-/
import Derived.Test.YtmpponcnohakdaaPlain8e
namespace Go.Proofs.Ytmpponcnohakdaa
set_option linter.all false
set_option maxRecDepth 4000
open Go.RowKit
set_option maxHeartbeats 3200000 in
theorem schemeInstances_c {w : World} {m : Mem} {o_env : Option Addr} {c_env : Nat} {env : List Ty} {t : Ty} {vs_t : List Value} {i : Ty} {vs_i : List Value} {r : Rw} {vs_r : List Value} (hA : Agree w m) (h_env : Tys m o_env env.length c_env env) (h_t : TyR m t vs_t) (h_i : TyR m i vs_i) (h_r : RwR m r vs_r) (he : ∀ x ∈ env, wdT x ≤ 100000000 ∧ cntT x ≤ 100000000) (hw_t : wdT t ≤ 100000000) (hc_t : cntT t ≤ 100000000) (hw_i : wdT i ≤ 100000000) (hc_i : cntT i ≤ 100000000) : FnV Try.prog 3 #[.slice o_env env.length c_env, .agg vs_t.toArray, .agg vs_i.toArray, .agg vs_r.toArray] w m (fun _ _ v => v = .bool true) := by
  have hb_env := h_env.big; have hc_env := h_env.cap
  obtain ⟨o_t, c_t, oL_t, cL_t, rfl, hk_t, hs_t, hi_t, hj_t, hr_t⟩ := h_t.open_
  have hbg_t := hk_t.big; have hcp_t := hk_t.cap; have hbs_t := hs_t.big; have hcs_t := hs_t.cap
  have hrw_t : RwR _ ⟨t.labels, t.rv⟩ _ := ⟨_, _, rfl, hs_t, hr_t⟩
  obtain ⟨o_i, c_i, oL_i, cL_i, rfl, hk_i, hs_i, hi_i, hj_i, hr_i⟩ := h_i.open_
  have hbg_i := hk_i.big; have hcp_i := hk_i.cap; have hbs_i := hs_i.big; have hcs_i := hs_i.cap
  have hrw_i : RwR _ ⟨i.labels, i.rv⟩ _ := ⟨_, _, rfl, hs_i, hr_i⟩
  obtain ⟨o_r, c_r, rfl, hs_r, hr_r⟩ := h_r.open_
  have hbs_r := hs_r.big; have hcs_r := hs_r.cap
  refine fn_enter (vs := [_, _, _, _]) Try.func3 rfl rfl rfl fun a0 hfr0 => ?_
  have hst0 := st_enter hA (loc_nil [] _ w m)
  have hM : MLe m m := MLe.refl m
  have hwr := walk_room t ([], [])
  simp only [room, List.length_nil] at hwr
  refine seq_any fun _ hK1 => ?_
  refine rp0 hst0 hfr0 (.cons rfl (ob_box rfl rfl) <| .cons rfl (ob_box rfl rfl) <| .cons rfl (ob_box rfl rfl) <| .cons rfl (ob_assign rfl) <| .nil) ?_
  intro a1 w1 m1 hst1 hle1 hk1
  have hfr1 := hk1.fr (T' := [(0, _)]) (.old rfl rfl <| .nil)
  obtain ⟨g2, e2, hc5⟩ := hk1.ex 5 rfl
  replace hfr1 := hfr1.cons e2
  obtain ⟨g3, e3, hc6⟩ := hk1.ex 6 rfl
  replace hfr1 := hfr1.cons e3
  obtain ⟨g4, e4, hc7⟩ := hk1.ex 7 rfl
  replace hfr1 := hfr1.cons e4
  replace h_env := h_env.mono hle1
  replace h_t := h_t.mono hle1
  replace h_i := h_i.mono hle1
  replace h_r := h_r.mono hle1
  clear hst0 hfr0 hk1
  refine hK1 _ _ ?_; clear hK1
  refine seq_any fun _ hK5 => ?_
  refine rp0 hst1 hfr1 (.cons rfl (ob_callE rfl (.nil) Try.call6 (fun w m hK => by have hle_ := KC.le hK; have hA := KC.agree hK; exact shown_c hA)) <| .cons rfl (ob_assign rfl) <| .nil) ?_
  intro a2 w2 m2 hst2 hle2 hk2
  have hfr2 := hk2.fr (T' := [(0, _), (5, _), (6, _), (7, _), (9, _)]) (.old rfl rfl <| .old rfl rfl <| .old rfl rfl <| .old rfl rfl <| .new rfl <| .nil)
  replace h_env := h_env.mono hle2
  replace h_t := h_t.mono hle2
  replace h_i := h_i.mono hle2
  replace h_r := h_r.mono hle2
  replace hc5 := hc5.mono hle2
  replace hc6 := hc6.mono hle2
  replace hc7 := hc7.mono hle2
  clear hst1 hfr1 hk2
  refine hK5 _ _ ?_; clear hK5
  refine seq_any fun _ hK6 => ?_
  refine seq_any fun _ hK7 => ?_
  refine rp0 hst2 hfr2 (.cons rfl (ob_loadS' rfl hc5 Try.isAgg27 Try.sizeOf27 rfl rfl) <| .cons rfl (ob_callE rfl (.cons rfl <| .nil) Try.call7 (fun w m hK => by have hle_ := KC.le hK; have hA := KC.agree hK; have h_t := h_t.mono hle_; exact count_c t hA h_t (by omega))) <| .cons rfl (ob_gtr rfl rfl) <| .cons rfl (ob_move rfl) <| .cons rfl (ob_loadS' rfl hc6 Try.isAgg27 Try.sizeOf27 rfl rfl) <| .cons rfl (ob_callE rfl (.cons rfl <| .nil) Try.call7 (fun w m hK => by have hle_ := KC.le hK; have hA := KC.agree hK; have h_i := h_i.mono hle_; exact count_c i hA h_i (by omega))) <| .cons rfl (ob_gtr rfl rfl) <| .cons rfl (ob_or rfl rfl rfl) <| .cons rfl (ob_move rfl) <| .cons rfl (ob_loadS' rfl hc5 Try.isAgg27 Try.sizeOf27 rfl rfl) <| .cons rfl (ob_callE rfl (.cons rfl <| .nil) Try.call8 (fun w m hK => by have hle_ := KC.le hK; have hA := KC.agree hK; have h_t := h_t.mono hle_; exact right0R_c (t := t) hA h_t)) <| .cons rfl (ob_not rfl) <| .cons rfl (ob_or rfl rfl rfl) <| .cons rfl (ob_move rfl) <| .cons rfl (ob_loadS' rfl hc6 Try.isAgg27 Try.sizeOf27 rfl rfl) <| .cons rfl (ob_callE rfl (.cons rfl <| .nil) Try.call8 (fun w m hK => by have hle_ := KC.le hK; have hA := KC.agree hK; have h_i := h_i.mono hle_; exact right0R_c (t := i) hA h_i)) <| .cons rfl (ob_not rfl) <| .cons rfl (ob_or rfl rfl rfl) <| .cons rfl (ob_move rfl) <| .cons rfl (ob_loadS' rfl hc7 Try.isAgg25 Try.sizeOf25 rfl rfl) <| .cons rfl (ob_callE rfl (.cons rfl <| .nil) Try.call9 (fun w m hK => by have hle_ := KC.le hK; have hA := KC.agree hK; have h_r := h_r.mono hle_; exact rightRowR_c (r := r) hA h_r)) <| .cons rfl (ob_not rfl) <| .cons rfl (ob_or rfl rfl rfl) <| .cons rfl (ob_move rfl) <| .cons rfl (ob_fieldAddrO (off := 0) rfl Try.underlying25 rfl rfl Try.sizeOf23 rfl) <| .cons rfl (ob_load1 rfl hc7 Try.isAgg23 rfl) <| .cons rfl (ob_len rfl Try.underlying23) <| .cons rfl (ob_gtr rfl rfl) <| .cons rfl (ob_or rfl rfl rfl) <| .nil) ?_
  intro a3 w3 m3 hst3 hle3 hk3
  have hfr3 := hk3.fr (T' := [(0, _), (5, _), (6, _), (7, _), (9, _), (45, _)]) (.old rfl rfl <| .old rfl rfl <| .old rfl rfl <| .old rfl rfl <| .old rfl rfl <| .new rfl <| .nil)
  replace h_env := h_env.mono hle3
  replace h_t := h_t.mono hle3
  replace h_i := h_i.mono hle3
  replace h_r := h_r.mono hle3
  replace hc5 := hc5.mono hle3
  replace hc6 := hc6.mono hle3
  replace hc7 := hc7.mono hle3
  clear hst2 hfr2 hk3
  refine hK7 _ _ ?_; clear hK7
  refine cond_any hfr3 rfl rfl (fun hb45 => ?_) (fun hb45 => ?_)
  · try simp only [nq1, nq2, nq3, nq4, nq5, nq6, nq7, nq8, nq9, u8_eq] at hb45
    refine seq_any fun _ hK8 => ?_
    refine rp0 hst3 hfr3 (.cons rfl (ob_move rfl) <| .cons rfl (ob_assign rfl) <| .nil) ?_
    intro a4 w4 m4 hst4 hle4 hk4
    have hfr4 := hk4.fr (T' := [(8, _)]) (.new rfl <| .nil)
    clear hst3 hfr3 hk4
    refine hK8 _ _ ?_; clear hK8
    refine wp_ret ?_
    repeat (with_reducible first | refine then_ret ?_ | refine block_ret ?_)
    exact fn_ret hst4 hfr4 rfl (.tmp rfl <| .nil) (rfl)
  · try simp only [nq1, nq2, nq3, nq4, nq5, nq6, nq7, nq8, nq9, u8_eq] at hb45
    have hrt : rightT t = true := by simp_all
    have hrr : rowOk r.labels r.var = true := by simp_all
    have hrl : r.labels.length ≤ 20 := by simp_all; omega
    refine wp_skip ?_
    refine hK6 _ _ ?_; clear hK6
    refine seq_any fun _ hK10 => ?_
    refine rp0 hst3 hfr3 (.cons rfl (ob_assign rfl) <| .nil) ?_
    intro a4 w4 m4 hst4 hle4 hk4
    have hfr4 := hk4.fr (T' := [(0, _), (5, _), (6, _), (7, _), (9, _), (10, _)]) (.old rfl rfl <| .old rfl rfl <| .old rfl rfl <| .old rfl rfl <| .old rfl rfl <| .new rfl <| .nil)
    replace h_env := h_env.mono hle4
    replace h_t := h_t.mono hle4
    replace h_i := h_i.mono hle4
    replace h_r := h_r.mono hle4
    replace hc5 := hc5.mono hle4
    replace hc6 := hc6.mono hle4
    replace hc7 := hc7.mono hle4
    clear hst3 hfr3 hk4
    have hst4 := hst4.more (r := .rowx (.slice none 0 0) 0 8 35 (MP.reads (fun m vs x => SchR m x vs) 8 [])) rowx_new List.nodup_nil (by simp [Res.blocks, rowBlock])
    have hsl_E : Schs m4 none ([] : List Sch).length 0 ([] : List Sch) := Sl.empty
    refine hK10 _ _ ?_; clear hK10
    refine seq_any fun _ hK11 => ?_
    refine seq_any fun _ hK12 => ?_
    refine rp0 hst4 hfr4 (.cons rfl (ob_assign rfl) <| .nil) ?_
    intro a5 w5 m5 hst5 hle5 hk5
    have hfr5 := hk5.fr (T' := [(0, _), (5, _), (6, _), (7, _), (9, _), (10, _), (11, _)]) (.old rfl rfl <| .old rfl rfl <| .old rfl rfl <| .old rfl rfl <| .old rfl rfl <| .old rfl rfl <| .new rfl <| .nil)
    replace h_env := h_env.mono hle5
    replace h_t := h_t.mono hle5
    replace h_i := h_i.mono hle5
    replace h_r := h_r.mono hle5
    replace hc5 := hc5.mono hle5
    replace hc6 := hc6.mono hle5
    replace hc7 := hc7.mono hle5
    replace hsl_E := hsl_E.mono hle5
    clear hst4 hfr4 hk5
    refine hK12 _ _ ?_; clear hK12
    refine wp_block ?_
    refine loop_any (T := [(0, _), (5, _), (6, _), (7, _), (9, _)]) (fun (y : Nat × Option Addr × Nat × List Sch) => ([(10, .slice y.2.1 y.2.2.2.length y.2.2.1), (11, .int .i64 (y.1 : Int))] : List (Nat × Value))) (fun y => [.rowx (nz (.slice y.2.1 y.2.2.2.length y.2.2.1)) y.2.2.2.length 8 35 (MP.reads (fun m vs x => SchR m x vs) 8 y.2.2.2)]) (fun (y : Nat × Option Addr × Nat × List Sch) m => (fun (y : Nat) (geo : Option Addr) (gep : Nat) (ge : List Sch) => (y ≤ (min env.length 4)) ∧ (Schs m geo ge.length gep ge) ∧ (ge = (keepT (env.take y)).map bareS ∧ ge.length ≤ y)) y.1 y.2.1 y.2.2.1 y.2.2.2) (fun y => (min env.length 4) - y.1) ((0, none, 0, ([] : List Sch))) ⟨hst5, MLe.refl _, hfr5.sub (.cons rfl <| .cons rfl <| .cons rfl <| .cons rfl <| .cons rfl <| .cons rfl <| .cons rfl <| .nil), ⟨Nat.zero_le _, hsl_E, ⟨rfl, Nat.le_refl _⟩⟩⟩ fun y a6 w6 m6 hh6 => ?_
    have hst6 := hh6.st; have hle6 := hh6.le; have hfr6 := hh6.fr; have hrel := hh6.rel; clear hh6
    replace h_env := h_env.mono hle6
    replace h_t := h_t.mono hle6
    replace h_i := h_i.mono hle6
    replace h_r := h_r.mono hle6
    replace hc5 := hc5.mono hle6
    replace hc6 := hc6.mono hle6
    replace hc7 := hc7.mono hle6
    clear hst5 hfr5
    obtain ⟨y, geo, gep, ge⟩ := y
    dsimp only at hrel hfr6 hst6
    obtain ⟨hyn, hsl_ge, hlen_ge⟩ := hrel
    have hlh6 := hle6
    refine seq_any fun _ hK14 => ?_
    refine seq_any fun _ hK15 => ?_
    refine rp0 hst6 hfr6 (.cons rfl (ob_move rfl) <| .cons rfl (ob_move rfl) <| .cons rfl (ob_len rfl Try.underlying22) <| .cons rfl (ob_lss rfl rfl) <| .cons rfl (ob_move rfl) <| .cons rfl (ob_move rfl) <| .cons rfl (ob_lss rfl rfl) <| .cons rfl (ob_and rfl rfl rfl) <| .nil) ?_
    intro a7 w7 m7 hst7 hle7 hk7
    have hfr7 := hk7.fr (T' := [(10, _), (11, _), (0, _), (5, _), (6, _), (7, _), (9, _), (54, _)]) (.old rfl rfl <| .old rfl rfl <| .old rfl rfl <| .old rfl rfl <| .old rfl rfl <| .old rfl rfl <| .old rfl rfl <| .new rfl <| .nil)
    replace h_env := h_env.mono hle7
    replace h_t := h_t.mono hle7
    replace h_i := h_i.mono hle7
    replace h_r := h_r.mono hle7
    replace hc5 := hc5.mono hle7
    replace hc6 := hc6.mono hle7
    replace hc7 := hc7.mono hle7
    replace hsl_ge := hsl_ge.mono hle7
    have hlh7 := hlh6.trans hle7
    clear hst6 hfr6 hk7
    refine hK15 _ _ ?_; clear hK15
    refine cond_any hfr7 rfl rfl (fun hb54 => ?_) (fun hb54 => ?_)
    · try simp only [nq1, nq2, nq3, nq4, nq5, nq6, nq7, nq8, nq9, u8_eq] at hb54
      refine wp_skip ?_
      refine hK14 _ _ ?_; clear hK14
      refine seq_any fun _ hK16 => ?_
      refine wp_block ?_
      refine seq_any fun _ hK17 => ?_
      obtain ⟨p18, vs18, x18, ho18, hd18, hm_x18, ht18, hcv18, hl18, hv18⟩ := h_env.nth (k := y) (by omega)
      cases ho18
      obtain ⟨o18, c18, oL18, cL18, rfl, hkd18, hs18, hi18, hj18, hr18⟩ := hv18.open_
      have hbg18 := hkd18.big; have hcp18 := hkd18.cap; have hbs18 := hs18.big; have hcs18 := hs18.cap
      have hrw18 : RwR _ ⟨x18.labels, x18.rv⟩ _ := ⟨_, _, rfl, hs18, hr18⟩
      refine rp0 hst7 hfr7 (.cons rfl (ob_move rfl) <| .cons rfl (ob_move rfl) <| .cons rfl (ob_indexAddr (k := y) rfl rfl Try.underlying22 Try.sizeOf27 rfl (by omega)) <| .cons rfl (ob_loadS' rfl hcv18 Try.isAgg27 Try.sizeOf27 rfl rfl) <| .cons rfl (ob_callE rfl (.cons rfl <| .nil) Try.call8 (fun w m hK => by have hle_ := KC.le hK; have hA := KC.agree hK; have hv18 := hv18.mono hle_; exact right0R_c (t := x18) hA hv18)) <| .cons rfl (ob_move rfl) <| .cons rfl (ob_move rfl) <| .cons rfl (ob_move rfl) <| .cons rfl (ob_indexAddr (k := y) rfl rfl Try.underlying22 Try.sizeOf27 rfl (by omega)) <| .cons rfl (ob_loadS' rfl hcv18 Try.isAgg27 Try.sizeOf27 rfl rfl) <| .cons rfl (ob_callE rfl (.cons rfl <| .nil) Try.call7 (fun w m hK => by have hle_ := KC.le hK; have hA := KC.agree hK; have hv18 := hv18.mono hle_; exact count_c x18 hA hv18 (Nat.le_trans (he _ hm_x18).2 (by omega)))) <| .cons rfl (ob_lss rfl rfl) <| .cons rfl (ob_and rfl rfl rfl) <| .nil) ?_
      intro a8 w8 m8 hst8 hle8 hk8
      have hfr8 := hk8.fr (T' := [(10, _), (11, _), (0, _), (5, _), (6, _), (7, _), (9, _), (69, _)]) (.old rfl rfl <| .old rfl rfl <| .old rfl rfl <| .old rfl rfl <| .old rfl rfl <| .old rfl rfl <| .old rfl rfl <| .new rfl <| .nil)
      replace hsl_ge := hsl_ge.mono hle8
      replace hcv18 := hcv18.mono hle8
      replace hv18 := hv18.mono hle8
      have hlh8 := hlh7.trans hle8
      clear hst7 hfr7 hk8
      have hex := he x18 hm_x18
      refine hK17 _ _ ?_; clear hK17
      refine cond_any hfr8 rfl rfl (fun hb69 => ?_) (fun hb69 => ?_)
      · try simp only [nq1, nq2, nq3, nq4, nq5, nq6, nq7, nq8, nq9, u8_eq] at hb69
        have hkx : keepB x18 = true := by obtain ⟨⟨k1, k2⟩, k3⟩ := hb69; unfold keepB; rw [decide_eq_true k1, k2, decide_eq_true (show cntT x18 < 50 by omega)]; rfl
        have hrx : rightT x18 = true := keepB_right hkx
        refine region_cut 6 (by kernel_rfl) ?_
        refine ops_seq (tch := []) hst8 hfr8 (by kernel_rfl) (by kernel_rfl) (by kernel_rfl) (.cons rfl (ob_move rfl) <| .cons rfl (ob_move rfl) <| .cons rfl (ob_move rfl) <| .cons rfl (ob_indexAddr (k := y) rfl rfl Try.underlying22 Try.sizeOf27 rfl (by omega)) <| .cons rfl (ob_loadS' rfl hcv18 Try.isAgg27 Try.sizeOf27 rfl rfl) <| .cons rfl (ob_call (φ := MP.sch ⟨[], [], x18⟩) rfl (.cons rfl <| .nil) Try.call10 (fun w m hK => by have hle_ := KC.le hK; have hA := KC.agree hK; have hv18 := hv18.mono hle_; exact FnG.mono (bareR_c (t := x18) hA hv18 hrx (by omega)) fun _ _ _ _ h => h)) <| .nil) ?_
        intro a9 w9 m9 hst9 hle9 hk9
        have hfr9 := hk9.fr (T' := [(10, _), (11, _), (0, _), (5, _), (6, _), (7, _), (9, _), (70, _)]) (.old rfl rfl <| .old rfl rfl <| .old rfl rfl <| .old rfl rfl <| .old rfl rfl <| .old rfl rfl <| .old rfl rfl <| .new rfl <| .nil)
        obtain ⟨yb, e19, hyb⟩ := hk9.ex 75 rfl
        replace hfr9 := hfr9.cons e19
        have hlh9 := hlh8.trans hle9
        clear hst8 hfr8 hk9
        refine ops_seq (tch := [(1, 0, (fun v => .rowx (nz v) _ _ _ _))]) hst9 hfr9 (by kernel_rfl) (by kernel_rfl) (by kernel_rfl) (.cons rfl (ob_buildSlice1 rfl Try.underlying32 Try.sizeOf35 Try.zeroValue35 rfl rfl rfl rfl) <| .consT rfl rfl (fun _ => rfl) rfl (ob_imgT 76 rfl rfl rfl fun y76 => ob_appendX (size := 8) (bytes := 136) (l := ge) (l' := [bareS x18]) rfl rfl (fun _ => by first | exact .inl rfl | exact .inr (.inl rfl)) Try.underlying32 Try.type35 rfl rfl rfl rfl (fun w m hK => Sl.one (R := fun m vs t => SchR m t vs) hK.2 rfl (hyb.mono (KC.le hK))) rfl (by decide) (by simp only [maxLen]; omega) (by omega)) <| .consA 77 rfl rfl <| .nil) ?_
        intro a10 w10 m10 hst10 hle10 hk10
        have hfr10 := hk10.fr (T' := [(11, _), (0, _), (5, _), (6, _), (7, _), (9, _), (70, _), (75, _)]) (.old rfl rfl <| .old rfl rfl <| .old rfl rfl <| .old rfl rfl <| .old rfl rfl <| .old rfl rfl <| .old rfl rfl <| .old rfl rfl <| .nil)
        obtain ⟨⟨E_20o, E_20p⟩, e21, hsl_E_20⟩ := hk10.ex 77 rfl
        replace hfr10 := hfr10.cons e21
        replace hfr10 := hfr10.cons (hk10.same 10 rfl e21)
        replace hst10 := hst10.fin (L' := [_]) (.cons e21 <| .nil)
        have hlh10 := hlh9.trans hle10
        clear hst9 hfr9 hk10
        replace hsl_E_20 : Schs m10 E_20o (ge ++ [bareS x18]).length E_20p (ge ++ [bareS x18]) := hsl_E_20
        refine hK16 _ _ ?_; clear hK16
        refine rp0 hst10 hfr10 (.cons rfl (ob_move rfl) <| .cons rfl (ob_add rfl rfl ⟨by omega, by omega⟩) <| .cons rfl (ob_assign rfl) <| .nil) ?_
        intro a11 w11 m11 hst11 hle11 hk11
        have hfr11 := hk11.fr (T' := [(0, _), (5, _), (6, _), (7, _), (9, _), (10, _), (11, _)]) (.old rfl rfl <| .old rfl rfl <| .old rfl rfl <| .old rfl rfl <| .old rfl rfl <| .old rfl rfl <| .new rfl <| .nil)
        replace hsl_E_20 := hsl_E_20.mono hle11
        have hlh11 := hlh10.trans hle11
        clear hst10 hfr10 hk11
        exact ⟨(y + 1, E_20o, E_20p, (ge ++ [bareS x18])), m11, by show (min env.length 4) - (y + 1) < (min env.length 4) - y; omega, ⟨hst11, hlh11, hfr11.sub (.cons rfl <| .cons rfl <| .cons rfl <| .cons rfl <| .cons rfl <| .cons rfl <| .cons rfl <| .nil), ⟨by show y + 1 ≤ (min env.length 4); omega, hsl_E_20, ⟨by rw [hlen_ge.1, ht18, keepT_snoc, if_pos hkx]; simp, by rw [List.length_append]; have := hlen_ge.2; simp; omega⟩⟩⟩⟩
      · try simp only [nq1, nq2, nq3, nq4, nq5, nq6, nq7, nq8, nq9, u8_eq] at hb69
        have hkx : keepB x18 = false := by unfold keepB; rcases hb69 with (h | h) | h; (rw [decide_eq_false (show ¬ deepT x18 ≤ 200 by omega)]; rfl); (rw [h]; simp); (rw [decide_eq_false (show ¬ cntT x18 < 50 by omega)]; simp)
        refine wp_skip ?_
        refine hK16 _ _ ?_; clear hK16
        refine rp0 hst8 hfr8 (.cons rfl (ob_move rfl) <| .cons rfl (ob_add rfl rfl ⟨by omega, by omega⟩) <| .cons rfl (ob_assign rfl) <| .nil) ?_
        intro a9 w9 m9 hst9 hle9 hk9
        have hfr9 := hk9.fr (T' := [(10, _), (0, _), (5, _), (6, _), (7, _), (9, _), (11, _)]) (.old rfl rfl <| .old rfl rfl <| .old rfl rfl <| .old rfl rfl <| .old rfl rfl <| .old rfl rfl <| .new rfl <| .nil)
        replace hsl_ge := hsl_ge.mono hle9
        have hlh9 := hlh8.trans hle9
        clear hst8 hfr8 hk9
        exact ⟨(y + 1, geo, gep, ge), m9, by show (min env.length 4) - (y + 1) < (min env.length 4) - y; omega, ⟨hst9, hlh9, hfr9.sub (.cons rfl <| .cons rfl <| .cons rfl <| .cons rfl <| .cons rfl <| .cons rfl <| .cons rfl <| .nil), ⟨by show y + 1 ≤ (min env.length 4); omega, hsl_ge, ⟨by rw [hlen_ge.1, ht18, keepT_snoc, if_neg (by simp [hkx])], Nat.le_succ_of_le hlen_ge.2⟩⟩⟩⟩
    · try simp only [nq1, nq2, nq3, nq4, nq5, nq6, nq7, nq8, nq9, u8_eq] at hb54
      have hge : y = min env.length 4 := by omega
      obtain ⟨hgE, hgL⟩ := hlen_ge
      have hgc := bare_small hgE
      refine wp_exit ?_
      refine hK11 _ _ ?_; clear hK11
      refine seq_any fun _ hK22 => ?_
      replace hst7 := hst7.more (r := .free) trivial List.nodup_nil (by simp [Res.blocks])
      refine ra0 (tch := [(3, 1, (fun v => .blk v _)), (4, 1, (fun v => .blkx v _ _))]) hst7 hfr7 (.cons rfl (ob_move rfl) <| .cons rfl (ob_loadS' rfl hc5 Try.isAgg27 Try.sizeOf27 rfl rfl) <| .cons rfl (ob_call (φ := MP.sch (genT ge t)) rfl (.cons rfl <| .cons rfl <| .nil) Try.call11 (fun w m hK => by have hle_ := KC.le hK; have hA := KC.agree hK; have h_t := h_t.mono hle_; have hsl_ge := hsl_ge.mono hle_; exact FnG.mono (genR_c (env := ge) (t := t) hA hsl_ge h_t hrt (by omega) (by omega) (fun x hx => Nat.le_trans (hgc x hx) (by omega))) fun _ _ _ _ h => h)) <| .consT rfl rfl (fun _ => rfl) rfl (ob_allocL Try.zeroValue35 rfl) <| .consT rfl rfl (fun _ => rfl) rfl (ob_imgT 12 rfl rfl rfl fun y12 => ob_imgTX 80 rfl rfl rfl fun y80 => ob_storeF rfl rfl rfl rfl rfl Try.sizeOf35 rfl rfl rfl) <| .nil) ?_
      intro a8 w8 m8 hst8 hle8 hk8
      have hfr8 := hk8.fr (T' := [(10, _), (11, _), (5, _), (6, _), (7, _), (9, _)]) (.old rfl rfl <| .old rfl rfl <| .old rfl rfl <| .old rfl rfl <| .old rfl rfl <| .old rfl rfl <| .nil)
      obtain ⟨gS, e23, _⟩ := hk8.ex 12 rfl
      replace hfr8 := hfr8.cons e23
      replace hst8 := hst8.fin (L' := [_, _]) (.cons e23 <| .cons e23 <| .nil)
      try simp only [List.take_succ_cons, List.take_zero, List.drop_succ_cons, List.drop_zero, List.cons_append, List.nil_append, List.append_nil, List.length_cons, List.length_nil, Nat.zero_add, Nat.reduceAdd] at hst8
      obtain ⟨⟨⟨⟨oS, cS⟩, oR, cR⟩, ⟨oT, cT⟩, oU, cU⟩, hgS, hst8⟩ := hst8.unx (k := 1) rfl (fun _ => rfl)
      replace h_t := h_t.mono hle8
      replace h_i := h_i.mono hle8
      replace h_r := h_r.mono hle8
      replace hc5 := hc5.mono hle8
      replace hc6 := hc6.mono hle8
      replace hc7 := hc7.mono hle8
      have hlh8 := hlh7.trans hle8
      clear hst7 hfr7 hk8
      obtain ⟨S9, hS9⟩ : ∃ S9, S9 = genT ge t := ⟨_, rfl⟩
      have hgp := gen_parts ge t
      rw [← hS9] at hgS hgp hst8
      have hty9 : S9.ty = t := by rw [hS9]; rfl
      obtain ⟨hgp1, hgp2⟩ := hgp
      obtain ⟨hsT, hsR, -⟩ := schV_open hgS
      have hwv : (varsT t).1.length + (varsT t).2.length ≤ 2 * cntT t := by show (walkT t ([], [])).1.length + (walkT t ([], [])).2.length ≤ _; omega
      have hi1 : instM S9 t = true := by rw [hS9]; exact inst_self hrt
      have hi2 : instM S9 (applyT (freshS S9 1000) S9.ty) = true := by rw [hS9]; exact inst_fresh hrt (by omega)
      have hi3 : instM S9 (applyT (withS S9 i r) t) = true := by rw [hS9]; exact inst_with hrt hrr
      refine hK22 _ _ ?_; clear hK22
      refine seq_any fun _ hK25 => ?_
      replace hst8 := hst8.more (r := .free) trivial List.nodup_nil (by simp [Res.blocks])
      refine ra0 (tch := [(1, 2, (fun v => .blk v _)), (2, 2, (fun v => .blkx v _ _))]) hst8 hfr8 (.cons rfl (ob_call (φ := MP.sub noneS) rfl (.nil) Try.call12 (fun w m hK => by have hle_ := KC.le hK; have hA := KC.agree hK; exact FnG.mono (none_c hA) fun _ _ _ _ h => h)) <| .consT rfl rfl (fun _ => rfl) rfl (ob_allocL Try.zeroValue43 rfl) <| .consT rfl rfl (fun _ => rfl) rfl (ob_imgT 13 rfl rfl rfl fun y13 => ob_imgTX 81 rfl rfl rfl fun y81 => ob_storeF rfl rfl rfl rfl rfl Try.sizeOf43 rfl rfl rfl) <| .nil) ?_
      intro a9 w9 m9 hst9 hle9 hk9
      have hfr9 := hk9.fr (T' := [(10, _), (11, _), (5, _), (6, _), (7, _), (9, _), (12, _)]) (.old rfl rfl <| .old rfl rfl <| .old rfl rfl <| .old rfl rfl <| .old rfl rfl <| .old rfl rfl <| .old rfl rfl <| .nil)
      obtain ⟨gQ, e26, _⟩ := hk9.ex 13 rfl
      replace hfr9 := hfr9.cons e26
      replace hst9 := hst9.fin (L' := [_, _, _]) (.cons e26 <| .cons e26 <| .nil)
      try simp only [List.take_succ_cons, List.take_zero, List.drop_succ_cons, List.drop_zero, List.cons_append, List.nil_append, List.append_nil, List.length_cons, List.length_nil, Nat.zero_add, Nat.reduceAdd] at hst9
      obtain ⟨⟨qa, qb⟩, hN, hst9⟩ := hst9.unx (k := 2) rfl (fun _ => rfl)
      replace h_t := h_t.mono hle9
      replace h_i := h_i.mono hle9
      replace h_r := h_r.mono hle9
      replace hc5 := hc5.mono hle9
      replace hc6 := hc6.mono hle9
      replace hc7 := hc7.mono hle9
      replace hgS := hgS.mono hle9
      replace hsT := hsT.mono hle9
      replace hsR := hsR.mono hle9
      have hlh9 := hlh8.trans hle9
      clear hst8 hfr8 hk9
      refine hK25 _ _ ?_; clear hK25
      refine join_any (T := [(10, _), (11, _), (5, _), (7, _), (9, _), (12, _), (13, _)]) (fun (y : QQ) => ([] : List (Nat × Value))) (fun y => [_, _, .blk (.pointer (some ⟨gQ, 0, none⟩)) (.cells (subV y).toArray 43)]) (fun (y : QQ) m => (fun (q1 : QQ) => (SubR m ⟨(withS S9 i r).ts, []⟩ (subV q1))) y) (((qa, qb))) ⟨hst9, MLe.refl _, hfr9.sub (.cons rfl <| .cons rfl <| .cons rfl <| .cons rfl <| .cons rfl <| .cons rfl <| .cons rfl <| .nil), trivial⟩ (fun y a10 w10 m10 hh10 => ?_) (fun K28 hj28 => ?_)
      · have hst10 := hh10.st; have hle10 := hh10.le; have hfr10 := hh10.fr; have hrel := hh10.rel; clear hh10
        replace h_t := h_t.mono hle10
        replace h_r := h_r.mono hle10
        replace hc5 := hc5.mono hle10
        replace hc7 := hc7.mono hle10
        replace hgS := hgS.mono hle10
        replace hsR := hsR.mono hle10
        clear hst9 hfr9
        have hlh10 := hlh9.trans hle10
        obtain ⟨q1, rfl⟩ : ∃ z, z = y := ⟨_, rfl⟩
        try dsimp only at hrel
        try dsimp only at hfr10
        try dsimp only at hst10
        have hJ1 := hrel
        refine join_any (T := [(10, _), (11, _), (5, _), (9, _), (12, _), (13, _)]) (fun (y : QQ) => ([] : List (Nat × Value))) (fun y => [_, _, .blk (.pointer (some ⟨gQ, 0, none⟩)) (.cells (subV y).toArray 43)]) (fun (y : QQ) m => (fun (q2 : QQ) => (SubR m (withS S9 i r) (subV q2))) y) ((q1)) ⟨hst10, MLe.refl _, hfr10.sub (.cons rfl <| .cons rfl <| .cons rfl <| .cons rfl <| .cons rfl <| .cons rfl <| .nil), trivial⟩ (fun y a11 w11 m11 hh11 => ?_) (fun K29 hj29 => ?_)
        · have hst11 := hh11.st; have hle11 := hh11.le; have hfr11 := hh11.fr; have hrel := hh11.rel; clear hh11
          replace h_t := h_t.mono hle11
          replace hc5 := hc5.mono hle11
          replace hgS := hgS.mono hle11
          clear hst10 hfr10
          have hlh11 := hlh10.trans hle11
          obtain ⟨q2, rfl⟩ : ∃ z, z = y := ⟨_, rfl⟩
          try dsimp only at hrel
          try dsimp only at hfr11
          try dsimp only at hst11
          have hJ2 := hrel
          refine seq_any fun _ hK30 => ?_
          replace hst11 := hst11.more (r := .free) trivial List.nodup_nil (by simp [Res.blocks])
          refine ra0 (tch := [(5, 3, (fun v => .blk v _)), (6, 3, (fun v => .blkx v _ _))]) hst11 hfr11 (.cons rfl (ob_loadLA (j := 1) rfl rfl Try.isAgg35 Try.sizeOf35 rfl) <| .cons rfl (ob_call (φ := MP.tyn (applyT (freshS S9 1000) S9.ty) (1000 + (S9.ts.length : Int) + (S9.rs.length : Int))) rfl (.cons rfl <| .cons rfl <| .nil) Try.call15 (fun w m hK => by have hle_ := KC.le hK; have hA := KC.agree hK; have hgS := hgS.mono hle_; exact FnG.mono (fresh_c (s := S9) (k := 1000) hA hgS (by rw [hty9]; omega) ⟨by omega, by omega⟩ (by omega)) fun _ _ _ _ h => h)) <| .cons rfl (ob_imgV 106 rfl rfl rfl fun y106 => ob_move rfl) <| .cons rfl (ob_imgV 104 rfl rfl rfl fun y104 => ob_extract rfl rfl) <| .cons rfl (ob_imgV 104 rfl rfl rfl fun y104 => ob_extract rfl rfl) <| .consT rfl rfl (fun _ => rfl) rfl (ob_allocL Try.zeroValue27 rfl) <| .consT rfl rfl (fun _ => rfl) rfl (ob_imgT 14 rfl rfl rfl fun y14 => ob_imgTX 107 rfl rfl rfl fun y107 => ob_storeF rfl rfl rfl rfl rfl Try.sizeOf27 rfl rfl rfl) <| .consA 108 rfl rfl <| .nil) ?_
          intro a12 w12 m12 hst12 hle12 hk12
          have hfr12 := hk12.fr (T' := [(10, _), (11, _), (5, _), (9, _), (12, _), (13, _)]) (.old rfl rfl <| .old rfl rfl <| .old rfl rfl <| .old rfl rfl <| .old rfl rfl <| .old rfl rfl <| .nil)
          obtain ⟨y31, e31, hy31⟩ := hk12.ex 108 rfl
          obtain ⟨g32, e32, _⟩ := hk12.ex 14 rfl
          replace hfr12 := hfr12.cons e32
          replace hfr12 := hfr12.cons (hk12.same 15 rfl e31)
          replace hst12 := hst12.fin (L' := [_, _, _, _]) (.cons e32 <| .cons e32 <| .nil)
          try simp only [List.take_succ_cons, List.take_zero, List.drop_succ_cons, List.drop_zero, List.cons_append, List.nil_append, List.append_nil, List.length_cons, List.length_nil, Nat.zero_add, Nat.reduceAdd] at hst12
          obtain ⟨⟨⟨oF, cF⟩, oG, cG⟩, hF, hst12⟩ := hst12.unx (k := 3) rfl (fun _ => rfl)
          replace h_t := h_t.mono hle12
          replace hc5 := hc5.mono hle12
          replace hgS := hgS.mono hle12
          replace hJ2 := hJ2.mono hle12
          have hlh12 := hlh11.trans hle12
          clear hst11 hfr11 hk12
          refine hK30 _ _ ?_; clear hK30
          refine seq_any fun _ hK34 => ?_
          refine region_plain (fun _ => mixed) hst12 hfr12 (by kernel_rfl) (by kernel_rfl) (.cons rfl (ob_move rfl) <| .cons rfl (ob_move rfl) <| .cons rfl (ob_loadLA (j := 1) rfl rfl Try.isAgg35 Try.sizeOf35 rfl) <| .cons rfl (ob_loadS' rfl hc5 Try.isAgg27 Try.sizeOf27 rfl rfl) <| .cons rfl (ob_callE rfl (.cons rfl <| .cons rfl <| .nil) Try.call16 (fun w m hK => by have hle_ := KC.le hK; have hA := KC.agree hK; have h_t := h_t.mono hle_; have hgS := hgS.mono hle_; exact (show FnV Try.prog 16 #[_, _] _ _ (fun _ _ v => v = .bool true) from by have h9 := instance_c (s := S9) (t := t) hA hgS h_t (by rw [hty9]; omega) (by omega); rw [hi1] at h9; exact h9))) <| .cons rfl (ob_and rfl rfl rfl) <| .cons rfl (ob_move rfl) <| .cons rfl (ob_loadLA (j := 1) rfl rfl Try.isAgg35 Try.sizeOf35 rfl) <| .cons rfl (ob_loadLA (j := 3) rfl rfl Try.isAgg27 Try.sizeOf27 rfl) <| .cons rfl (ob_callE rfl (.cons rfl <| .cons rfl <| .nil) Try.call16 (fun w m hK => by have hle_ := KC.le hK; have hA := KC.agree hK; have hgS := hgS.mono hle_; have hF := hF.mono hle_; exact (show FnV Try.prog 16 #[_, _] _ _ (fun _ _ v => v = .bool true) from by have h9 := instance_c (s := S9) (t := (applyT (freshS S9 1000) S9.ty)) hA hgS hF (by rw [hty9]; omega) (by have := applyT_wd (freshS_w (B := 0) S9 1000) S9.ty; rw [hty9] at this ⊢; omega); rw [hi2] at h9; exact h9))) <| .cons rfl (ob_and rfl rfl rfl) <| .cons rfl (ob_move rfl) <| .cons rfl (ob_loadLA (j := 1) rfl rfl Try.isAgg35 Try.sizeOf35 rfl) <| .cons rfl (ob_loadLA (j := 2) rfl rfl Try.isAgg43 Try.sizeOf43 rfl) <| .cons rfl (ob_loadS' rfl hc5 Try.isAgg27 Try.sizeOf27 rfl rfl) <| .cons rfl (ob_call (φ := MP.ty (applyT (withS S9 i r) t)) rfl (.cons rfl <| .cons rfl <| .nil) Try.call17 (fun w m hK => by have hle_ := KC.le hK; have hA := KC.agree hK; have h_t := h_t.mono hle_; have hJ2 := hJ2.mono hle_; exact FnG.mono (apply_c t hA hJ2 h_t (withS_w (by omega) (by omega)) (by omega)) fun _ _ _ _ h => h)) <| .cons rfl (ob_imgE 124 rfl rfl rfl fun y124 => ob_callE rfl (.cons rfl <| .cons rfl <| .nil) Try.call16 (fun w m hK => by have hle_ := KC.le hK; have hA := KC.agree hK; have hr0_ := hK.2; have hgS := hgS.mono hle_; exact (show FnV Try.prog 16 #[_, _] _ _ (fun _ _ v => v = .bool true) from by have h9 := instance_c (s := S9) (t := applyT (withS S9 i r) t) hA hgS hr0_ (by rw [hty9]; omega) (by have := applyT_wd (withS_w (B := 100000000) (s := S9) (i := i) (r := r) (by omega) (by omega)) t; omega); rw [hi3] at h9; exact h9))) <| .cons rfl (ob_and rfl rfl rfl) <| .cons rfl (ob_move rfl) <| .cons rfl (ob_move rfl) <| .cons rfl (ob_fieldAddrO (off := 0) rfl Try.underlying35 rfl rfl Try.sizeOf33 rfl) <| .cons rfl (ob_loadL (j := 1) rfl rfl Try.isAgg33 rfl) <| .cons rfl (ob_len rfl Try.underlying33) <| .cons rfl (ob_add rfl rfl ⟨by omega, by omega⟩) <| .cons rfl (ob_fieldAddrO (off := 1) rfl Try.underlying35 rfl rfl Try.sizeOf33 rfl) <| .cons rfl (ob_loadL (j := 1) rfl rfl Try.isAgg33 rfl) <| .cons rfl (ob_len rfl Try.underlying33) <| .cons rfl (ob_add rfl rfl ⟨by omega, by omega⟩) <| .cons rfl (ob_eql rfl rfl) <| .cons rfl (ob_and rfl rfl rfl) <| .cons rfl (ob_assign rfl) <| .nil) ?_
          intro a13 w13 m13 hst13 hle13 hk13
          have hfr13 := hk13.fr (T' := [(10, _), (11, _), (8, _)]) (.old rfl rfl <| .old rfl rfl <| .new rfl <| .nil)
          have hlh13 := hlh12.trans hle13
          clear hst12 hfr12 hk13
          refine hK34 _ _ ?_; clear hK34
          refine wp_ret ?_
          repeat (with_reducible first | refine then_ret ?_ | refine block_ret ?_)
          exact fn_ret hst13 hfr13 rfl (.tmp rfl <| .nil) (by refine congrArg Value.bool ?_; simp)
        · have hlj29 : MLe m10 m10 := MLe.refl _
          refine seq_any fun _ hK36 => ?_
          refine rp0 hst10 hfr10 (.cons rfl (ob_fieldAddrO (off := 1) rfl Try.underlying35 rfl rfl Try.sizeOf33 rfl) <| .cons rfl (ob_loadL (j := 1) rfl rfl Try.isAgg33 rfl) <| .cons rfl (ob_len rfl Try.underlying33) <| .cons rfl (ob_gtr rfl rfl) <| .nil) ?_
          intro a11 w11 m11 hst11 hle11 hk11
          have hfr11 := hk11.fr (T' := [(10, _), (11, _), (5, _), (7, _), (9, _), (12, _), (13, _), (96, _)]) (.old rfl rfl <| .old rfl rfl <| .old rfl rfl <| .old rfl rfl <| .old rfl rfl <| .old rfl rfl <| .old rfl rfl <| .new rfl <| .nil)
          replace h_r := h_r.mono hle11
          replace hc7 := hc7.mono hle11
          replace hsR := hsR.mono hle11
          replace hJ1 := hJ1.mono hle11
          have hlh11 := hlh10.trans hle11
          replace hlj29 := hlj29.trans hle11
          clear hst10 hfr10 hk11
          refine hK36 _ _ ?_; clear hK36
          refine cond_any hfr11 rfl rfl (fun hb96 => ?_) (fun hb96 => ?_)
          · try simp only [nq1, nq2, nq3, nq4, nq5, nq6, nq7, nq8, nq9, u8_eq] at hb96
            obtain ⟨p37, vs37, x37, ho37, hd37, hm_x37, ht37, hcv37, hl37, hv37⟩ := hsR.nth (k := 0) (by omega)
            cases ho37
            subst hv37
            refine region_any (tch := [(7, 2, (fun _ => .blkx _ _ _))]) (fun _ => mixed) hst11 hfr11 (by kernel_rfl) (by kernel_rfl) (by kernel_rfl) (.cons rfl (ob_loadLA (j := 2) rfl rfl Try.isAgg43 Try.sizeOf43 rfl) <| .cons rfl (ob_fieldAddrO (off := 1) rfl Try.underlying35 rfl rfl Try.sizeOf33 rfl) <| .cons rfl (ob_loadL (j := 1) rfl rfl Try.isAgg33 rfl) <| .cons rfl (ob_indexAddr (k := 0) rfl rfl Try.underlying33 Try.sizeOf3 rfl (by omega)) <| .cons rfl (ob_load1' rfl hcv37 Try.isAgg3 rfl) <| .cons rfl (ob_loadS' rfl hc7 Try.isAgg25 Try.sizeOf25 rfl rfl) <| .cons rfl (ob_call (φ := MP.sub ⟨(withS S9 i r).ts, aset x37 r []⟩) rfl (.cons rfl <| .cons rfl <| .cons rfl <| .nil) Try.call14 (fun w m hK => by have hle_ := KC.le hK; have hA := KC.agree hK; have h_r := h_r.mono hle_; have hJ1 := hJ1.mono hle_; exact FnG.mono (setRow_c (s := ⟨(withS S9 i r).ts, []⟩) (n := x37) (r := r) hA hJ1 h_r (by omega)) fun _ _ _ _ h => h)) <| .consT rfl rfl (fun _ => rfl) rfl (ob_imgTX 103 rfl rfl rfl fun y103 => ob_store' rfl rfl rfl Try.sizeOf43 rfl rfl rfl) <| .nil) ?_
            intro a12 w12 m12 hst12 hle12 hk12
            have hfr12 := hk12.fr (T' := [(10, _), (11, _), (5, _), (9, _), (12, _), (13, _)]) (.old rfl rfl <| .old rfl rfl <| .old rfl rfl <| .old rfl rfl <| .old rfl rfl <| .old rfl rfl <| .nil)
            replace hst12 := hst12.fin (L' := [_, _, _]) (.cons rfl <| .nil)
            try simp only [List.take_succ_cons, List.take_zero, List.drop_succ_cons, List.drop_zero, List.cons_append, List.nil_append, List.append_nil, List.length_cons, List.length_nil, Nat.zero_add, Nat.reduceAdd] at hst12
            obtain ⟨⟨qe, qf⟩, hN2, hst12⟩ := hst12.unx (k := 2) rfl (fun _ => rfl)
            have hlh12 := hlh11.trans hle12
            replace hlj29 := hlj29.trans hle12
            clear hst11 hfr11 hk12
            have hu2 : (⟨(withS S9 i r).ts, aset x37 r []⟩ : Sub) = (withS S9 i r) := by rw [show (withS S9 i r) = ⟨(withS S9 i r).ts, (withS S9 i r).rs⟩ from rfl, withS_rs.1 _ _ hd37]; rfl
            rw [hu2] at hN2
            repeat (with_reducible first | refine then_exit ?_ | refine block_exit ?_ | refine block_normal ?_)
            exact hj29 ((qe, qf)) _ _ _ ⟨hst12, hlj29, hfr12.sub (.cons rfl <| .cons rfl <| .cons rfl <| .cons rfl <| .cons rfl <| .cons rfl <| .nil), hN2⟩
          · try simp only [nq1, nq2, nq3, nq4, nq5, nq6, nq7, nq8, nq9, u8_eq] at hb96
            have hu2 : (⟨(withS S9 i r).ts, []⟩ : Sub) = (withS S9 i r) := by rw [show (withS S9 i r) = ⟨(withS S9 i r).ts, (withS S9 i r).rs⟩ from rfl, withS_rs.2 (by omega)]
            refine wp_skip ?_
            repeat (with_reducible first | refine then_exit ?_ | refine block_exit ?_ | refine block_normal ?_)
            exact hj29 (q1) _ _ _ ⟨hst11, hlj29, hfr11.sub (.cons rfl <| .cons rfl <| .cons rfl <| .cons rfl <| .cons rfl <| .cons rfl <| .nil), (hu2 ▸ hJ1)⟩
      · have hlj28 : MLe m9 m9 := MLe.refl _
        refine seq_any fun _ hK39 => ?_
        refine rp0 hst9 hfr9 (.cons rfl (ob_fieldAddrO (off := 0) rfl Try.underlying35 rfl rfl Try.sizeOf33 rfl) <| .cons rfl (ob_loadL (j := 1) rfl rfl Try.isAgg33 rfl) <| .cons rfl (ob_len rfl Try.underlying33) <| .cons rfl (ob_gtr rfl rfl) <| .nil) ?_
        intro a10 w10 m10 hst10 hle10 hk10
        have hfr10 := hk10.fr (T' := [(10, _), (11, _), (5, _), (6, _), (7, _), (9, _), (12, _), (13, _), (85, _)]) (.old rfl rfl <| .old rfl rfl <| .old rfl rfl <| .old rfl rfl <| .old rfl rfl <| .old rfl rfl <| .old rfl rfl <| .old rfl rfl <| .new rfl <| .nil)
        replace h_i := h_i.mono hle10
        replace hc6 := hc6.mono hle10
        replace hsT := hsT.mono hle10
        replace hN := hN.mono hle10
        have hlh10 := hlh9.trans hle10
        replace hlj28 := hlj28.trans hle10
        clear hst9 hfr9 hk10
        refine hK39 _ _ ?_; clear hK39
        refine cond_any hfr10 rfl rfl (fun hb85 => ?_) (fun hb85 => ?_)
        · try simp only [nq1, nq2, nq3, nq4, nq5, nq6, nq7, nq8, nq9, u8_eq] at hb85
          obtain ⟨p40, vs40, x40, ho40, hd40, hm_x40, ht40, hcv40, hl40, hv40⟩ := hsT.nth (k := 0) (by omega)
          cases ho40
          subst hv40
          refine region_any (tch := [(7, 2, (fun _ => .blkx _ _ _))]) (fun _ => mixed) hst10 hfr10 (by kernel_rfl) (by kernel_rfl) (by kernel_rfl) (.cons rfl (ob_loadLA (j := 2) rfl rfl Try.isAgg43 Try.sizeOf43 rfl) <| .cons rfl (ob_fieldAddrO (off := 0) rfl Try.underlying35 rfl rfl Try.sizeOf33 rfl) <| .cons rfl (ob_loadL (j := 1) rfl rfl Try.isAgg33 rfl) <| .cons rfl (ob_indexAddr (k := 0) rfl rfl Try.underlying33 Try.sizeOf3 rfl (by omega)) <| .cons rfl (ob_load1' rfl hcv40 Try.isAgg3 rfl) <| .cons rfl (ob_loadS' rfl hc6 Try.isAgg27 Try.sizeOf27 rfl rfl) <| .cons rfl (ob_call (φ := MP.sub ⟨aset x40 i noneS.ts, noneS.rs⟩) rfl (.cons rfl <| .cons rfl <| .cons rfl <| .nil) Try.call13 (fun w m hK => by have hle_ := KC.le hK; have hA := KC.agree hK; have h_i := h_i.mono hle_; have hN := hN.mono hle_; exact FnG.mono (setType_c (s := noneS) (n := x40) (t := i) hA hN h_i (by omega)) fun _ _ _ _ h => h)) <| .consT rfl rfl (fun _ => rfl) rfl (ob_imgTX 92 rfl rfl rfl fun y92 => ob_store' rfl rfl rfl Try.sizeOf43 rfl rfl rfl) <| .nil) ?_
          intro a11 w11 m11 hst11 hle11 hk11
          have hfr11 := hk11.fr (T' := [(10, _), (11, _), (5, _), (7, _), (9, _), (12, _), (13, _)]) (.old rfl rfl <| .old rfl rfl <| .old rfl rfl <| .old rfl rfl <| .old rfl rfl <| .old rfl rfl <| .old rfl rfl <| .nil)
          replace hst11 := hst11.fin (L' := [_, _, _]) (.cons rfl <| .nil)
          try simp only [List.take_succ_cons, List.take_zero, List.drop_succ_cons, List.drop_zero, List.cons_append, List.nil_append, List.append_nil, List.length_cons, List.length_nil, Nat.zero_add, Nat.reduceAdd] at hst11
          obtain ⟨⟨qc, qd⟩, hN1, hst11⟩ := hst11.unx (k := 2) rfl (fun _ => rfl)
          have hlh11 := hlh10.trans hle11
          replace hlj28 := hlj28.trans hle11
          clear hst10 hfr10 hk11
          have hu1 : (⟨aset x40 i noneS.ts, noneS.rs⟩ : Sub) = ⟨(withS S9 i r).ts, []⟩ := by rw [withS_ts.1 _ _ hd40]; rfl
          rw [hu1] at hN1
          repeat (with_reducible first | refine then_exit ?_ | refine block_exit ?_ | refine block_normal ?_)
          exact hj28 ((qc, qd)) _ _ _ ⟨hst11, hlj28, hfr11.sub (.cons rfl <| .cons rfl <| .cons rfl <| .cons rfl <| .cons rfl <| .cons rfl <| .cons rfl <| .nil), hN1⟩
        · try simp only [nq1, nq2, nq3, nq4, nq5, nq6, nq7, nq8, nq9, u8_eq] at hb85
          have hu1 : noneS = ⟨(withS S9 i r).ts, []⟩ := by rw [withS_ts.2 (by omega)]; rfl
          refine wp_skip ?_
          repeat (with_reducible first | refine then_exit ?_ | refine block_exit ?_ | refine block_normal ?_)
          exact hj28 ((qa, qb)) _ _ _ ⟨hst10, hlj28, hfr10.sub (.cons rfl <| .cons rfl <| .cons rfl <| .cons rfl <| .cons rfl <| .cons rfl <| .cons rfl <| .nil), (hu1 ▸ hN)⟩

end Go.Proofs.Ytmpponcnohakdaa
