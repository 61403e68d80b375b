/-
  How many pieces a type has, how often a variable stands in it, whether it is large. Conditions: those of each theorem.
-/
import Derived.Test.YtlidonjpgigocaaGreatSub7
namespace Go.Proofs.YtlidonjpgigocaaGreat
set_option linter.all false
set_option maxRecDepth 4000
open Go.RowKit
mutual
/-- How often a variable stands in a type. -/
def usesT (n : Int) : Ty → Nat
  | ⟨k, _, v, ts, _, _⟩ => if k = 7 ∧ v = n then 1 else usesTs n ts
def usesTs (n : Int) : List Ty → Nat
  | [] => 0
  | t :: ts => usesT n t + usesTs n ts
end
theorem usesT_eq (n : Int) (t : Ty) : usesT n t = if t.kind = 7 ∧ t.var = n then 1 else usesTs n t.args := by obtain ⟨k, nm, v, ts, ls, r⟩ := t; rw [usesT]; rfl
theorem usesT_cnt (n : Int) (t : Ty) : usesT n t ≤ cntT t := by
  induction t using Ty.rec_ with
  | h t ih =>
    have hk := args_all t ih (fun l => usesTs n l ≤ cntTs l) (by simp [usesTs, cntTs]) (fun x l hx hl => by simp only [usesTs, cntTs]; omega)
    rw [usesT_eq, cntT_eq]; split <;> omega
theorem usesTs_mem {n : Int} : ∀ {l : List Ty} {u : Ty}, u ∈ l → usesT n u ≤ usesTs n l
  | t :: ts, u, h => by
    rw [usesTs]
    rcases List.mem_cons.1 h with rfl | h
    · omega
    · have := usesTs_mem (n := n) h; omega
/-- Has a type too many pieces, or is it too deep? -/
def largeT (t : Ty) : Bool := decide (1000 < cntT t) || decide (200 < deepT t)
abbrev pieces_G (t : Ty) : Prop := ∀ {w : World} {m : Mem} {vs_t : List Value} (hA : Agree w m) (h_t : TyR m t vs_t) (hb : cntT t ≤ 1000000000000000000), FnV Tryz.prog 34 #[.agg vs_t.toArray] w m (fun _ _ v => v = .int .i64 (cntT t : Int))
set_option maxHeartbeats 400000 in
theorem pieces_s {t : Ty} (ih : ∀ u ∈ t.args, pieces_G u) {w : World} {m : Mem} {vs_t : List Value} (hA : Agree w m) (h_t : TyR m t vs_t) (hb : cntT t ≤ 1000000000000000000) : FnV Tryz.prog 34 #[.agg vs_t.toArray] w m (fun _ _ v => v = .int .i64 (cntT t : Int)) := by
  obtain ⟨o_t, c_t, oL_t, cL_t, rfl, hk_t, hs_t, hi_t, hj_t, hr_t⟩ := h_t.open_
  have hbg_t := hk_t.big; have hcp_t := hk_t.cap; have hbs_t := hs_t.big; have hcs_t := hs_t.cap
  have hrw_t : RwR _ ⟨t.labels, t.rv⟩ _ := ⟨_, _, rfl, hs_t, hr_t⟩
  refine fn_enter (vs := [_]) Tryz.func34 rfl rfl rfl fun a0 hfr0 => ?_
  have hst0 := st_enter hA (loc_nil [] _ w m)
  have hM : MLe m m := MLe.refl m
  have hce := cntT_eq t
  have hbk := fun u (hu : u ∈ t.args) => cntTs_mem hu
  refine seq_any fun _ hK1 => ?_
  refine rp0 hst0 hfr0 (.cons rfl (ob_box rfl rfl) <| .cons rfl (ob_assign rfl) <| .nil) ?_
  intro a1 w1 m1 hst1 hle1 hk1
  have hfr1 := hk1.fr (T' := []) (.nil)
  obtain ⟨g2, e2, hc1⟩ := hk1.ex 1 rfl
  replace hfr1 := hfr1.cons e2
  replace h_t := h_t.mono hle1
  replace hk_t := hk_t.mono hle1
  replace hs_t := hs_t.mono hle1
  replace hrw_t := hrw_t.mono hle1
  clear hst0 hfr0 hk1
  refine hK1 _ _ ?_; clear hK1
  refine seq_any fun _ hK3 => ?_
  refine rp0 hst1 hfr1 (.cons rfl (ob_assign rfl) <| .nil) ?_
  intro a2 w2 m2 hst2 hle2 hk2
  have hfr2 := hk2.fr (T' := [(1, _), (3, _)]) (.old rfl rfl <| .new rfl <| .nil)
  replace h_t := h_t.mono hle2
  replace hk_t := hk_t.mono hle2
  replace hs_t := hs_t.mono hle2
  replace hrw_t := hrw_t.mono hle2
  replace hc1 := hc1.mono hle2
  clear hst1 hfr1 hk2
  refine hK3 _ _ ?_; clear hK3
  refine seq_any fun _ hK4 => ?_
  refine seq_any fun _ hK5 => ?_
  refine rp0 hst2 hfr2 (.cons rfl (ob_fieldAddrO (off := 3) rfl Tryz.underlying45 rfl rfl Tryz.sizeOf33 rfl) <| .cons rfl (ob_load1 rfl hc1 Tryz.isAgg33 rfl) <| .cons rfl (ob_len rfl Tryz.underlying33) <| .cons rfl (ob_move rfl) <| .nil) ?_
  intro a3 w3 m3 hst3 hle3 hk3
  have hfr3 := hk3.fr (T' := [(3, _), (7, _), (8, _), (9, _)]) (.old rfl rfl <| .new rfl <| .new rfl <| .new rfl <| .nil)
  replace h_t := h_t.mono hle3
  replace hk_t := hk_t.mono hle3
  replace hs_t := hs_t.mono hle3
  replace hrw_t := hrw_t.mono hle3
  replace hc1 := hc1.mono hle3
  clear hst2 hfr2 hk3
  refine hK5 _ _ ?_; clear hK5
  refine wp_block ?_
  refine loop_any (T := [(7, _), (8, _)]) (fun (y : Nat × Int) => ([(3, .int .i64 y.2), (9, .int .i64 (y.1 : Int))] : List (Nat × Value))) (fun _ => _) (fun (y : Nat × Int) m => (fun (y : Nat) (a : Int) => (y ≤ t.args.length) ∧ (a + cntTs (t.args.drop y) = (cntT t : Int)) ∧ (0 ≤ a)) y.1 y.2) (fun y => t.args.length - y.1) ((0, 1)) ⟨hst3, MLe.refl _, hfr3.sub (.cons rfl <| .cons rfl <| .cons rfl <| .cons rfl <| .nil), ⟨Nat.zero_le _, by rw [List.drop_zero]; omega, by omega⟩⟩ fun y a4 w4 m4 hh4 => ?_
  have hst4 := hh4.st; have hle4 := hh4.le; have hfr4 := hh4.fr; have hrel := hh4.rel; clear hh4
  replace h_t := h_t.mono hle4
  replace hk_t := hk_t.mono hle4
  replace hs_t := hs_t.mono hle4
  replace hrw_t := hrw_t.mono hle4
  replace hc1 := hc1.mono hle4
  clear hst3 hfr3
  obtain ⟨y, a⟩ := y
  dsimp only at hrel hfr4 hst4
  obtain ⟨hyn, ha, ha0⟩ := hrel
  have hlh4 := hle4
  refine seq_any fun _ hK7 => ?_
  refine rp0 hst4 hfr4 (.cons rfl (ob_lss rfl rfl) <| .nil) ?_
  intro a5 w5 m5 hst5 hle5 hk5
  have hfr5 := hk5.fr (T' := [(3, _), (9, _), (7, _), (8, _), (10, _)]) (.old rfl rfl <| .old rfl rfl <| .old rfl rfl <| .old rfl rfl <| .new rfl <| .nil)
  replace h_t := h_t.mono hle5
  replace hk_t := hk_t.mono hle5
  replace hs_t := hs_t.mono hle5
  replace hrw_t := hrw_t.mono hle5
  replace hc1 := hc1.mono hle5
  have hlh5 := hlh4.trans hle5
  clear hst4 hfr4 hk5
  refine hK7 _ _ ?_; clear hK7
  refine seq_any fun _ hK8 => ?_
  refine cond_any hfr5 rfl rfl (fun hb10 => ?_) (fun hb10 => ?_)
  · try simp only [nq1, nq2, nq3, nq4, nq5, nq6, nq7, nq8, nq9, u8_eq] at hb10
    refine wp_skip ?_
    refine hK8 _ _ ?_; clear hK8
    refine seq_any fun _ hK9 => ?_
    refine wp_block ?_
    refine seq_any fun _ hK10 => ?_
    obtain ⟨p11, vs11, x11, ho11, hd11, hm_x11, ht11, hcv11, hl11, hv11⟩ := hk_t.nth (k := y) (by omega)
    cases ho11
    obtain ⟨o11, c11, oL11, cL11, rfl, hkd11, hs11, hi11, hj11, hr11⟩ := hv11.open_
    have hbg11 := hkd11.big; have hcp11 := hkd11.cap; have hbs11 := hs11.big; have hcs11 := hs11.cap
    have hrw11 : RwR _ ⟨x11.labels, x11.rv⟩ _ := ⟨_, _, rfl, hs11, hr11⟩
    have hbx11 := hbk _ hm_x11
    replace hst5 := hst5.more (r := .free) trivial List.nodup_nil (by simp [Res.blocks])
    refine ra0 (tch := [(2, 0, (fun v => .blk v _)), (3, 0, (fun v => .blk v _))]) hst5 hfr5 (.cons rfl (ob_indexAddr (k := y) rfl rfl Tryz.underlying33 Tryz.sizeOf45 rfl (by omega)) <| .cons rfl (ob_loadS' rfl hcv11 Tryz.isAgg45 Tryz.sizeOf45 rfl rfl) <| .consT rfl rfl (fun _ => rfl) rfl (ob_allocL Tryz.zeroValue45 rfl) <| .consT rfl rfl (fun _ => rfl) rfl (ob_imgT 5 rfl rfl rfl fun y5 => ob_storeF rfl rfl rfl rfl rfl Tryz.sizeOf45 rfl rfl rfl) <| .nil) ?_
    intro a6 w6 m6 hst6 hle6 hk6
    have hfr6 := hk6.fr (T' := [(3, _), (9, _), (7, _), (8, _)]) (.old rfl rfl <| .old rfl rfl <| .old rfl rfl <| .old rfl rfl <| .nil)
    obtain ⟨g12, e12, _⟩ := hk6.ex 5 rfl
    replace hfr6 := hfr6.cons e12
    replace hst6 := hst6.fin (L' := [_]) (.cons e12 <| .cons e12 <| .nil)
    replace h_t := h_t.mono hle6
    replace hk_t := hk_t.mono hle6
    replace hs_t := hs_t.mono hle6
    replace hrw_t := hrw_t.mono hle6
    replace hc1 := hc1.mono hle6
    replace hcv11 := hcv11.mono hle6
    replace hv11 := hv11.mono hle6
    replace hkd11 := hkd11.mono hle6
    replace hs11 := hs11.mono hle6
    replace hrw11 := hrw11.mono hle6
    have hlh6 := hlh5.trans hle6
    clear hst5 hfr5 hk6
    refine hK10 _ _ ?_; clear hK10
    refine rp0 hst6 hfr6 (.cons rfl (ob_move rfl) <| .cons rfl (ob_loadLS' (j := 0) rfl rfl Tryz.isAgg45 Tryz.sizeOf45 rfl rfl) <| .cons rfl (ob_callE rfl (.cons rfl <| .nil) Tryz.call34 (fun w m hK => by have hle_ := KC.le hK; have hA := KC.agree hK; have h_t := h_t.mono hle_; have hk_t := hk_t.mono hle_; have hs_t := hs_t.mono hle_; have hrw_t := hrw_t.mono hle_; have hc1 := hc1.mono hle_; have hcv11 := hcv11.mono hle_; have hv11 := hv11.mono hle_; have hkd11 := hkd11.mono hle_; have hs11 := hs11.mono hle_; have hrw11 := hrw11.mono hle_; exact ih _ (by assumption) hA (by assumption) (by have := hbk _ (by assumption); omega))) <| .cons rfl (ob_add rfl rfl ⟨by omega, by omega⟩) <| .cons rfl (ob_assign rfl) <| .nil) ?_
    intro a7 w7 m7 hst7 hle7 hk7
    have hfr7 := hk7.fr (T' := [(9, _), (7, _), (8, _), (3, _)]) (.old rfl rfl <| .old rfl rfl <| .old rfl rfl <| .new rfl <| .nil)
    have hlh7 := hlh6.trans hle7
    clear hst6 hfr6 hk7
    refine hK9 _ _ ?_; clear hK9
    refine rp0 hst7 hfr7 (.cons rfl (ob_add rfl rfl ⟨by omega, by omega⟩) <| .cons rfl (ob_move rfl) <| .nil) ?_
    intro a8 w8 m8 hst8 hle8 hk8
    have hfr8 := hk8.fr (T' := [(7, _), (8, _), (3, _), (9, _)]) (.old rfl rfl <| .old rfl rfl <| .old rfl rfl <| .new rfl <| .nil)
    have hlh8 := hlh7.trans hle8
    clear hst7 hfr7 hk8
    have hst8 := hst8.take 0
    exact ⟨(y + 1, (a + (cntT x11 : Int))), m8, by show t.args.length - (y + 1) < t.args.length - y; omega, ⟨hst8, hlh8, hfr8.sub (.cons rfl <| .cons rfl <| .cons rfl <| .cons rfl <| .nil), ⟨by show y + 1 ≤ t.args.length; omega, by rw [hd11, cntTs] at ha; show a + (cntT x11 : Int) + ((cntTs (t.args.drop (y + 1)) : Nat) : Int) = ((cntT t : Nat) : Int); omega, by show 0 ≤ a + (cntT x11 : Int); omega⟩⟩⟩
  · try simp only [nq1, nq2, nq3, nq4, nq5, nq6, nq7, nq8, nq9, u8_eq] at hb10
    have hge : y = t.args.length := by omega
    rw [List.drop_of_length_le (by omega), cntTs] at ha
    refine wp_exit ?_
    refine hK4 _ _ ?_; clear hK4
    refine seq_any fun _ hK13 => ?_
    refine rp0 hst5 hfr5 (.cons rfl (ob_move rfl) <| .cons rfl (ob_assign rfl) <| .nil) ?_
    intro a6 w6 m6 hst6 hle6 hk6
    have hfr6 := hk6.fr (T' := [(3, _), (9, _), (2, _)]) (.old rfl rfl <| .old rfl rfl <| .new rfl <| .nil)
    have hlh6 := hlh5.trans hle6
    clear hst5 hfr5 hk6
    refine hK13 _ _ ?_; clear hK13
    refine wp_ret ?_
    repeat (with_reducible first | refine then_ret ?_ | refine block_ret ?_)
    exact fn_ret hst6 hfr6 rfl (.tmp rfl <| .nil) (by refine congrArg (Value.int _) ?_; omega)
theorem pieces_c (t : Ty) : pieces_G t := Ty.rec_ (p := pieces_G) (fun t ih => pieces_s ih) t

abbrev uses_G (t : Ty) : Prop := ∀ {w : World} {m : Mem} {vs_t : List Value} {n : Int} (hA : Agree w m) (h_t : TyR m t vs_t) (hb : cntT t ≤ 1000000000000000000), FnV Tryz.prog 84 #[.agg vs_t.toArray, .int .i64 n] w m (fun _ _ v => v = .int .i64 (usesT n t : Int))
set_option maxHeartbeats 400000 in
theorem uses_s {t : Ty} (ih : ∀ u ∈ t.args, uses_G u) {w : World} {m : Mem} {vs_t : List Value} {n : Int} (hA : Agree w m) (h_t : TyR m t vs_t) (hb : cntT t ≤ 1000000000000000000) : FnV Tryz.prog 84 #[.agg vs_t.toArray, .int .i64 n] w m (fun _ _ v => v = .int .i64 (usesT n t : Int)) := by
  obtain ⟨o_t, c_t, oL_t, cL_t, rfl, hk_t, hs_t, hi_t, hj_t, hr_t⟩ := h_t.open_
  have hbg_t := hk_t.big; have hcp_t := hk_t.cap; have hbs_t := hs_t.big; have hcs_t := hs_t.cap
  have hrw_t : RwR _ ⟨t.labels, t.rv⟩ _ := ⟨_, _, rfl, hs_t, hr_t⟩
  refine fn_enter (vs := [_, _]) Tryz.func84 rfl rfl rfl fun a0 hfr0 => ?_
  have hst0 := st_enter hA (loc_nil [] _ w m)
  have hM : MLe m m := MLe.refl m
  have hce := cntT_eq t
  have hue := usesT_eq n t
  have huc := usesT_cnt n t
  have hbk := fun u (hu : u ∈ t.args) => cntTs_mem hu
  refine seq_any fun _ hK1 => ?_
  refine rp0 hst0 hfr0 (.cons rfl (ob_box rfl rfl) <| .cons rfl (ob_assign rfl) <| .nil) ?_
  intro a1 w1 m1 hst1 hle1 hk1
  have hfr1 := hk1.fr (T' := [(1, _)]) (.old rfl rfl <| .nil)
  obtain ⟨g2, e2, hc2⟩ := hk1.ex 2 rfl
  replace hfr1 := hfr1.cons e2
  replace h_t := h_t.mono hle1
  replace hk_t := hk_t.mono hle1
  replace hs_t := hs_t.mono hle1
  replace hrw_t := hrw_t.mono hle1
  clear hst0 hfr0 hk1
  refine hK1 _ _ ?_; clear hK1
  refine seq_any fun _ hK3 => ?_
  refine seq_any fun _ hK4 => ?_
  refine rp0 hst1 hfr1 (.cons rfl (ob_fieldAddrO (off := 0) rfl Tryz.underlying45 rfl rfl Tryz.sizeOf3 rfl) <| .cons rfl (ob_load1 rfl hc2 Tryz.isAgg3 rfl) <| .cons rfl (ob_eql rfl rfl) <| .cons rfl (ob_move rfl) <| .cons rfl (ob_fieldAddrO (off := 2) rfl Tryz.underlying45 rfl rfl Tryz.sizeOf3 rfl) <| .cons rfl (ob_load1 rfl hc2 Tryz.isAgg3 rfl) <| .cons rfl (ob_move rfl) <| .cons rfl (ob_eql rfl rfl) <| .cons rfl (ob_and rfl rfl rfl) <| .nil) ?_
  intro a2 w2 m2 hst2 hle2 hk2
  have hfr2 := hk2.fr (T' := [(1, _), (2, _), (16, _)]) (.old rfl rfl <| .old rfl rfl <| .new rfl <| .nil)
  replace h_t := h_t.mono hle2
  replace hk_t := hk_t.mono hle2
  replace hs_t := hs_t.mono hle2
  replace hrw_t := hrw_t.mono hle2
  replace hc2 := hc2.mono hle2
  clear hst1 hfr1 hk2
  refine hK4 _ _ ?_; clear hK4
  refine cond_any hfr2 rfl rfl (fun hb16 => ?_) (fun hb16 => ?_)
  · try simp only [nq1, nq2, nq3, nq4, nq5, nq6, nq7, nq8, nq9, u8_eq] at hb16
    rw [if_pos hb16] at hue
    refine seq_any fun _ hK5 => ?_
    refine rp0 hst2 hfr2 (.cons rfl (ob_assign rfl) <| .nil) ?_
    intro a3 w3 m3 hst3 hle3 hk3
    have hfr3 := hk3.fr (T' := [(4, _)]) (.new rfl <| .nil)
    clear hst2 hfr2 hk3
    refine hK5 _ _ ?_; clear hK5
    refine wp_ret ?_
    repeat (with_reducible first | refine then_ret ?_ | refine block_ret ?_)
    exact fn_ret hst3 hfr3 rfl (.tmp rfl <| .nil) (by refine congrArg (Value.int _) ?_; omega)
  · try simp only [nq1, nq2, nq3, nq4, nq5, nq6, nq7, nq8, nq9, u8_eq] at hb16
    rw [if_neg (fun h => by rcases hb16 with h1 | h1; (exact h1 h.1); exact h1 h.2)] at hue
    refine wp_skip ?_
    refine hK3 _ _ ?_; clear hK3
    refine seq_any fun _ hK7 => ?_
    refine rp0 hst2 hfr2 (.cons rfl (ob_assign rfl) <| .nil) ?_
    intro a3 w3 m3 hst3 hle3 hk3
    have hfr3 := hk3.fr (T' := [(1, _), (2, _), (5, _)]) (.old rfl rfl <| .old rfl rfl <| .new rfl <| .nil)
    replace h_t := h_t.mono hle3
    replace hk_t := hk_t.mono hle3
    replace hs_t := hs_t.mono hle3
    replace hrw_t := hrw_t.mono hle3
    replace hc2 := hc2.mono hle3
    clear hst2 hfr2 hk3
    refine hK7 _ _ ?_; clear hK7
    refine seq_any fun _ hK8 => ?_
    refine seq_any fun _ hK9 => ?_
    refine rp0 hst3 hfr3 (.cons rfl (ob_fieldAddrO (off := 3) rfl Tryz.underlying45 rfl rfl Tryz.sizeOf33 rfl) <| .cons rfl (ob_load1 rfl hc2 Tryz.isAgg33 rfl) <| .cons rfl (ob_len rfl Tryz.underlying33) <| .cons rfl (ob_move rfl) <| .nil) ?_
    intro a4 w4 m4 hst4 hle4 hk4
    have hfr4 := hk4.fr (T' := [(1, _), (5, _), (18, _), (19, _), (20, _)]) (.old rfl rfl <| .old rfl rfl <| .new rfl <| .new rfl <| .new rfl <| .nil)
    replace h_t := h_t.mono hle4
    replace hk_t := hk_t.mono hle4
    replace hs_t := hs_t.mono hle4
    replace hrw_t := hrw_t.mono hle4
    replace hc2 := hc2.mono hle4
    clear hst3 hfr3 hk4
    refine hK9 _ _ ?_; clear hK9
    refine wp_block ?_
    refine loop_any (T := [(1, _), (18, _), (19, _)]) (fun (y : Nat × Int) => ([(5, .int .i64 y.2), (20, .int .i64 (y.1 : Int))] : List (Nat × Value))) (fun _ => _) (fun (y : Nat × Int) m => (fun (y : Nat) (a : Int) => (y ≤ t.args.length) ∧ (a + usesTs n (t.args.drop y) = (usesT n t : Int)) ∧ (0 ≤ a)) y.1 y.2) (fun y => t.args.length - y.1) ((0, 0)) ⟨hst4, MLe.refl _, hfr4.sub (.cons rfl <| .cons rfl <| .cons rfl <| .cons rfl <| .cons rfl <| .nil), ⟨Nat.zero_le _, by rw [List.drop_zero]; omega, by omega⟩⟩ fun y a5 w5 m5 hh5 => ?_
    have hst5 := hh5.st; have hle5 := hh5.le; have hfr5 := hh5.fr; have hrel := hh5.rel; clear hh5
    replace h_t := h_t.mono hle5
    replace hk_t := hk_t.mono hle5
    replace hs_t := hs_t.mono hle5
    replace hrw_t := hrw_t.mono hle5
    replace hc2 := hc2.mono hle5
    clear hst4 hfr4
    obtain ⟨y, a⟩ := y
    dsimp only at hrel hfr5 hst5
    obtain ⟨hyn, ha, ha0⟩ := hrel
    have hlh5 := hle5
    refine seq_any fun _ hK11 => ?_
    refine rp0 hst5 hfr5 (.cons rfl (ob_lss rfl rfl) <| .nil) ?_
    intro a6 w6 m6 hst6 hle6 hk6
    have hfr6 := hk6.fr (T' := [(5, _), (20, _), (1, _), (18, _), (19, _), (21, _)]) (.old rfl rfl <| .old rfl rfl <| .old rfl rfl <| .old rfl rfl <| .old rfl rfl <| .new rfl <| .nil)
    replace h_t := h_t.mono hle6
    replace hk_t := hk_t.mono hle6
    replace hs_t := hs_t.mono hle6
    replace hrw_t := hrw_t.mono hle6
    replace hc2 := hc2.mono hle6
    have hlh6 := hlh5.trans hle6
    clear hst5 hfr5 hk6
    refine hK11 _ _ ?_; clear hK11
    refine seq_any fun _ hK12 => ?_
    refine cond_any hfr6 rfl rfl (fun hb21 => ?_) (fun hb21 => ?_)
    · try simp only [nq1, nq2, nq3, nq4, nq5, nq6, nq7, nq8, nq9, u8_eq] at hb21
      refine wp_skip ?_
      refine hK12 _ _ ?_; clear hK12
      refine seq_any fun _ hK13 => ?_
      refine wp_block ?_
      refine seq_any fun _ hK14 => ?_
      obtain ⟨p15, vs15, x15, ho15, hd15, hm_x15, ht15, hcv15, hl15, hv15⟩ := hk_t.nth (k := y) (by omega)
      cases ho15
      obtain ⟨o15, c15, oL15, cL15, rfl, hkd15, hs15, hi15, hj15, hr15⟩ := hv15.open_
      have hbg15 := hkd15.big; have hcp15 := hkd15.cap; have hbs15 := hs15.big; have hcs15 := hs15.cap
      have hrw15 : RwR _ ⟨x15.labels, x15.rv⟩ _ := ⟨_, _, rfl, hs15, hr15⟩
      have hbx15 := hbk _ hm_x15
      have hux15 := usesT_cnt n x15
      replace hst6 := hst6.more (r := .free) trivial List.nodup_nil (by simp [Res.blocks])
      refine ra0 (tch := [(2, 0, (fun v => .blk v _)), (3, 0, (fun v => .blk v _))]) hst6 hfr6 (.cons rfl (ob_indexAddr (k := y) rfl rfl Tryz.underlying33 Tryz.sizeOf45 rfl (by omega)) <| .cons rfl (ob_loadS' rfl hcv15 Tryz.isAgg45 Tryz.sizeOf45 rfl rfl) <| .consT rfl rfl (fun _ => rfl) rfl (ob_allocL Tryz.zeroValue45 rfl) <| .consT rfl rfl (fun _ => rfl) rfl (ob_imgT 7 rfl rfl rfl fun y7 => ob_storeF rfl rfl rfl rfl rfl Tryz.sizeOf45 rfl rfl rfl) <| .nil) ?_
      intro a7 w7 m7 hst7 hle7 hk7
      have hfr7 := hk7.fr (T' := [(5, _), (20, _), (1, _), (18, _), (19, _)]) (.old rfl rfl <| .old rfl rfl <| .old rfl rfl <| .old rfl rfl <| .old rfl rfl <| .nil)
      obtain ⟨g16, e16, _⟩ := hk7.ex 7 rfl
      replace hfr7 := hfr7.cons e16
      replace hst7 := hst7.fin (L' := [_]) (.cons e16 <| .cons e16 <| .nil)
      replace h_t := h_t.mono hle7
      replace hk_t := hk_t.mono hle7
      replace hs_t := hs_t.mono hle7
      replace hrw_t := hrw_t.mono hle7
      replace hc2 := hc2.mono hle7
      replace hcv15 := hcv15.mono hle7
      replace hv15 := hv15.mono hle7
      replace hkd15 := hkd15.mono hle7
      replace hs15 := hs15.mono hle7
      replace hrw15 := hrw15.mono hle7
      have hlh7 := hlh6.trans hle7
      clear hst6 hfr6 hk7
      refine hK14 _ _ ?_; clear hK14
      refine rp0 hst7 hfr7 (.cons rfl (ob_move rfl) <| .cons rfl (ob_loadLS' (j := 0) rfl rfl Tryz.isAgg45 Tryz.sizeOf45 rfl rfl) <| .cons rfl (ob_move rfl) <| .cons rfl (ob_callE rfl (.cons rfl <| .cons rfl <| .nil) Tryz.call84 (fun w m hK => by have hle_ := KC.le hK; have hA := KC.agree hK; have h_t := h_t.mono hle_; have hk_t := hk_t.mono hle_; have hs_t := hs_t.mono hle_; have hrw_t := hrw_t.mono hle_; have hc2 := hc2.mono hle_; have hcv15 := hcv15.mono hle_; have hv15 := hv15.mono hle_; have hkd15 := hkd15.mono hle_; have hs15 := hs15.mono hle_; have hrw15 := hrw15.mono hle_; exact ih _ (by assumption) hA (by assumption) (by have := hbk _ (by assumption); omega))) <| .cons rfl (ob_add rfl rfl ⟨by omega, by omega⟩) <| .cons rfl (ob_assign rfl) <| .nil) ?_
      intro a8 w8 m8 hst8 hle8 hk8
      have hfr8 := hk8.fr (T' := [(20, _), (1, _), (18, _), (19, _), (5, _)]) (.old rfl rfl <| .old rfl rfl <| .old rfl rfl <| .old rfl rfl <| .new rfl <| .nil)
      have hlh8 := hlh7.trans hle8
      clear hst7 hfr7 hk8
      refine hK13 _ _ ?_; clear hK13
      refine rp0 hst8 hfr8 (.cons rfl (ob_add rfl rfl ⟨by omega, by omega⟩) <| .cons rfl (ob_move rfl) <| .nil) ?_
      intro a9 w9 m9 hst9 hle9 hk9
      have hfr9 := hk9.fr (T' := [(1, _), (18, _), (19, _), (5, _), (20, _)]) (.old rfl rfl <| .old rfl rfl <| .old rfl rfl <| .old rfl rfl <| .new rfl <| .nil)
      have hlh9 := hlh8.trans hle9
      clear hst8 hfr8 hk9
      have hst9 := hst9.take 0
      exact ⟨(y + 1, (a + (usesT n x15 : Int))), m9, by show t.args.length - (y + 1) < t.args.length - y; omega, ⟨hst9, hlh9, hfr9.sub (.cons rfl <| .cons rfl <| .cons rfl <| .cons rfl <| .cons rfl <| .nil), ⟨by show y + 1 ≤ t.args.length; omega, by rw [hd15, usesTs] at ha; show a + (usesT n x15 : Int) + ((usesTs n (t.args.drop (y + 1)) : Nat) : Int) = ((usesT n t : Nat) : Int); omega, by show 0 ≤ a + (usesT n x15 : Int); omega⟩⟩⟩
    · try simp only [nq1, nq2, nq3, nq4, nq5, nq6, nq7, nq8, nq9, u8_eq] at hb21
      have hge : y = t.args.length := by omega
      rw [List.drop_of_length_le (by omega), usesTs] at ha
      refine wp_exit ?_
      refine hK8 _ _ ?_; clear hK8
      refine seq_any fun _ hK17 => ?_
      refine rp0 hst6 hfr6 (.cons rfl (ob_move rfl) <| .cons rfl (ob_assign rfl) <| .nil) ?_
      intro a7 w7 m7 hst7 hle7 hk7
      have hfr7 := hk7.fr (T' := [(5, _), (20, _), (4, _)]) (.old rfl rfl <| .old rfl rfl <| .new rfl <| .nil)
      have hlh7 := hlh6.trans hle7
      clear hst6 hfr6 hk7
      refine hK17 _ _ ?_; clear hK17
      refine wp_ret ?_
      repeat (with_reducible first | refine then_ret ?_ | refine block_ret ?_)
      exact fn_ret hst7 hfr7 rfl (.tmp rfl <| .nil) (by refine congrArg (Value.int _) ?_; omega)
theorem uses_c (t : Ty) : uses_G t := Ty.rec_ (p := uses_G) (fun t ih => uses_s ih) t

abbrev depth_G (t : Ty) : Prop := ∀ {w : World} {m : Mem} {vs_t : List Value} {left : Nat} (hA : Agree w m) (h_t : TyR m t vs_t) (hl : left ≤ 1000), FnV Tryz.prog 53 #[.agg vs_t.toArray, .int .i64 (left : Int)] w m (fun _ _ v => v = .int .i64 (depthT left t : Int))
set_option maxHeartbeats 400000 in
theorem depth_s {t : Ty} (ih : ∀ u ∈ t.args, depth_G u) {w : World} {m : Mem} {vs_t : List Value} {left : Nat} (hA : Agree w m) (h_t : TyR m t vs_t) (hl : left ≤ 1000) : FnV Tryz.prog 53 #[.agg vs_t.toArray, .int .i64 (left : Int)] w m (fun _ _ v => v = .int .i64 (depthT left t : Int)) := by
  obtain ⟨o_t, c_t, oL_t, cL_t, rfl, hk_t, hs_t, hi_t, hj_t, hr_t⟩ := h_t.open_
  have hbg_t := hk_t.big; have hcp_t := hk_t.cap; have hbs_t := hs_t.big; have hcs_t := hs_t.cap
  have hrw_t : RwR _ ⟨t.labels, t.rv⟩ _ := ⟨_, _, rfl, hs_t, hr_t⟩
  refine fn_enter (vs := [_, _]) Tryz.func53 rfl rfl rfl fun a0 hfr0 => ?_
  have hst0 := st_enter hA (loc_nil [] _ w m)
  have hM : MLe m m := MLe.refl m
  have hdm := depthT_min t left
  refine seq_any fun _ hK1 => ?_
  refine rp0 hst0 hfr0 (.cons rfl (ob_box rfl rfl) <| .cons rfl (ob_assign rfl) <| .nil) ?_
  intro a1 w1 m1 hst1 hle1 hk1
  have hfr1 := hk1.fr (T' := [(1, _)]) (.old rfl rfl <| .nil)
  obtain ⟨g2, e2, hc2⟩ := hk1.ex 2 rfl
  replace hfr1 := hfr1.cons e2
  replace h_t := h_t.mono hle1
  replace hk_t := hk_t.mono hle1
  replace hs_t := hs_t.mono hle1
  replace hrw_t := hrw_t.mono hle1
  clear hst0 hfr0 hk1
  refine hK1 _ _ ?_; clear hK1
  refine seq_any fun _ hK3 => ?_
  refine seq_any fun _ hK4 => ?_
  refine rp0 hst1 hfr1 (.cons rfl (ob_move rfl) <| .cons rfl (ob_eql rfl rfl) <| .nil) ?_
  intro a2 w2 m2 hst2 hle2 hk2
  have hfr2 := hk2.fr (T' := [(1, _), (2, _), (9, _)]) (.old rfl rfl <| .old rfl rfl <| .new rfl <| .nil)
  replace h_t := h_t.mono hle2
  replace hk_t := hk_t.mono hle2
  replace hs_t := hs_t.mono hle2
  replace hrw_t := hrw_t.mono hle2
  replace hc2 := hc2.mono hle2
  clear hst1 hfr1 hk2
  refine hK4 _ _ ?_; clear hK4
  refine cond_any hfr2 rfl rfl (fun hb9 => ?_) (fun hb9 => ?_)
  · try simp only [nq1, nq2, nq3, nq4, nq5, nq6, nq7, nq8, nq9, u8_eq] at hb9
    refine seq_any fun _ hK5 => ?_
    refine rp0 hst2 hfr2 (.cons rfl (ob_assign rfl) <| .nil) ?_
    intro a3 w3 m3 hst3 hle3 hk3
    have hfr3 := hk3.fr (T' := [(4, _)]) (.new rfl <| .nil)
    clear hst2 hfr2 hk3
    refine hK5 _ _ ?_; clear hK5
    refine wp_ret ?_
    repeat (with_reducible first | refine then_ret ?_ | refine block_ret ?_)
    exact fn_ret hst3 hfr3 rfl (.tmp rfl <| .nil) (by refine congrArg (Value.int _) ?_; rw [depthT_eq]; split <;> omega)
  · try simp only [nq1, nq2, nq3, nq4, nq5, nq6, nq7, nq8, nq9, u8_eq] at hb9
    refine wp_skip ?_
    refine hK3 _ _ ?_; clear hK3
    refine seq_any fun _ hK7 => ?_
    refine rp0 hst2 hfr2 (.cons rfl (ob_assign rfl) <| .nil) ?_
    intro a3 w3 m3 hst3 hle3 hk3
    have hfr3 := hk3.fr (T' := [(1, _), (2, _), (5, _)]) (.old rfl rfl <| .old rfl rfl <| .new rfl <| .nil)
    replace h_t := h_t.mono hle3
    replace hk_t := hk_t.mono hle3
    replace hs_t := hs_t.mono hle3
    replace hrw_t := hrw_t.mono hle3
    replace hc2 := hc2.mono hle3
    clear hst2 hfr2 hk3
    refine hK7 _ _ ?_; clear hK7
    refine seq_any fun _ hK8 => ?_
    refine seq_any fun _ hK9 => ?_
    refine rp0 hst3 hfr3 (.cons rfl (ob_fieldAddrO (off := 3) rfl Tryz.underlying45 rfl rfl Tryz.sizeOf33 rfl) <| .cons rfl (ob_load1 rfl hc2 Tryz.isAgg33 rfl) <| .cons rfl (ob_len rfl Tryz.underlying33) <| .cons rfl (ob_move rfl) <| .nil) ?_
    intro a4 w4 m4 hst4 hle4 hk4
    have hfr4 := hk4.fr (T' := [(1, _), (5, _), (11, _), (12, _), (13, _)]) (.old rfl rfl <| .old rfl rfl <| .new rfl <| .new rfl <| .new rfl <| .nil)
    replace h_t := h_t.mono hle4
    replace hk_t := hk_t.mono hle4
    replace hs_t := hs_t.mono hle4
    replace hrw_t := hrw_t.mono hle4
    replace hc2 := hc2.mono hle4
    clear hst3 hfr3 hk4
    refine hK9 _ _ ?_; clear hK9
    refine wp_block ?_
    refine loop_any (T := [(1, _), (11, _), (12, _)]) (fun (y : Nat × Int) => ([(5, .int .i64 y.2), (13, .int .i64 (y.1 : Int))] : List (Nat × Value))) (fun y => []) (fun (y : Nat × Int) m => (fun (y : Nat) (a : Int) => (y ≤ t.args.length) ∧ (a = (depthTs (left - 1) (t.args.take y) : Int)) ∧ (a ≤ 1000)) y.1 y.2) (fun y => t.args.length - y.1) ((0, 0)) ⟨hst4, MLe.refl _, hfr4.sub (.cons rfl <| .cons rfl <| .cons rfl <| .cons rfl <| .cons rfl <| .nil), ⟨Nat.zero_le _, rfl, by omega⟩⟩ fun y a5 w5 m5 hh5 => ?_
    have hst5 := hh5.st; have hle5 := hh5.le; have hfr5 := hh5.fr; have hrel := hh5.rel; clear hh5
    replace h_t := h_t.mono hle5
    replace hk_t := hk_t.mono hle5
    replace hs_t := hs_t.mono hle5
    replace hrw_t := hrw_t.mono hle5
    replace hc2 := hc2.mono hle5
    clear hst4 hfr4
    obtain ⟨y, a⟩ := y
    dsimp only at hrel hfr5 hst5
    obtain ⟨hyn, ha, ha2⟩ := hrel
    have hlh5 := hle5
    refine seq_any fun _ hK11 => ?_
    refine rp0 hst5 hfr5 (.cons rfl (ob_lss rfl rfl) <| .nil) ?_
    intro a6 w6 m6 hst6 hle6 hk6
    have hfr6 := hk6.fr (T' := [(5, _), (13, _), (1, _), (11, _), (12, _), (14, _)]) (.old rfl rfl <| .old rfl rfl <| .old rfl rfl <| .old rfl rfl <| .old rfl rfl <| .new rfl <| .nil)
    replace h_t := h_t.mono hle6
    replace hk_t := hk_t.mono hle6
    replace hs_t := hs_t.mono hle6
    replace hrw_t := hrw_t.mono hle6
    replace hc2 := hc2.mono hle6
    have hlh6 := hlh5.trans hle6
    clear hst5 hfr5 hk6
    refine hK11 _ _ ?_; clear hK11
    refine seq_any fun _ hK12 => ?_
    refine cond_any hfr6 rfl rfl (fun hb14 => ?_) (fun hb14 => ?_)
    · try simp only [nq1, nq2, nq3, nq4, nq5, nq6, nq7, nq8, nq9, u8_eq] at hb14
      refine wp_skip ?_
      refine hK12 _ _ ?_; clear hK12
      refine seq_any fun _ hK13 => ?_
      refine wp_block ?_
      refine seq_any fun _ hK14 => ?_
      obtain ⟨p15, vs15, x15, ho15, hd15, hm_x15, ht15, hcv15, hl15, hv15⟩ := hk_t.nth (k := y) (by omega)
      cases ho15
      obtain ⟨o15, c15, oL15, cL15, rfl, hkd15, hs15, hi15, hj15, hr15⟩ := hv15.open_
      have hbg15 := hkd15.big; have hcp15 := hkd15.cap; have hbs15 := hs15.big; have hcs15 := hs15.cap
      have hrw15 : RwR _ ⟨x15.labels, x15.rv⟩ _ := ⟨_, _, rfl, hs15, hr15⟩
      replace hst6 := hst6.more (r := .free) trivial List.nodup_nil (by simp [Res.blocks])
      refine ra0 (tch := [(2, 0, (fun v => .blk v _)), (3, 0, (fun v => .blk v _))]) hst6 hfr6 (.cons rfl (ob_indexAddr (k := y) rfl rfl Tryz.underlying33 Tryz.sizeOf45 rfl (by omega)) <| .cons rfl (ob_loadS' rfl hcv15 Tryz.isAgg45 Tryz.sizeOf45 rfl rfl) <| .consT rfl rfl (fun _ => rfl) rfl (ob_allocL Tryz.zeroValue45 rfl) <| .consT rfl rfl (fun _ => rfl) rfl (ob_imgT 7 rfl rfl rfl fun y7 => ob_storeF rfl rfl rfl rfl rfl Tryz.sizeOf45 rfl rfl rfl) <| .nil) ?_
      intro a7 w7 m7 hst7 hle7 hk7
      have hfr7 := hk7.fr (T' := [(5, _), (13, _), (1, _), (11, _), (12, _)]) (.old rfl rfl <| .old rfl rfl <| .old rfl rfl <| .old rfl rfl <| .old rfl rfl <| .nil)
      obtain ⟨g16, e16, _⟩ := hk7.ex 7 rfl
      replace hfr7 := hfr7.cons e16
      replace hst7 := hst7.fin (L' := [_]) (.cons e16 <| .cons e16 <| .nil)
      replace h_t := h_t.mono hle7
      replace hk_t := hk_t.mono hle7
      replace hs_t := hs_t.mono hle7
      replace hrw_t := hrw_t.mono hle7
      replace hc2 := hc2.mono hle7
      replace hcv15 := hcv15.mono hle7
      replace hv15 := hv15.mono hle7
      replace hkd15 := hkd15.mono hle7
      replace hs15 := hs15.mono hle7
      replace hrw15 := hrw15.mono hle7
      have hlh7 := hlh6.trans hle7
      clear hst6 hfr6 hk7
      refine hK14 _ _ ?_; clear hK14
      have el : ((left - 1 : Nat) : Int) = (left : Int) - 1 := by omega
      refine rp0 hst7 hfr7 (.cons rfl (ob_move rfl) <| .cons rfl (ob_loadLS' (j := 0) rfl rfl Tryz.isAgg45 Tryz.sizeOf45 rfl rfl) <| .cons rfl (ob_move rfl) <| .cons rfl (ob_sub rfl rfl ⟨by omega, by omega⟩) <| .cons rfl (ob_callE rfl (.cons rfl <| .cons rfl <| .nil) Tryz.call53 (fun w m hK => by have hle_ := KC.le hK; have hA := KC.agree hK; have h_t := h_t.mono hle_; have hk_t := hk_t.mono hle_; have hs_t := hs_t.mono hle_; have hrw_t := hrw_t.mono hle_; have hc2 := hc2.mono hle_; have hcv15 := hcv15.mono hle_; have hv15 := hv15.mono hle_; have hkd15 := hkd15.mono hle_; have hs15 := hs15.mono hle_; have hrw15 := hrw15.mono hle_; exact (show FnV Tryz.prog 53 #[_, .int .i64 ((left : Int) - 1)] _ _ _ from by rw [← el]; exact ih _ (by assumption) hA (by assumption) (by omega)))) <| .cons rfl (ob_max2 rfl rfl) <| .cons rfl (ob_assign rfl) <| .nil) ?_
      intro a8 w8 m8 hst8 hle8 hk8
      have hfr8 := hk8.fr (T' := [(13, _), (1, _), (11, _), (12, _), (5, _)]) (.old rfl rfl <| .old rfl rfl <| .old rfl rfl <| .old rfl rfl <| .new rfl <| .nil)
      have hlh8 := hlh7.trans hle8
      clear hst7 hfr7 hk8
      refine hK13 _ _ ?_; clear hK13
      refine rp0 hst8 hfr8 (.cons rfl (ob_add rfl rfl ⟨by omega, by omega⟩) <| .cons rfl (ob_move rfl) <| .nil) ?_
      intro a9 w9 m9 hst9 hle9 hk9
      have hfr9 := hk9.fr (T' := [(1, _), (11, _), (12, _), (5, _), (13, _)]) (.old rfl rfl <| .old rfl rfl <| .old rfl rfl <| .old rfl rfl <| .new rfl <| .nil)
      have hlh9 := hlh8.trans hle9
      clear hst8 hfr8 hk9
      have hst9 := hst9.take 0
      have hz : (if ((depthT (left - 1) x15 : Nat) : Int) > a then ((depthT (left - 1) x15 : Nat) : Int) else a) = ((depthTs (left - 1) (t.args.take (y + 1)) : Nat) : Int) := by rw [ht15, depthTs_snoc, ha]; split <;> omega
      rw [hz] at hfr9
      exact ⟨(y + 1, _), m9, by show t.args.length - (y + 1) < t.args.length - y; omega, ⟨hst9, hlh9, hfr9.sub (.cons rfl <| .cons rfl <| .cons rfl <| .cons rfl <| .cons rfl <| .nil), ⟨by show y + 1 ≤ t.args.length; omega, rfl, by have h8 := depthT_min x15 (left - 1); show ((depthTs (left - 1) (t.args.take (y + 1)) : Nat) : Int) ≤ 1000; rw [ht15, depthTs_snoc]; omega⟩⟩⟩
    · try simp only [nq1, nq2, nq3, nq4, nq5, nq6, nq7, nq8, nq9, u8_eq] at hb14
      have hge : y = t.args.length := by omega
      rw [List.take_of_length_le (by omega)] at ha
      refine wp_exit ?_
      refine hK8 _ _ ?_; clear hK8
      refine seq_any fun _ hK17 => ?_
      refine rp0 hst6 hfr6 (.cons rfl (ob_move rfl) <| .cons rfl (ob_add rfl rfl ⟨by omega, by omega⟩) <| .cons rfl (ob_assign rfl) <| .nil) ?_
      intro a7 w7 m7 hst7 hle7 hk7
      have hfr7 := hk7.fr (T' := [(5, _), (13, _), (4, _)]) (.old rfl rfl <| .old rfl rfl <| .new rfl <| .nil)
      have hlh7 := hlh6.trans hle7
      clear hst6 hfr6 hk7
      refine hK17 _ _ ?_; clear hK17
      refine wp_ret ?_
      repeat (with_reducible first | refine then_ret ?_ | refine block_ret ?_)
      exact fn_ret hst7 hfr7 rfl (.tmp rfl <| .nil) (by refine congrArg (Value.int _) ?_; rw [depthT_eq]; split <;> omega)
theorem depth_c (t : Ty) : depth_G t := Ty.rec_ (p := depth_G) (fun t ih => depth_s ih) t

set_option maxHeartbeats 400000 in
theorem depth0_c {w : World} {m : Mem} {t : Ty} {vs_t : List Value} (hA : Agree w m) (h_t : TyR m t vs_t) : FnV Tryz.prog 35 #[.agg vs_t.toArray] w m (fun _ _ v => v = .int .i64 (min 201 (deepT t) : Nat)) := by
  obtain ⟨o_t, c_t, oL_t, cL_t, rfl, hk_t, hs_t, hi_t, hj_t, hr_t⟩ := h_t.open_
  have hbg_t := hk_t.big; have hcp_t := hk_t.cap; have hbs_t := hs_t.big; have hcs_t := hs_t.cap
  have hrw_t : RwR _ ⟨t.labels, t.rv⟩ _ := ⟨_, _, rfl, hs_t, hr_t⟩
  refine fn_enter (vs := [_]) Tryz.func35 rfl rfl rfl fun a0 hfr0 => ?_
  have hst0 := st_enter hA (loc_nil [] _ w m)
  have hM : MLe m m := MLe.refl m
  have hdm := depthT_min t 200
  refine seq_any fun _ hK1 => ?_
  refine rp0 hst0 hfr0 (.cons rfl (ob_box rfl rfl) <| .cons rfl (ob_assign rfl) <| .nil) ?_
  intro a1 w1 m1 hst1 hle1 hk1
  have hfr1 := hk1.fr (T' := []) (.nil)
  obtain ⟨g2, e2, hc1⟩ := hk1.ex 1 rfl
  replace hfr1 := hfr1.cons e2
  replace h_t := h_t.mono hle1
  clear hst0 hfr0 hk1
  refine hK1 _ _ ?_; clear hK1
  refine seq_any fun _ hK3 => ?_
  refine rp0 hst1 hfr1 (.cons rfl (ob_loadS' rfl hc1 Tryz.isAgg45 Tryz.sizeOf45 rfl rfl) <| .cons rfl (ob_callE rfl (.cons rfl <| .cons rfl <| .nil) Tryz.call53 (fun w m hK => by have hle_ := KC.le hK; have hA := KC.agree hK; have h_t := h_t.mono hle_; exact depth_c t (left := 200) hA h_t (by omega))) <| .cons rfl (ob_min2 rfl rfl) <| .cons rfl (ob_assign rfl) <| .nil) ?_
  intro a2 w2 m2 hst2 hle2 hk2
  have hfr2 := hk2.fr (T' := [(2, _)]) (.new rfl <| .nil)
  clear hst1 hfr1 hk2
  refine hK3 _ _ ?_; clear hK3
  refine wp_ret ?_
  repeat (with_reducible first | refine then_ret ?_ | refine block_ret ?_)
  exact fn_ret hst2 hfr2 rfl (.tmp rfl <| .nil) (by refine congrArg (Value.int _) ?_; split <;> omega)

set_option maxHeartbeats 400000 in
theorem large_c {w : World} {m : Mem} {t : Ty} {vs_t : List Value} (hA : Agree w m) (h_t : TyR m t vs_t) (hb : cntT t ≤ 1000000000000000000) : FnV Tryz.prog 12 #[.agg vs_t.toArray] w m (fun _ _ v => v = .bool (largeT t)) := by
  obtain ⟨o_t, c_t, oL_t, cL_t, rfl, hk_t, hs_t, hi_t, hj_t, hr_t⟩ := h_t.open_
  have hbg_t := hk_t.big; have hcp_t := hk_t.cap; have hbs_t := hs_t.big; have hcs_t := hs_t.cap
  have hrw_t : RwR _ ⟨t.labels, t.rv⟩ _ := ⟨_, _, rfl, hs_t, hr_t⟩
  refine fn_enter (vs := [_]) Tryz.func12 rfl rfl rfl fun a0 hfr0 => ?_
  have hst0 := st_enter hA (loc_nil [] _ w m)
  have hM : MLe m m := MLe.refl m
  refine seq_any fun _ hK1 => ?_
  refine rp0 hst0 hfr0 (.cons rfl (ob_box rfl rfl) <| .cons rfl (ob_assign rfl) <| .nil) ?_
  intro a1 w1 m1 hst1 hle1 hk1
  have hfr1 := hk1.fr (T' := []) (.nil)
  obtain ⟨g2, e2, hc1⟩ := hk1.ex 1 rfl
  replace hfr1 := hfr1.cons e2
  replace h_t := h_t.mono hle1
  clear hst0 hfr0 hk1
  refine hK1 _ _ ?_; clear hK1
  refine seq_any fun _ hK3 => ?_
  refine rp0 hst1 hfr1 (.cons rfl (ob_loadS' rfl hc1 Tryz.isAgg45 Tryz.sizeOf45 rfl rfl) <| .cons rfl (ob_callE rfl (.cons rfl <| .nil) Tryz.call34 (fun w m hK => by have hle_ := KC.le hK; have hA := KC.agree hK; have h_t := h_t.mono hle_; exact pieces_c t hA h_t hb)) <| .cons rfl (ob_gtr rfl rfl) <| .cons rfl (ob_move rfl) <| .cons rfl (ob_loadS' rfl hc1 Tryz.isAgg45 Tryz.sizeOf45 rfl rfl) <| .cons rfl (ob_callE rfl (.cons rfl <| .nil) Tryz.call35 (fun w m hK => by have hle_ := KC.le hK; have hA := KC.agree hK; have h_t := h_t.mono hle_; exact depth0_c hA h_t)) <| .cons rfl (ob_gtr rfl rfl) <| .cons rfl (ob_or rfl rfl rfl) <| .cons rfl (ob_assign rfl) <| .nil) ?_
  intro a2 w2 m2 hst2 hle2 hk2
  have hfr2 := hk2.fr (T' := [(2, _)]) (.new rfl <| .nil)
  clear hst1 hfr1 hk2
  refine hK3 _ _ ?_; clear hK3
  refine wp_ret ?_
  repeat (with_reducible first | refine then_ret ?_ | refine block_ret ?_)
  exact fn_ret hst2 hfr2 rfl (.tmp rfl <| .nil) (by refine congrArg Value.bool ?_; unfold largeT; rw [Bool.eq_iff_iff]; simp; omega)

set_option maxHeartbeats 400000 in
theorem indexfI_c {w : World} {m : Mem} {o_l : Option Addr} {c_l : Nat} {l : List Int} {cid : Nat} {cap : List Value} {φ : Int → Bool} (hA : Agree w m) (h_l : Ints m o_l l.length c_l l) (hc : ∀ args w, (callFunc cid args).run Tryz.prog w = .ok (.enter cid args) w) (hφ : ∀ w m' (t : Int), MLe m m' → Agree w m' → t ∈ l → FnV Tryz.prog cid ([Value.int .i64 t] ++ cap).toArray w m' (fun _ _ v => v = .bool (φ t))) : FnV Tryz.prog 100 #[.slice o_l l.length c_l, .func (.func cid) #[] cap.toArray] w m (fun _ _ v => ∃ i : Int, v = .int .i64 i ∧ decide (0 ≤ i) = l.any φ) := by
  have hb_l := h_l.big; have hc_l := h_l.cap
  refine fn_enter (vs := [_, _]) Tryz.func100 rfl rfl rfl fun a0 hfr0 => ?_
  have hst0 := st_enter hA (loc_nil [] _ w m)
  have hM : MLe m m := MLe.refl m
  refine seq_any fun _ hK1 => ?_
  refine rp0 hst0 hfr0 (.cons rfl (ob_assign rfl) <| .nil) ?_
  intro a1 w1 m1 hst1 hle1 hk1
  have hfr1 := hk1.fr (T' := [(0, _), (1, _)]) (.old rfl rfl <| .old rfl rfl <| .nil)
  replace h_l := h_l.mono hle1
  replace hM := hM.trans hle1
  clear hst0 hfr0 hk1
  refine hK1 _ _ ?_; clear hK1
  refine seq_any fun _ hK2 => ?_
  refine seq_any fun _ hK3 => ?_
  refine rp0 hst1 hfr1 (.cons rfl (ob_move rfl) <| .cons rfl (ob_len rfl Tryz.underlying32) <| .cons rfl (ob_move rfl) <| .nil) ?_
  intro a2 w2 m2 hst2 hle2 hk2
  have hfr2 := hk2.fr (T' := [(0, _), (1, _), (7, _), (8, _)]) (.old rfl rfl <| .old rfl rfl <| .new rfl <| .new rfl <| .nil)
  replace h_l := h_l.mono hle2
  replace hM := hM.trans hle2
  clear hst1 hfr1 hk2
  refine hK3 _ _ ?_; clear hK3
  refine wp_block ?_
  refine loop_any (T := [(0, _), (1, _), (7, _)]) (fun (y : Nat) => ([(8, .int .i64 (y : Int))] : List (Nat × Value))) (fun _ => _) (fun (y : Nat) m => (y ≤ l.length) ∧ (l.any φ = (l.drop y).any φ)) (fun y => l.length - y) (0) ⟨hst2, MLe.refl _, hfr2.sub (.cons rfl <| .cons rfl <| .cons rfl <| .cons rfl <| .nil), ⟨Nat.zero_le _, rfl⟩⟩ fun y a3 w3 m3 hh3 => ?_
  have hst3 := hh3.st; have hle3 := hh3.le; have hfr3 := hh3.fr; have hrel := hh3.rel; clear hh3
  replace h_l := h_l.mono hle3
  clear hst2 hfr2
  replace hM := hM.trans hle3
  obtain ⟨hyn, hrem⟩ := hrel
  have hlh3 := hle3
  refine seq_any fun _ hK5 => ?_
  refine rp0 hst3 hfr3 (.cons rfl (ob_lss rfl rfl) <| .nil) ?_
  intro a4 w4 m4 hst4 hle4 hk4
  have hfr4 := hk4.fr (T' := [(8, _), (0, _), (1, _), (7, _), (9, _)]) (.old rfl rfl <| .old rfl rfl <| .old rfl rfl <| .old rfl rfl <| .new rfl <| .nil)
  replace h_l := h_l.mono hle4
  have hlh4 := hlh3.trans hle4
  replace hM := hM.trans hle4
  clear hst3 hfr3 hk4
  refine hK5 _ _ ?_; clear hK5
  refine seq_any fun _ hK6 => ?_
  refine cond_any hfr4 rfl rfl (fun hb9 => ?_) (fun hb9 => ?_)
  · try simp only [nq1, nq2, nq3, nq4, nq5, nq6, nq7, nq8, nq9, u8_eq] at hb9
    refine wp_skip ?_
    refine hK6 _ _ ?_; clear hK6
    refine seq_any fun _ hK7 => ?_
    refine wp_block ?_
    refine seq_any fun _ hK8 => ?_
    refine rp0 hst4 hfr4 (.cons rfl (ob_move rfl) <| .cons rfl (ob_assign rfl) <| .nil) ?_
    intro a5 w5 m5 hst5 hle5 hk5
    have hfr5 := hk5.fr (T' := [(8, _), (0, _), (1, _), (7, _), (5, _)]) (.old rfl rfl <| .old rfl rfl <| .old rfl rfl <| .old rfl rfl <| .new rfl <| .nil)
    replace h_l := h_l.mono hle5
    have hlh5 := hlh4.trans hle5
    replace hM := hM.trans hle5
    clear hst4 hfr4 hk5
    refine hK8 _ _ ?_; clear hK8
    refine seq_any fun _ hK9 => ?_
    obtain ⟨p10, vs10, x10, ho10, hd10, hm_x10, ht10, hcv10, hl10, hv10⟩ := h_l.nth (k := y) (by omega)
    cases ho10
    subst hv10
    try rw [hd10] at hrem
    try simp only [List.any_cons, List.any_nil] at hrem
    refine rp0 hst5 hfr5 (.cons rfl (ob_move rfl) <| .cons rfl (ob_move rfl) <| .cons rfl (ob_move rfl) <| .cons rfl (ob_indexAddr (k := y) rfl rfl Tryz.underlying32 Tryz.sizeOf3 rfl (by omega)) <| .cons rfl (ob_load1' rfl hcv10 Tryz.isAgg3 rfl) <| .cons rfl (ob_callE rfl (.cons rfl <| .nil) hc (fun w m hK => by have hle_ := KC.le hK; have hA := KC.agree hK; have hM := hM.trans hle_; exact hφ w m _ hM hA hm_x10)) <| .nil) ?_
    intro a6 w6 m6 hst6 hle6 hk6
    have hfr6 := hk6.fr (T' := [(8, _), (0, _), (1, _), (7, _), (5, _), (16, _)]) (.old rfl rfl <| .old rfl rfl <| .old rfl rfl <| .old rfl rfl <| .old rfl rfl <| .new rfl <| .nil)
    have hlh6 := hlh5.trans hle6
    clear hst5 hfr5 hk6
    refine hK9 _ _ ?_; clear hK9
    refine cond_any hfr6 rfl rfl (fun hb16 => ?_) (fun hb16 => ?_)
    · try simp only [nq1, nq2, nq3, nq4, nq5, nq6, nq7, nq8, nq9, u8_eq] at hb16
      have hres : decide ((0 : Int) ≤ (y : Int)) = l.any φ := by rw [hrem, hb16]; simp
      refine seq_any fun _ hK11 => ?_
      refine rp0 hst6 hfr6 (.cons rfl (ob_move rfl) <| .cons rfl (ob_assign rfl) <| .nil) ?_
      intro a7 w7 m7 hst7 hle7 hk7
      have hfr7 := hk7.fr (T' := [(8, _), (4, _)]) (.old rfl rfl <| .new rfl <| .nil)
      have hlh7 := hlh6.trans hle7
      clear hst6 hfr6 hk7
      refine hK11 _ _ ?_; clear hK11
      refine wp_ret ?_
      repeat (with_reducible first | refine then_ret ?_ | refine block_ret ?_)
      exact fn_ret hst7 hfr7 rfl (.tmp rfl <| .nil) (⟨_, rfl, by first | exact hres | (rw [hrem]; rfl)⟩)
    · try simp only [nq1, nq2, nq3, nq4, nq5, nq6, nq7, nq8, nq9, u8_eq] at hb16
      refine wp_skip ?_
      refine hK7 _ _ ?_; clear hK7
      refine rp0 hst6 hfr6 (.cons rfl (ob_add rfl rfl ⟨by omega, by omega⟩) <| .cons rfl (ob_move rfl) <| .nil) ?_
      intro a7 w7 m7 hst7 hle7 hk7
      have hfr7 := hk7.fr (T' := [(0, _), (1, _), (7, _), (8, _)]) (.old rfl rfl <| .old rfl rfl <| .old rfl rfl <| .new rfl <| .nil)
      have hlh7 := hlh6.trans hle7
      clear hst6 hfr6 hk7
      exact ⟨y + 1, m7, by show l.length - (y + 1) < l.length - y; omega, ⟨hst7, hlh7, hfr7.sub (.cons rfl <| .cons rfl <| .cons rfl <| .cons rfl <| .nil), ⟨by show y + 1 ≤ l.length; omega, by rw [hrem, hb16]; rfl⟩⟩⟩
  · try simp only [nq1, nq2, nq3, nq4, nq5, nq6, nq7, nq8, nq9, u8_eq] at hb9
    have hge : y = l.length := by omega
    rw [List.drop_of_length_le (by omega)] at hrem
    simp only [List.any_cons, List.any_nil] at hrem
    refine wp_exit ?_
    refine hK2 _ _ ?_; clear hK2
    refine seq_any fun _ hK13 => ?_
    refine rp0 hst4 hfr4 (.cons rfl (ob_assign rfl) <| .nil) ?_
    intro a5 w5 m5 hst5 hle5 hk5
    have hfr5 := hk5.fr (T' := [(8, _), (4, _)]) (.old rfl rfl <| .new rfl <| .nil)
    have hlh5 := hlh4.trans hle5
    clear hst4 hfr4 hk5
    refine hK13 _ _ ?_; clear hK13
    refine wp_ret ?_
    repeat (with_reducible first | refine then_ret ?_ | refine block_ret ?_)
    exact fn_ret hst5 hfr5 rfl (.tmp rfl <| .nil) (⟨_, rfl, by first | exact hres | (rw [hrem]; rfl)⟩)

set_option maxHeartbeats 400000 in
theorem containsfI_c {w : World} {m : Mem} {o_l : Option Addr} {c_l : Nat} {l : List Int} {cid : Nat} {cap : List Value} {φ : Int → Bool} (hA : Agree w m) (h_l : Ints m o_l l.length c_l l) (hc : ∀ args w, (callFunc cid args).run Tryz.prog w = .ok (.enter cid args) w) (hφ : ∀ w m' (t : Int), MLe m m' → Agree w m' → t ∈ l → FnV Tryz.prog cid ([Value.int .i64 t] ++ cap).toArray w m' (fun _ _ v => v = .bool (φ t))) : FnV Tryz.prog 81 #[.slice o_l l.length c_l, .func (.func cid) #[] cap.toArray] w m (fun _ _ v => v = .bool (l.any φ)) := by
  have hb_l := h_l.big; have hc_l := h_l.cap
  refine fn_enter (vs := [_, _]) Tryz.func81 rfl rfl rfl fun a0 hfr0 => ?_
  have hst0 := st_enter hA (loc_nil [] _ w m)
  have hM : MLe m m := MLe.refl m
  refine seq_any fun _ hK1 => ?_
  refine rp0 hst0 hfr0 (.cons rfl (ob_assign rfl) <| .nil) ?_
  intro a1 w1 m1 hst1 hle1 hk1
  have hfr1 := hk1.fr (T' := [(0, _), (1, _)]) (.old rfl rfl <| .old rfl rfl <| .nil)
  replace h_l := h_l.mono hle1
  replace hM := hM.trans hle1
  clear hst0 hfr0 hk1
  refine hK1 _ _ ?_; clear hK1
  refine seq_any fun _ hK2 => ?_
  refine ra0 (tch := []) hst1 hfr1 (.cons rfl (ob_move rfl) <| .cons rfl (ob_move rfl) <| .cons rfl (ob_call (φ := MP.mem (fun i : Int => .int .i64 i) (fun i _ => decide (0 ≤ i) = l.any φ) (fun _ h => h)) rfl (.cons rfl <| .cons rfl <| .nil) Tryz.call100 (fun w m hK => by have hle_ := KC.le hK; have hA := KC.agree hK; have hM := hM.trans hle_; have h_l := h_l.mono hle_; exact FnG.mono (indexfI_c (φ := φ) hA h_l hc (fun w m2 t hm ha ht => hφ w m2 t (hM.trans hm) ha ht)) fun _ _ _ _ h => h)) <| .cons rfl (ob_imgV 7 rfl rfl rfl fun y7 => ob_geq rfl rfl) <| .consA 8 rfl rfl <| .nil) ?_
  intro a2 w2 m2 hst2 hle2 hk2
  have hfr2 := hk2.fr (T' := []) (.nil)
  obtain ⟨i, e3, hi⟩ := hk2.ex 8 rfl
  replace hfr2 := hfr2.cons (hk2.same 4 rfl e3)
  clear hst1 hfr1 hk2
  refine hK2 _ _ ?_; clear hK2
  refine wp_ret ?_
  repeat (with_reducible first | refine then_ret ?_ | refine block_ret ?_)
  exact fn_ret hst2 hfr2 rfl (.tmp rfl <| .nil) (by dsimp only at hi; rw [← hi]; rfl)

end Go.Proofs.YtlidonjpgigocaaGreat
