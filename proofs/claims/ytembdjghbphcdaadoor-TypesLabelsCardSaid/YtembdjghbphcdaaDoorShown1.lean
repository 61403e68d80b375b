/-
  Package types: variables, calm rows; what is shown in any case. Conditions: those of each theorem.
-/
import Derived.Test.YtembdjghbphcdaaDoorTypes1
namespace Go.Proofs.YtembdjghbphcdaaDoor
set_option linter.all false
set_option maxRecDepth 4000
open Go.RowKit
open Go.Lib (itoa decDigits)
theorem cntTs_mem : ∀ {l : List Ty} {u : Ty}, u ∈ l → cntT u ≤ cntTs l
  | t :: ts, u, h => by
    rw [cntTs]
    rcases List.mem_cons.1 h with rfl | h
    · omega
    · have := cntTs_mem h; omega
abbrev tyV (t : Ty) (y : (Option Addr × Nat) × (Option Addr × Nat)) : List Value := [.int .i64 t.kind, S t.name, .int .i64 t.var, .slice y.1.1 t.args.length y.1.2, .slice y.2.1 t.labels.length y.2.2, .int .i64 t.rv]
def MP.ty (t : Ty) : MP := MP.mem (fun y => .agg (tyV t y).toArray) (fun y m => TyR m t (tyV t y)) fun hm h => h.mono hm
def MP.two (a b : List Int) : MP := MP.mem (fun y : (Option Addr × Nat) × (Option Addr × Nat) => .tuple #[.slice y.1.1 a.length y.1.2, .slice y.2.1 b.length y.2.2]) (fun y m => Ints m y.1.1 a.length y.1.2 a ∧ Ints m y.2.1 b.length y.2.2 b) fun hm h => ⟨h.1.mono hm, h.2.mono hm⟩
def leafT (k : Int) : Ty := ⟨k, [], 0, [], [], 0⟩
abbrev leafV (k : Int) : List Value := [.int .i64 k, S [], .int .i64 0, .slice none 0 0, .slice none 0 0, .int .i64 0]
theorem leafR {m : Mem} {k : Int} (h : InI64 k) : TyR m (leafT k) (leafV k) := TyR.build (ks := []) (ls := []) Sl.empty Sl.empty h ⟨by omega, by omega⟩ ⟨by omega, by omega⟩
def consoleS : Str := [99, 111, 110, 115, 111, 108, 101]
def refT (t : Ty) : Ty := ⟨6, [], 0, [t], [], 0⟩
def funT (a : Ty) (ls : List Str) (rv : Int) (b : Ty) : Ty := ⟨5, [], 0, [a, b], ls, rv⟩
def shownT : Ty := funT (leafT 1) [consoleS] 3 (refT (leafT 2))
theorem shownT_text : textT shownT = [105, 110, 116, 32, 45, 62, 32, 60, 99, 111, 110, 115, 111, 108, 101, 124, 51, 62, 32, 114, 101, 102, 32, 98, 111, 111, 108] := by
  simp [shownT, funT, refT, leafT, consoleS, textT, textTs, parS, Ty.kind, rowTextS, itoa, dec_eq, Go.Lib.join]
def calmS (ls : List Str) (rv : Int) : Bool := decide (rv = 0) && !ls.any (fun s => !decide (s = consoleS))
theorem Ints.of_rowI {m : Mem} {o : Option Addr} {c : Nat} {a : List Int} (h : RowAt m o (a.map intV)) (hc : a.length ≤ c) (hm : c ≤ maxLen) : Ints m o a.length c a := Ints.of_row h rfl hc (by simp only [maxLen] at hm; omega)
set_option maxHeartbeats 400000 in
theorem calm1_c {w : World} {m : Mem} {s : Str} (hA : Agree w m)  : FnV Tryd.prog 49 #[S s] w m (fun _ _ v => v = .bool (!decide (s = consoleS))) := by
  refine fn_enter (vs := [_]) Tryd.func49 rfl rfl rfl fun a0 hfr0 => ?_
  have hst0 := st_enter hA (loc_nil [] _ w m)
  have hM : MLe m m := MLe.refl m
  refine seq_any fun K1 hK1 => ?_
  refine region_plain (fun h => by cases h) hst0 hfr0 (by kernel_rfl) (by kernel_rfl) (.cons rfl (ob_assign rfl) <|
      .nil) ?_
  intro a1 w1 m1 hst1 hle1 hk1
  have hfr1 := hk1.fr (T' := [(0, _), (2, _)]) (.old rfl rfl <| .new rfl <| .nil)
  replace hM := hM.trans hle1
  clear hst0 hfr0 hk1
  refine hK1 _ _ ?_; try clear hK1 K1
  refine seq_any fun K2 hK2 => ?_
  refine region_plain (fun h => by cases h) hst1 hfr1 (by kernel_rfl) (by kernel_rfl) (.cons rfl (ob_move rfl) <|
      .cons rfl (ob_sneq rfl rfl) <|
      .cons rfl (ob_assign rfl) <|
      .nil) ?_
  intro a2 w2 m2 hst2 hle2 hk2
  have hfr2 := hk2.fr (T' := [(0, _), (2, _)]) (.old rfl rfl <| .new rfl <| .nil)
  replace hM := hM.trans hle2
  clear hst1 hfr1 hk2
  refine hK2 _ _ ?_; try clear hK2 K2
  refine wp_ret ?_
  repeat (with_reducible first | refine then_ret ?_ | refine block_ret ?_)
  exact fn_ret hst2 hfr2 rfl (.tmp rfl <| .nil) (rfl)

set_option maxHeartbeats 400000 in
theorem calm_c {w : World} {m : Mem} {r : Rw} {vs_r : List Value} (hA : Agree w m) (h_r : RwR m r vs_r) : FnV Tryd.prog 29 #[.agg vs_r.toArray] w m (fun _ _ v => v = .bool (calmS r.labels r.var)) := by
  obtain ⟨o_r, c_r, rfl, hs_r, hr_r⟩ := h_r.open_
  have hbs_r := hs_r.big; have hcs_r := hs_r.cap
  refine fn_enter (vs := [_]) Tryd.func29 rfl rfl rfl fun a0 hfr0 => ?_
  have hst0 := st_enter hA (loc_nil [] _ w m)
  have hM : MLe m m := MLe.refl m
  refine seq_any fun K1 hK1 => ?_
  refine region_plain (fun h => by cases h) hst0 hfr0 (by kernel_rfl) (by kernel_rfl) (.cons rfl (ob_box rfl rfl) <|
      .cons rfl (ob_assign rfl) <|
      .nil) ?_
  intro a1 w1 m1 hst1 hle1 hk1
  have hfr1 := hk1.fr (T' := [(0, _), (2, _)]) (.old rfl rfl <| .new rfl <| .nil)
  obtain ⟨g2, e2, hc1⟩ := hk1.ex 1 rfl
  replace hfr1 := hfr1.cons e2
  replace h_r := h_r.mono hle1
  replace hs_r := hs_r.mono hle1
  replace hM := hM.trans hle1
  clear hst0 hfr0 hk1
  refine hK1 _ _ ?_; try clear hK1 K1
  refine seq_any fun K3 hK3 => ?_
  refine region_plain (fun h => by cases h) hst1 hfr1 (by kernel_rfl) (by kernel_rfl) (.cons rfl (ob_fieldAddr rfl Tryd.underlying25 rfl Tryd.sizeOf3 rfl) <|
      .cons rfl (ob_load1 rfl hc1 Tryd.isAgg3 rfl) <|
      .cons rfl (ob_eql rfl rfl) <|
      .cons rfl (ob_move rfl) <|
      .cons rfl (ob_fieldAddr rfl Tryd.underlying25 rfl Tryd.sizeOf23 rfl) <|
      .cons rfl (ob_load1 rfl hc1 Tryd.isAgg23 rfl) <|
      .cons rfl (ob_callE rfl (.cons rfl <| .cons rfl <| .nil) Tryd.call48 (fun w m hK => by have hle_ := KC.le hK; have hA := KC.agree hK; have hM := hM.trans hle_; have hs_r := hs_r.mono hle_; exact containsfS_c (φ := fun s => !decide (s = consoleS)) (cap := []) hA hs_r Tryd.call49 (fun w m2 t hm ha ht => calm1_c ha))) <|
      .cons rfl (ob_not rfl) <|
      .cons rfl (ob_and rfl rfl rfl) <|
      .cons rfl (ob_assign rfl) <|
      .nil) ?_
  intro a2 w2 m2 hst2 hle2 hk2
  have hfr2 := hk2.fr (T' := [(0, _), (1, _), (2, _)]) (.old rfl rfl <| .old rfl rfl <| .new rfl <| .nil)
  replace h_r := h_r.mono hle2
  replace hs_r := hs_r.mono hle2
  replace hc1 := hc1.mono hle2
  replace hM := hM.trans hle2
  clear hst1 hfr1 hk2
  refine hK3 _ _ ?_; try clear hK3 K3
  refine wp_ret ?_
  repeat (with_reducible first | refine then_ret ?_ | refine block_ret ?_)
  exact fn_ret hst2 hfr2 rfl (.tmp rfl <| .nil) (rfl)

set_option maxHeartbeats 400000 in
theorem whole_c {w : World} {m : Mem}  (hA : Agree w m)  : FnV Tryd.prog 24 #[] w m (fun _ _ v => v = .agg (leafV 1).toArray) := by
  refine fn_enter (vs := []) Tryd.func24 rfl rfl rfl fun a0 hfr0 => ?_
  have hst0 := st_enter hA (loc_nil [] _ w m)
  have hM : MLe m m := MLe.refl m
  refine seq_any fun K1 hK1 => ?_
  replace hst0 := hst0.more (r := .free) trivial List.nodup_nil (by simp [Res.blocks])
  refine region_any (tch := [(0, 0, (fun v => .blk v _))]) (fun h => by cases h) hst0 hfr0 (by kernel_rfl) (by kernel_rfl) (by kernel_rfl) (.consT rfl rfl (fun _ => rfl) rfl (ob_allocL Tryd.zeroValue27 rfl) <|
      .nil) ?_
  intro a1 w1 m1 hst1 hle1 hk1
  have hfr1 := hk1.fr (T' := []) (.nil)
  obtain ⟨g2, e2, _⟩ := hk1.ex 0 rfl
  replace hfr1 := hfr1.cons e2
  replace hst1 := hst1.fin (L' := [_]) (.cons e2 <| .nil)
  replace hM := hM.trans hle1
  clear hst0 hfr0 hk1
  refine hK1 _ _ ?_; try clear hK1 K1
  refine seq_any fun K3 hK3 => ?_
  refine region_any (tch := [(1, 0, (fun _ => .blk _ _))]) (fun h => by cases h) hst1 hfr1 (by kernel_rfl) (by kernel_rfl) (by kernel_rfl) (.cons rfl (ob_buildS (.cons rfl <| .nil) Tryd.underlying27 Tryd.zeroValue27 (.cons Tryd.sizeOf3 <| .cons Tryd.sizeOf9 <| .cons Tryd.sizeOf3 <| .cons Tryd.sizeOf22 <| .cons Tryd.sizeOf25 <| .nil) rfl) <|
      .consT rfl rfl (fun _ => rfl) rfl (ob_store' rfl rfl rfl Tryd.sizeOf27 rfl rfl rfl) <|
      .nil) ?_
  intro a2 w2 m2 hst2 hle2 hk2
  have hfr2 := hk2.fr (T' := [(0, _)]) (.old rfl rfl <| .nil)
  replace hst2 := hst2.fin (L' := [_]) (.cons rfl <| .nil)
  replace hM := hM.trans hle2
  clear hst1 hfr1 hk2
  refine hK3 _ _ ?_; try clear hK3 K3
  refine wp_ret ?_
  repeat (with_reducible first | refine then_ret ?_ | refine block_ret ?_)
  exact fn_ret hst2 hfr2 rfl (.cell rfl (load_blk (blk_heap (hst2.loc.at_ (k := 0) rfl)) Tryd.isAgg27 Tryd.sizeOf27) <| .nil) (rfl)

set_option maxHeartbeats 400000 in
theorem truth_c {w : World} {m : Mem}  (hA : Agree w m)  : FnV Tryd.prog 31 #[] w m (fun _ _ v => v = .agg (leafV 2).toArray) := by
  refine fn_enter (vs := []) Tryd.func31 rfl rfl rfl fun a0 hfr0 => ?_
  have hst0 := st_enter hA (loc_nil [] _ w m)
  have hM : MLe m m := MLe.refl m
  refine seq_any fun K1 hK1 => ?_
  replace hst0 := hst0.more (r := .free) trivial List.nodup_nil (by simp [Res.blocks])
  refine region_any (tch := [(0, 0, (fun v => .blk v _))]) (fun h => by cases h) hst0 hfr0 (by kernel_rfl) (by kernel_rfl) (by kernel_rfl) (.consT rfl rfl (fun _ => rfl) rfl (ob_allocL Tryd.zeroValue27 rfl) <|
      .nil) ?_
  intro a1 w1 m1 hst1 hle1 hk1
  have hfr1 := hk1.fr (T' := []) (.nil)
  obtain ⟨g2, e2, _⟩ := hk1.ex 0 rfl
  replace hfr1 := hfr1.cons e2
  replace hst1 := hst1.fin (L' := [_]) (.cons e2 <| .nil)
  replace hM := hM.trans hle1
  clear hst0 hfr0 hk1
  refine hK1 _ _ ?_; try clear hK1 K1
  refine seq_any fun K3 hK3 => ?_
  refine region_any (tch := [(1, 0, (fun _ => .blk _ _))]) (fun h => by cases h) hst1 hfr1 (by kernel_rfl) (by kernel_rfl) (by kernel_rfl) (.cons rfl (ob_buildS (.cons rfl <| .nil) Tryd.underlying27 Tryd.zeroValue27 (.cons Tryd.sizeOf3 <| .cons Tryd.sizeOf9 <| .cons Tryd.sizeOf3 <| .cons Tryd.sizeOf22 <| .cons Tryd.sizeOf25 <| .nil) rfl) <|
      .consT rfl rfl (fun _ => rfl) rfl (ob_store' rfl rfl rfl Tryd.sizeOf27 rfl rfl rfl) <|
      .nil) ?_
  intro a2 w2 m2 hst2 hle2 hk2
  have hfr2 := hk2.fr (T' := [(0, _)]) (.old rfl rfl <| .nil)
  replace hst2 := hst2.fin (L' := [_]) (.cons rfl <| .nil)
  replace hM := hM.trans hle2
  clear hst1 hfr1 hk2
  refine hK3 _ _ ?_; try clear hK3 K3
  refine wp_ret ?_
  repeat (with_reducible first | refine then_ret ?_ | refine block_ret ?_)
  exact fn_ret hst2 hfr2 rfl (.cell rfl (load_blk (blk_heap (hst2.loc.at_ (k := 0) rfl)) Tryd.isAgg27 Tryd.sizeOf27) <| .nil) (rfl)

set_option maxHeartbeats 400000 in
theorem fun_c {w : World} {m : Mem} {a : Ty} {vs_a : List Value} {r : Rw} {vs_r : List Value} {b : Ty} {vs_b : List Value} (hA : Agree w m) (h_a : TyR m a vs_a) (h_r : RwR m r vs_r) (h_b : TyR m b vs_b) : FnV Tryd.prog 20 #[.agg vs_a.toArray, .agg vs_r.toArray, .agg vs_b.toArray] w m (fun _ m v => (MP.ty (funT a r.labels r.var b)).p m v) := by
  obtain ⟨o_a, c_a, oL_a, cL_a, rfl, hk_a, hs_a, hi_a, hj_a, hr_a⟩ := h_a.open_
  have hbg_a := hk_a.big; have hcp_a := hk_a.cap; have hbs_a := hs_a.big; have hcs_a := hs_a.cap
  have hrw_a : RwR _ ⟨a.labels, a.rv⟩ _ := ⟨_, _, rfl, hs_a, hr_a⟩
  obtain ⟨o_r, c_r, rfl, hs_r, hr_r⟩ := h_r.open_
  have hbs_r := hs_r.big; have hcs_r := hs_r.cap
  obtain ⟨o_b, c_b, oL_b, cL_b, rfl, hk_b, hs_b, hi_b, hj_b, hr_b⟩ := h_b.open_
  have hbg_b := hk_b.big; have hcp_b := hk_b.cap; have hbs_b := hs_b.big; have hcs_b := hs_b.cap
  have hrw_b : RwR _ ⟨b.labels, b.rv⟩ _ := ⟨_, _, rfl, hs_b, hr_b⟩
  refine fn_enter (vs := [_, _, _]) Tryd.func20 rfl rfl rfl fun a0 hfr0 => ?_
  have hst0 := st_enter hA (loc_nil [] _ w m)
  have hM : MLe m m := MLe.refl m
  refine seq_any fun K1 hK1 => ?_
  replace hst0 := hst0.more (r := .free) trivial List.nodup_nil (by simp [Res.blocks])
  refine region_any (tch := [(3, 0, (fun v => .blk v _))]) (fun h => by cases h) hst0 hfr0 (by kernel_rfl) (by kernel_rfl) (by kernel_rfl) (.cons rfl (ob_box rfl rfl) <|
      .cons rfl (ob_box rfl rfl) <|
      .cons rfl (ob_box rfl rfl) <|
      .consT rfl rfl (fun _ => rfl) rfl (ob_allocL Tryd.zeroValue27 rfl) <|
      .nil) ?_
  intro a1 w1 m1 hst1 hle1 hk1
  have hfr1 := hk1.fr (T' := [(0, _), (1, _), (2, _)]) (.old rfl rfl <| .old rfl rfl <| .old rfl rfl <| .nil)
  obtain ⟨g2, e2, hc3⟩ := hk1.ex 3 rfl
  replace hfr1 := hfr1.cons e2
  obtain ⟨g3, e3, hc4⟩ := hk1.ex 4 rfl
  replace hfr1 := hfr1.cons e3
  obtain ⟨g4, e4, hc5⟩ := hk1.ex 5 rfl
  replace hfr1 := hfr1.cons e4
  obtain ⟨g5, e5, _⟩ := hk1.ex 6 rfl
  replace hfr1 := hfr1.cons e5
  replace hst1 := hst1.fin (L' := [_]) (.cons e5 <| .nil)
  replace h_a := h_a.mono hle1
  replace hk_a := hk_a.mono hle1
  replace hs_a := hs_a.mono hle1
  replace hrw_a := hrw_a.mono hle1
  replace h_r := h_r.mono hle1
  replace hs_r := hs_r.mono hle1
  replace h_b := h_b.mono hle1
  replace hk_b := hk_b.mono hle1
  replace hs_b := hs_b.mono hle1
  replace hrw_b := hrw_b.mono hle1
  replace hM := hM.trans hle1
  clear hst0 hfr0 hk1
  refine hK1 _ _ ?_; try clear hK1 K1
  refine seq_any fun K6 hK6 => ?_
  refine region_any (tch := [(5, 0, (fun _ => .blkx _ _ _))]) (fun h => by cases h) hst1 hfr1 (by kernel_rfl) (by kernel_rfl) (by kernel_rfl) (.cons rfl (ob_loadS' rfl hc3 Tryd.isAgg27 Tryd.sizeOf27 rfl rfl) <|
      .cons rfl (ob_loadS' rfl hc5 Tryd.isAgg27 Tryd.sizeOf27 rfl rfl) <|
      .cons rfl (ob_buildSlice (.cons rfl <| .cons rfl <| .nil) Tryd.underlying22 Tryd.sizeOf27 Tryd.zeroValue27 rfl rfl rfl rfl) <|
      .cons rfl (ob_loadS' rfl hc4 Tryd.isAgg25 Tryd.sizeOf25 rfl rfl) <|
      .cons rfl (ob_imgV 9 rfl rfl rfl fun y9 => ob_buildS (.cons rfl <| .cons rfl <| .cons rfl <| .nil) Tryd.underlying27 Tryd.zeroValue27 (.cons Tryd.sizeOf3 <| .cons Tryd.sizeOf9 <| .cons Tryd.sizeOf3 <| .cons Tryd.sizeOf22 <| .cons Tryd.sizeOf25 <| .nil) rfl) <|
      .consT rfl rfl (fun _ => rfl) rfl (ob_imgTX 11 rfl rfl rfl fun y11 => ob_store' rfl rfl rfl Tryd.sizeOf27 rfl rfl rfl) <|
      .nil) ?_
  intro a2 w2 m2 hst2 hle2 hk2
  have hfr2 := hk2.fr (T' := [(0, _), (1, _), (2, _), (3, _), (4, _), (5, _), (6, _)]) (.old rfl rfl <| .old rfl rfl <| .old rfl rfl <| .old rfl rfl <| .old rfl rfl <| .old rfl rfl <| .old rfl rfl <| .nil)
  replace hst2 := hst2.fin (L' := [_]) (.cons rfl <| .nil)
  obtain ⟨gs, hgs, hst2⟩ := hst2.unx (k := 0) rfl (fun _ => rfl)
  replace h_a := h_a.mono hle2
  replace hk_a := hk_a.mono hle2
  replace hs_a := hs_a.mono hle2
  replace hrw_a := hrw_a.mono hle2
  replace h_r := h_r.mono hle2
  replace hs_r := hs_r.mono hle2
  replace h_b := h_b.mono hle2
  replace hk_b := hk_b.mono hle2
  replace hs_b := hs_b.mono hle2
  replace hrw_b := hrw_b.mono hle2
  replace hc3 := hc3.mono hle2
  replace hc4 := hc4.mono hle2
  replace hc5 := hc5.mono hle2
  replace hM := hM.trans hle2
  clear hst1 hfr1 hk2
  refine hK6 _ _ ?_; try clear hK6 K6
  refine wp_ret ?_
  repeat (with_reducible first | refine then_ret ?_ | refine block_ret ?_)
  exact fn_ret hst2 hfr2 rfl (.cell rfl (load_blk (blk_heap (hst2.loc.at_ (k := 0) rfl)) Tryd.isAgg27 Tryd.sizeOf27) <| .nil) (⟨((some ⟨gs, 0, none⟩, 2), (_, _)), rfl, TyR.build (k := 5) (v := 0) (r := r.var) (s := []) (Sl.two (vs := [_, _, _, _, _, _]) hgs rfl rfl h_a h_b) hs_r ⟨by omega, by omega⟩ ⟨by omega, by omega⟩ hr_r⟩)

set_option maxHeartbeats 400000 in
theorem vars_c {w : World} {m : Mem} {t : Ty} {vs_t : List Value} (hA : Agree w m) (h_t : TyR m t vs_t) (hb : cntT t ≤ 100000000) : FnV Tryd.prog 21 #[.agg vs_t.toArray] w m (fun _ m v => (MP.two (walkT t ([], [])).1 (walkT t ([], [])).2).p m v) := by
  obtain ⟨o_t, c_t, oL_t, cL_t, rfl, hk_t, hs_t, hi_t, hj_t, hr_t⟩ := h_t.open_
  have hbg_t := hk_t.big; have hcp_t := hk_t.cap; have hbs_t := hs_t.big; have hcs_t := hs_t.cap
  have hrw_t : RwR _ ⟨t.labels, t.rv⟩ _ := ⟨_, _, rfl, hs_t, hr_t⟩
  refine fn_enter (vs := [_]) Tryd.func21 rfl rfl rfl fun a0 hfr0 => ?_
  have hst0 := st_enter hA (loc_nil [] _ w m)
  have hM : MLe m m := MLe.refl m
  refine seq_any fun K1 hK1 => ?_
  refine region_plain (fun h => by cases h) hst0 hfr0 (by kernel_rfl) (by kernel_rfl) (.cons rfl (ob_box rfl rfl) <|
      .cons rfl (ob_assign rfl) <|
      .cons rfl (ob_assign rfl) <|
      .nil) ?_
  intro a1 w1 m1 hst1 hle1 hk1
  have hfr1 := hk1.fr (T' := [(0, _), (2, _), (3, _)]) (.old rfl rfl <| .new rfl <| .new rfl <| .nil)
  obtain ⟨g2, e2, hc1⟩ := hk1.ex 1 rfl
  replace hfr1 := hfr1.cons e2
  replace h_t := h_t.mono hle1
  replace hk_t := hk_t.mono hle1
  replace hs_t := hs_t.mono hle1
  replace hrw_t := hrw_t.mono hle1
  replace hM := hM.trans hle1
  clear hst0 hfr0 hk1
  refine hK1 _ _ ?_; try clear hK1 K1
  refine seq_any fun K3 hK3 => ?_
  replace hst1 := hst1.more (r := .free) trivial List.nodup_nil (by simp [Res.blocks])
  refine region_any (tch := [(0, 0, (fun v => .blk v _))]) (fun h => by cases h) hst1 hfr1 (by kernel_rfl) (by kernel_rfl) (by kernel_rfl) (.consT rfl rfl (fun _ => rfl) rfl (ob_allocL Tryd.zeroValue60 rfl) <|
      .nil) ?_
  intro a2 w2 m2 hst2 hle2 hk2
  have hfr2 := hk2.fr (T' := [(0, _), (2, _), (3, _), (1, _)]) (.old rfl rfl <| .old rfl rfl <| .old rfl rfl <| .old rfl rfl <| .nil)
  obtain ⟨gv, e4, _⟩ := hk2.ex 4 rfl
  replace hfr2 := hfr2.cons e4
  replace hst2 := hst2.fin (L' := [_]) (.cons e4 <| .nil)
  replace h_t := h_t.mono hle2
  replace hk_t := hk_t.mono hle2
  replace hs_t := hs_t.mono hle2
  replace hrw_t := hrw_t.mono hle2
  replace hc1 := hc1.mono hle2
  replace hM := hM.trans hle2
  clear hst1 hfr1 hk2
  have hst2 := (hst2.more (r := .row (.slice none 0 0) 0 1 3 []) ⟨rfl, .inl ⟨rfl, rfl⟩⟩ List.nodup_nil (by simp [Res.blocks, rowBlock])).more (r := .row (.slice none 0 0) 0 1 3 []) ⟨rfl, .inl ⟨rfl, rfl⟩⟩ List.nodup_nil (by simp [Res.blocks, rowBlock])
  refine hK3 _ _ ?_; try clear hK3 K3
  refine seq_any fun K5 hK5 => ?_
  refine region_cut 1 (by kernel_rfl) ?_
  refine ops_seq (tch := []) hst2 hfr2 (by kernel_rfl) (by kernel_rfl) (by kernel_rfl) (.cons rfl (ob_loadS' rfl hc1 Tryd.isAgg27 Tryd.sizeOf27 rfl rfl) <|
      .nil) ?_
  intro a3 w3 m3 hst3 hle3 hk3
  have hfr3 := hk3.fr (T' := [(0, _), (2, _), (3, _), (1, _), (4, _), (5, _)]) (.old rfl rfl <| .old rfl rfl <| .old rfl rfl <| .old rfl rfl <| .old rfl rfl <| .new rfl <| .nil)
  replace h_t := h_t.mono hle3
  replace hk_t := hk_t.mono hle3
  replace hs_t := hs_t.mono hle3
  replace hrw_t := hrw_t.mono hle3
  replace hc1 := hc1.mono hle3
  replace hM := hM.trans hle3
  clear hst2 hfr2 hk3
  refine call_res [] [] [_, _, _] hst3 hfr3 rfl (.cons rfl <| .cons rfl <| .nil) Tryd.call42 (walk_c t (v1 := .slice none 0 0) (v2 := .slice none 0 0) (a := []) (b := []) hst3.agree (hst3.sub (A := []) (B := []) (rs := [_, _, _])) h_t (by simp only [List.length_nil]; omega)) ?_
  intro vr4 w4 m4 rs4 hst4 hle4 hp4
  obtain ⟨u1, u2, rfl⟩ := hp4
  simp only [List.nil_append, List.cons_append] at hst4
  obtain ⟨q3, d3, rfl, hq3, hd3, he3, -⟩ := Res.row_at (hst4.loc.at_ (k := 1) rfl)
  obtain ⟨q4, d4, rfl, hq4, hd4, he4, -⟩ := Res.row_at (hst4.loc.at_ (k := 2) rfl)
  have hfr4 := (hfr3.sub (T' := [(0, _), (2, _), (3, _), (1, _), (4, _), (5, _)]) (.cons rfl <| .cons rfl <| .cons rfl <| .cons rfl <| .cons rfl <| .cons rfl <| .nil)).put (d := 6) (v := vr4) (by kernel_rfl) rfl
  replace h_t := h_t.mono hle4
  replace hk_t := hk_t.mono hle4
  replace hs_t := hs_t.mono hle4
  replace hrw_t := hrw_t.mono hle4
  replace hc1 := hc1.mono hle4
  replace hM := hM.trans hle4
  clear hst3 hfr3
  refine hK5 _ _ ?_; try clear hK5 K5
  refine seq_any fun K6 hK6 => ?_
  refine region_plain (fun _ => mixed) hst4 hfr4 (by kernel_rfl) (by kernel_rfl) (.cons rfl (ob_fieldAddr rfl Tryd.underlying60 rfl Tryd.sizeOf35 rfl) <|
      .cons rfl (ob_loadL (j := 0) rfl rfl Tryd.isAgg35 rfl) <|
      .cons rfl (ob_fieldAddr rfl Tryd.underlying60 rfl Tryd.sizeOf35 rfl) <|
      .cons rfl (ob_loadL (j := 0) rfl rfl Tryd.isAgg35 rfl) <|
      .cons rfl (ob_assign rfl) <|
      .cons rfl (ob_assign rfl) <|
      .nil) ?_
  intro a5 w5 m5 hst5 hle5 hk5
  have hfr5 := hk5.fr (T' := [(0, _), (1, _), (4, _), (5, _), (2, _), (3, _)]) (.old rfl rfl <| .old rfl rfl <| .old rfl rfl <| .old rfl rfl <| .new rfl <| .new rfl <| .nil)
  replace h_t := h_t.mono hle5
  replace hk_t := hk_t.mono hle5
  replace hs_t := hs_t.mono hle5
  replace hrw_t := hrw_t.mono hle5
  replace hc1 := hc1.mono hle5
  replace hq3 := hq3.mono hle5
  replace hq4 := hq4.mono hle5
  replace hM := hM.trans hle5
  clear hst4 hfr4 hk5
  refine hK6 _ _ ?_; try clear hK6 K6
  refine wp_ret ?_
  repeat (with_reducible first | refine then_ret ?_ | refine block_ret ?_)
  exact fn_ret hst5 hfr5 rfl (.tmp rfl <| .tmp rfl <| .nil) (⟨((q3, d3), (q4, d4)), rfl, Ints.of_rowI hq3 hd3 he3, Ints.of_rowI hq4 hd4 he4⟩)

abbrev count_G (t : Ty) : Prop := ∀ {w : World} {m : Mem} {vs_t : List Value} (hA : Agree w m) (h_t : TyR m t vs_t) (hb : cntT t ≤ 1073741824), FnV Tryd.prog 12 #[.agg vs_t.toArray] w m (fun _ _ v => v = .int .i64 (cntT t : Int))
set_option maxHeartbeats 400000 in
theorem count_s {t : Ty} (ih : ∀ u ∈ t.args, count_G u) {w : World} {m : Mem} {vs_t : List Value} (hA : Agree w m) (h_t : TyR m t vs_t) (hb : cntT t ≤ 1073741824) : FnV Tryd.prog 12 #[.agg vs_t.toArray] w m (fun _ _ v => v = .int .i64 (cntT t : Int)) := by
  obtain ⟨o_t, c_t, oL_t, cL_t, rfl, hk_t, hs_t, hi_t, hj_t, hr_t⟩ := h_t.open_
  have hbg_t := hk_t.big; have hcp_t := hk_t.cap; have hbs_t := hs_t.big; have hcs_t := hs_t.cap
  have hrw_t : RwR _ ⟨t.labels, t.rv⟩ _ := ⟨_, _, rfl, hs_t, hr_t⟩
  refine fn_enter (vs := [_]) Tryd.func12 rfl rfl rfl fun a0 hfr0 => ?_
  have hst0 := st_enter hA (loc_nil [] _ w m)
  have hM : MLe m m := MLe.refl m
  have hce := cntT_eq t
  have hbk := fun u (hu : u ∈ t.args) => cntTs_mem hu
  refine seq_any fun K1 hK1 => ?_
  refine region_plain (fun h => by cases h) hst0 hfr0 (by kernel_rfl) (by kernel_rfl) (.cons rfl (ob_box rfl rfl) <|
      .cons rfl (ob_assign rfl) <|
      .nil) ?_
  intro a1 w1 m1 hst1 hle1 hk1
  have hfr1 := hk1.fr (T' := [(0, _), (2, _)]) (.old rfl rfl <| .new rfl <| .nil)
  obtain ⟨g2, e2, hc1⟩ := hk1.ex 1 rfl
  replace hfr1 := hfr1.cons e2
  replace h_t := h_t.mono hle1
  replace hk_t := hk_t.mono hle1
  replace hs_t := hs_t.mono hle1
  replace hrw_t := hrw_t.mono hle1
  replace hM := hM.trans hle1
  clear hst0 hfr0 hk1
  refine hK1 _ _ ?_; try clear hK1 K1
  refine seq_any fun K3 hK3 => ?_
  refine region_plain (fun h => by cases h) hst1 hfr1 (by kernel_rfl) (by kernel_rfl) (.cons rfl (ob_assign rfl) <|
      .nil) ?_
  intro a2 w2 m2 hst2 hle2 hk2
  have hfr2 := hk2.fr (T' := [(0, _), (2, _), (1, _), (3, _)]) (.old rfl rfl <| .old rfl rfl <| .old rfl rfl <| .new rfl <| .nil)
  replace h_t := h_t.mono hle2
  replace hk_t := hk_t.mono hle2
  replace hs_t := hs_t.mono hle2
  replace hrw_t := hrw_t.mono hle2
  replace hc1 := hc1.mono hle2
  replace hM := hM.trans hle2
  clear hst1 hfr1 hk2
  refine hK3 _ _ ?_; try clear hK3 K3
  refine seq_any fun K4 hK4 => ?_
  refine seq_any fun K5 hK5 => ?_
  refine region_plain (fun h => by cases h) hst2 hfr2 (by kernel_rfl) (by kernel_rfl) (.cons rfl (ob_assign rfl) <|
      .nil) ?_
  intro a3 w3 m3 hst3 hle3 hk3
  have hfr3 := hk3.fr (T' := [(0, _), (2, _), (1, _), (3, _), (4, _)]) (.old rfl rfl <| .old rfl rfl <| .old rfl rfl <| .old rfl rfl <| .new rfl <| .nil)
  replace h_t := h_t.mono hle3
  replace hk_t := hk_t.mono hle3
  replace hs_t := hs_t.mono hle3
  replace hrw_t := hrw_t.mono hle3
  replace hc1 := hc1.mono hle3
  replace hM := hM.trans hle3
  clear hst2 hfr2 hk3
  refine hK5 _ _ ?_; try clear hK5 K5
  refine wp_block ?_
  refine loop_any (T := [(0, _), (2, _), (1, _)]) (fun (y : Nat × Int) => ([(3, .int .i64 y.2), (4, .int .i64 (y.1 : Int))] : List (Nat × Value))) (fun _ => _) (fun (y : Nat × Int) m => (fun (y : Nat) (a : Int) => (y ≤ t.args.length) ∧ (a + cntTs (t.args.drop y) = (cntT t : Int)) ∧ (0 ≤ a)) y.1 y.2) (fun y => t.args.length - y.1) ((0, 1)) ⟨hst3, MLe.refl _, hfr3.sub (.cons rfl <| .cons rfl <| .cons rfl <| .cons rfl <| .cons rfl <| .nil), ⟨Nat.zero_le _, by rw [List.drop_zero]; omega, by omega⟩⟩ fun y a4 w4 m4 hh4 => ?_
  have hst4 := hh4.st; have hle4 := hh4.le; have hfr4 := hh4.fr; have hrel := hh4.rel; clear hh4
  replace h_t := h_t.mono hle4
  replace hk_t := hk_t.mono hle4
  replace hs_t := hs_t.mono hle4
  replace hrw_t := hrw_t.mono hle4
  replace hc1 := hc1.mono hle4
  clear hst3 hfr3
  replace hM := hM.trans hle4
  obtain ⟨y, a⟩ := y
  dsimp only at hrel hfr4 hst4
  obtain ⟨hyn, ha, ha0⟩ := hrel
  have hlh4 := hle4
  refine seq_any fun K7 hK7 => ?_
  refine seq_any fun K8 hK8 => ?_
  refine region_plain (fun h => by cases h) hst4 hfr4 (by kernel_rfl) (by kernel_rfl) (.cons rfl (ob_move rfl) <|
      .cons rfl (ob_fieldAddr rfl Tryd.underlying27 rfl Tryd.sizeOf22 rfl) <|
      .cons rfl (ob_load1 rfl hc1 Tryd.isAgg22 rfl) <|
      .cons rfl (ob_len rfl Tryd.underlying22) <|
      .cons rfl (ob_lss rfl rfl) <|
      .nil) ?_
  intro a5 w5 m5 hst5 hle5 hk5
  have hfr5 := hk5.fr (T' := [(3, _), (4, _), (0, _), (2, _), (1, _), (9, _)]) (.old rfl rfl <| .old rfl rfl <| .old rfl rfl <| .old rfl rfl <| .old rfl rfl <| .new rfl <| .nil)
  replace h_t := h_t.mono hle5
  replace hk_t := hk_t.mono hle5
  replace hs_t := hs_t.mono hle5
  replace hrw_t := hrw_t.mono hle5
  replace hc1 := hc1.mono hle5
  have hlh5 := hlh4.trans hle5
  replace hM := hM.trans hle5
  clear hst4 hfr4 hk5
  refine hK8 _ _ ?_; try clear hK8 K8
  refine cond_any hfr5 rfl rfl (fun hb9 => ?_) (fun hb9 => ?_)
  · try simp only [Bool.not_eq_true', Bool.not_eq_false', decide_eq_true_eq, decide_eq_false_iff_not, Bool.and_eq_true, Bool.or_eq_true, Bool.and_eq_false_iff, Bool.or_eq_false_iff, Bool.not_not, u8_eq] at hb9
    refine wp_skip ?_
    refine hK7 _ _ ?_; try clear hK7 K7
    refine seq_any fun K9 hK9 => ?_
    refine wp_block ?_
    obtain ⟨p10, vs10, x10, ho10, hd10, hm_x10, ht10, hcv10, hl10, hv10⟩ := hk_t.nth (k := y) (by omega)
    cases ho10
    obtain ⟨o10, c10, oL10, cL10, rfl, hkd10, hs10, hi10, hj10, hr10⟩ := hv10.open_
    have hbg10 := hkd10.big; have hcp10 := hkd10.cap; have hbs10 := hs10.big; have hcs10 := hs10.cap
    have hrw10 : RwR _ ⟨x10.labels, x10.rv⟩ _ := ⟨_, _, rfl, hs10, hr10⟩
    have hbx10 := hbk _ hm_x10
    refine region_plain (fun h => by cases h) hst5 hfr5 (by kernel_rfl) (by kernel_rfl) (.cons rfl (ob_move rfl) <|
        .cons rfl (ob_fieldAddr rfl Tryd.underlying27 rfl Tryd.sizeOf22 rfl) <|
        .cons rfl (ob_load1 rfl hc1 Tryd.isAgg22 rfl) <|
        .cons rfl (ob_move rfl) <|
        .cons rfl (ob_indexAddr (k := y) rfl rfl Tryd.underlying22 Tryd.sizeOf27 rfl (by omega)) <|
        .cons rfl (ob_loadS' rfl hcv10 Tryd.isAgg27 Tryd.sizeOf27 rfl rfl) <|
        .cons rfl (ob_callE rfl (.cons rfl <| .nil) Tryd.call12 (fun w m hK => by have hle_ := KC.le hK; have hA := KC.agree hK; have hM := hM.trans hle_; have h_t := h_t.mono hle_; have hk_t := hk_t.mono hle_; have hs_t := hs_t.mono hle_; have hrw_t := hrw_t.mono hle_; have hc1 := hc1.mono hle_; have hcv10 := hcv10.mono hle_; have hv10 := hv10.mono hle_; have hkd10 := hkd10.mono hle_; have hs10 := hs10.mono hle_; have hrw10 := hrw10.mono hle_; exact ih _ (by assumption) hA (by assumption) (by have := hbk _ (by assumption); omega))) <|
        .cons rfl (ob_add rfl rfl ⟨by omega, by omega⟩) <|
        .cons rfl (ob_assign rfl) <|
        .nil) ?_
    intro a6 w6 m6 hst6 hle6 hk6
    have hfr6 := hk6.fr (T' := [(4, _), (0, _), (2, _), (1, _), (3, _)]) (.old rfl rfl <| .old rfl rfl <| .old rfl rfl <| .old rfl rfl <| .new rfl <| .nil)
    replace h_t := h_t.mono hle6
    replace hk_t := hk_t.mono hle6
    replace hs_t := hs_t.mono hle6
    replace hrw_t := hrw_t.mono hle6
    replace hc1 := hc1.mono hle6
    replace hcv10 := hcv10.mono hle6
    replace hv10 := hv10.mono hle6
    replace hkd10 := hkd10.mono hle6
    replace hs10 := hs10.mono hle6
    replace hrw10 := hrw10.mono hle6
    have hlh6 := hlh5.trans hle6
    replace hM := hM.trans hle6
    clear hst5 hfr5 hk6
    refine hK9 _ _ ?_; try clear hK9 K9
    refine region_plain (fun h => by cases h) hst6 hfr6 (by kernel_rfl) (by kernel_rfl) (.cons rfl (ob_move rfl) <|
        .cons rfl (ob_add rfl rfl ⟨by omega, by omega⟩) <|
        .cons rfl (ob_assign rfl) <|
        .nil) ?_
    intro a7 w7 m7 hst7 hle7 hk7
    have hfr7 := hk7.fr (T' := [(0, _), (2, _), (1, _), (3, _), (4, _)]) (.old rfl rfl <| .old rfl rfl <| .old rfl rfl <| .old rfl rfl <| .new rfl <| .nil)
    replace h_t := h_t.mono hle7
    replace hk_t := hk_t.mono hle7
    replace hs_t := hs_t.mono hle7
    replace hrw_t := hrw_t.mono hle7
    replace hc1 := hc1.mono hle7
    replace hcv10 := hcv10.mono hle7
    replace hv10 := hv10.mono hle7
    replace hkd10 := hkd10.mono hle7
    replace hs10 := hs10.mono hle7
    replace hrw10 := hrw10.mono hle7
    have hlh7 := hlh6.trans hle7
    replace hM := hM.trans hle7
    clear hst6 hfr6 hk7
    exact ⟨(y + 1, (a + (cntT x10 : Int))), m7, by show t.args.length - (y + 1) < t.args.length - y; omega, ⟨hst7, hlh7, hfr7.sub (.cons rfl <| .cons rfl <| .cons rfl <| .cons rfl <| .cons rfl <| .nil), ⟨by show y + 1 ≤ t.args.length; omega, by rw [hd10, cntTs] at ha; show a + (cntT x10 : Int) + ((cntTs (t.args.drop (y + 1)) : Nat) : Int) = ((cntT t : Nat) : Int); omega, by show 0 ≤ a + (cntT x10 : Int); omega⟩⟩⟩
  · try simp only [Bool.not_eq_true', Bool.not_eq_false', decide_eq_true_eq, decide_eq_false_iff_not, Bool.and_eq_true, Bool.or_eq_true, Bool.and_eq_false_iff, Bool.or_eq_false_iff, Bool.not_not, u8_eq] at hb9
    have hge : y = t.args.length := by omega
    rw [List.drop_of_length_le (by omega), cntTs] at ha
    refine wp_exit ?_
    refine hK4 _ _ ?_; try clear hK4 K4
    refine seq_any fun K11 hK11 => ?_
    refine region_plain (fun h => by cases h) hst5 hfr5 (by kernel_rfl) (by kernel_rfl) (.cons rfl (ob_move rfl) <|
        .cons rfl (ob_assign rfl) <|
        .nil) ?_
    intro a6 w6 m6 hst6 hle6 hk6
    have hfr6 := hk6.fr (T' := [(3, _), (4, _), (0, _), (1, _), (2, _)]) (.old rfl rfl <| .old rfl rfl <| .old rfl rfl <| .old rfl rfl <| .new rfl <| .nil)
    replace h_t := h_t.mono hle6
    replace hk_t := hk_t.mono hle6
    replace hs_t := hs_t.mono hle6
    replace hrw_t := hrw_t.mono hle6
    replace hc1 := hc1.mono hle6
    have hlh6 := hlh5.trans hle6
    replace hM := hM.trans hle6
    clear hst5 hfr5 hk6
    refine hK11 _ _ ?_; try clear hK11 K11
    refine wp_ret ?_
    repeat (with_reducible first | refine then_ret ?_ | refine block_ret ?_)
    exact fn_ret hst6 hfr6 rfl (.tmp rfl <| .nil) (by refine congrArg (Value.int _) ?_; omega)
theorem count_c (t : Ty) : count_G t := Ty.rec_ (p := count_G) (fun t ih => count_s ih) t

set_option maxHeartbeats 400000 in
theorem shown_c {w : World} {m : Mem}  (hA : Agree w m) (hT : Tab w) : FnV Tryd.prog 11 #[] w m (fun _ _ v => v = .bool true) := by
  refine fn_enter (vs := []) Tryd.func11 rfl rfl rfl fun a0 hfr0 => ?_
  have hst0 := st_enter hA (loc_nil [] _ w m)
  have hM : MLe m m := MLe.refl m
  refine seq_any fun K1 hK1 => ?_
  refine region_plain (fun h => by cases h) hst0 hfr0 (by kernel_rfl) (by kernel_rfl) (.cons rfl (ob_assign rfl) <|
      .nil) ?_
  intro a1 w1 m1 hst1 hle1 hk1
  have hfr1 := hk1.fr (T' := [(0, _)]) (.new rfl <| .nil)
  replace hM := hM.trans hle1
  clear hst0 hfr0 hk1
  refine hK1 _ _ ?_; try clear hK1 K1
  refine seq_any fun K2 hK2 => ?_
  replace hst1 := hst1.more (r := .free) trivial List.nodup_nil (by simp [Res.blocks])
  refine region_any (tch := [(7, 0, (fun v => .blk v _)), (8, 0, (fun v => .blkx v _ _))]) (fun h => by cases h) hst1 hfr1 (by kernel_rfl) (by kernel_rfl) (by kernel_rfl) (.cons rfl (ob_callE rfl (.nil) Tryd.call24 (fun w m hK => by have hle_ := KC.le hK; have hA := KC.agree hK; have hM := hM.trans hle_; have hT := tab_keep hT hK.st.ext; exact whole_c hA)) <|
      .cons rfl (ob_buildSlice (.cons rfl <| .nil) Tryd.underlying23 Tryd.sizeOf9 Tryd.zeroValue9 rfl rfl rfl rfl) <|
      .cons rfl (ob_imgV 5 rfl rfl rfl fun y5 => ob_buildS (.cons rfl <| .cons rfl <| .nil) Tryd.underlying25 Tryd.zeroValue25 (.cons Tryd.sizeOf23 <| .cons Tryd.sizeOf3 <| .nil) rfl) <|
      .cons rfl (ob_callE rfl (.nil) Tryd.call31 (fun w m hK => by have hle_ := KC.le hK; have hA := KC.agree hK; have hM := hM.trans hle_; have hT := tab_keep hT hK.st.ext; exact truth_c hA)) <|
      .cons rfl (ob_buildSlice (.cons rfl <| .nil) Tryd.underlying22 Tryd.sizeOf27 Tryd.zeroValue27 rfl rfl rfl rfl) <|
      .cons rfl (ob_imgV 8 rfl rfl rfl fun y8 => ob_buildS (.cons rfl <| .cons rfl <| .nil) Tryd.underlying27 Tryd.zeroValue27 (.cons Tryd.sizeOf3 <| .cons Tryd.sizeOf9 <| .cons Tryd.sizeOf3 <| .cons Tryd.sizeOf22 <| .cons Tryd.sizeOf25 <| .nil) rfl) <|
      .cons rfl (ob_imgE 6 rfl rfl rfl fun y6 => ob_imgE 9 rfl rfl rfl fun y9 => ob_call (φ := MP.ty (shownT)) rfl (.cons rfl <| .cons rfl <| .cons rfl <| .nil) Tryd.call20 (fun w m hK => by have hle_ := KC.le hK; have hA := KC.agree hK; have hM := hM.trans hle_; have hT := tab_keep hT hK.1.1.st.ext; have hr0_ := hK.2; have hr1_ := hK.1.2; exact FnG.mono (fun_c (a := leafT 1) (r := ⟨[consoleS], 3⟩) (b := refT (leafT 2)) hA (leafR ⟨by omega, by omega⟩) ⟨_, _, rfl, Sl.one (vs := [_]) hr1_ rfl rfl, show InI64 3 from ⟨by omega, by omega⟩⟩ (TyR.build (k := 6) (v := 0) (r := 0) (s := []) (ls := []) (Sl.one (vs := [_, _, _, _, _, _]) hr0_ rfl (leafR (k := 2) ⟨by omega, by omega⟩)) Sl.empty ⟨by omega, by omega⟩ ⟨by omega, by omega⟩ ⟨by omega, by omega⟩)) fun _ _ _ _ h => h)) <|
      .consT rfl rfl (fun _ => rfl) rfl (ob_allocL Tryd.zeroValue27 rfl) <|
      .consT rfl rfl (fun _ => rfl) rfl (ob_imgT 1 rfl rfl rfl fun y1 => ob_imgTX 10 rfl rfl rfl fun y10 => ob_storeF rfl rfl rfl rfl rfl Tryd.sizeOf27 rfl rfl rfl) <|
      .nil) ?_
  intro a2 w2 m2 hst2 hle2 hk2
  have hfr2 := hk2.fr (T' := [(0, _)]) (.old rfl rfl <| .nil)
  obtain ⟨g3, e3, _⟩ := hk2.ex 1 rfl
  replace hfr2 := hfr2.cons e3
  replace hst2 := hst2.fin (L' := [_]) (.cons e3 <| .cons e3 <| .nil)
  obtain ⟨⟨⟨oa, ca⟩, ol, cl⟩, hcv, hst2⟩ := hst2.unx (k := 0) rfl (fun _ => rfl)
  replace hM := hM.trans hle2
  clear hst1 hfr1 hk2
  obtain ⟨oZ, cZ, oY, cY, eZ, hkZ, hsZ, -, -, hrZ⟩ := TyR.open_ hcv
  have hrwZ : RwR m2 ⟨[consoleS], 3⟩ [.slice ol 1 cl, .int .i64 3] := by injection eZ with _ e; injection e with _ e; injection e with _ e; injection e with _ e; injection e with e _; cases e; exact ⟨_, _, rfl, hsZ, hrZ⟩
  refine hK2 _ _ ?_; try clear hK2 K2
  refine seq_any fun K5 hK5 => ?_
  refine region_any (tch := []) (fun h => by cases h) hst2 hfr2 (by kernel_rfl) (by kernel_rfl) (by kernel_rfl) (.cons rfl (ob_loadLS' (j := 0) rfl rfl Tryd.isAgg27 Tryd.sizeOf27 rfl rfl) <|
      .cons rfl (ob_call (φ := MP.two (walkT shownT ([], [])).1 (walkT shownT ([], [])).2) rfl (.cons rfl <| .nil) Tryd.call21 (fun w m hK => by have hle_ := KC.le hK; have hA := KC.agree hK; have hM := hM.trans hle_; have hT := tab_keep hT hK.st.ext; have hcv := hcv.mono hle_; exact FnG.mono (vars_c (t := shownT) hA hcv (by decide)) fun _ _ _ _ h => h)) <|
      .cons rfl (ob_imgV 13 rfl rfl rfl fun y13 => ob_move rfl) <|
      .cons rfl (ob_imgV 11 rfl rfl rfl fun y11 => ob_extract rfl rfl) <|
      .cons rfl (ob_imgV 11 rfl rfl rfl fun y11 => ob_extract rfl rfl) <|
      .consA 14 rfl rfl <|
      .consA 15 rfl rfl <|
      .nil) ?_
  intro a3 w3 m3 hst3 hle3 hk3
  have hfr3 := hk3.fr (T' := [(0, _), (1, _)]) (.old rfl rfl <| .old rfl rfl <| .nil)
  obtain ⟨y6, e6, hy6⟩ := hk3.ex 14 rfl
  replace hfr3 := hfr3.cons e6
  obtain ⟨y7, e7, hy7⟩ := hk3.ex 15 rfl
  replace hfr3 := hfr3.cons e7
  replace hfr3 := hfr3.cons (hk3.same 2 rfl e6)
  replace hfr3 := hfr3.cons (hk3.same 3 rfl e7)
  replace hcv := hcv.mono hle3
  replace hrwZ := hrwZ.mono hle3
  replace hM := hM.trans hle3
  clear hst2 hfr2 hk3
  refine hK5 _ _ ?_; try clear hK5 K5
  refine seq_any fun K8 hK8 => ?_
  refine region_plain (fun _ => mixed) hst3 hfr3 (by kernel_rfl) (by kernel_rfl) (.cons rfl (ob_loadLS' (j := 0) rfl rfl Tryd.isAgg27 Tryd.sizeOf27 rfl rfl) <|
      .cons rfl (ob_callE rfl (.cons rfl <| .nil) Tryd.call13 (fun w m hK => by have hle_ := KC.le hK; have hA := KC.agree hK; have hM := hM.trans hle_; have hT := tab_keep hT hK.st.ext; have hcv := hcv.mono hle_; exact (show FnV Tryd.prog 13 #[_] _ _ (fun _ _ v => v = .bool true) from right0_c (t := shownT) hA hcv))) <|
      .cons rfl (ob_move rfl) <|
      .cons rfl (ob_loadLS' (j := 0) rfl rfl Tryd.isAgg27 Tryd.sizeOf27 rfl rfl) <|
      .cons rfl (ob_callE rfl (.cons rfl <| .nil) Tryd.call14 (fun w m hK => by have hle_ := KC.le hK; have hA := KC.agree hK; have hM := hM.trans hle_; have hT := tab_keep hT hK.st.ext; have hcv := hcv.mono hle_; exact (show FnV Tryd.prog 14 #[_] _ _ (fun _ _ v => v = S [105, 110, 116, 32, 45, 62, 32, 60, 99, 111, 110, 115, 111, 108, 101, 124, 51, 62, 32, 114, 101, 102, 32, 98, 111, 111, 108]) from by rw [← shownT_text]; exact text_c shownT hA hcv hT (by decide)))) <|
      .cons rfl (ob_seql rfl rfl) <|
      .cons rfl (ob_and rfl rfl rfl) <|
      .cons rfl (ob_move rfl) <|
      .cons rfl (ob_move rfl) <|
      .cons rfl (ob_len rfl Tryd.underlying35) <|
      .cons rfl (ob_eql rfl rfl) <|
      .cons rfl (ob_and rfl rfl rfl) <|
      .cons rfl (ob_move rfl) <|
      .cons rfl (ob_move rfl) <|
      .cons rfl (ob_len rfl Tryd.underlying35) <|
      .cons rfl (ob_eql rfl rfl) <|
      .cons rfl (ob_and rfl rfl rfl) <|
      .cons rfl (ob_move rfl) <|
      .cons rfl (ob_loadLS' (j := 0) rfl rfl Tryd.isAgg27 Tryd.sizeOf27 rfl rfl) <|
      .cons rfl (ob_loadLS' (j := 0) rfl rfl Tryd.isAgg27 Tryd.sizeOf27 rfl rfl) <|
      .cons rfl (ob_callE rfl (.cons rfl <| .cons rfl <| .nil) Tryd.call17 (fun w m hK => by have hle_ := KC.le hK; have hA := KC.agree hK; have hM := hM.trans hle_; have hT := tab_keep hT hK.st.ext; have hcv := hcv.mono hle_; exact (show FnV Tryd.prog 17 #[_, _] _ _ (fun _ _ v => v = .bool true) from same_c shownT (u := shownT) hA hcv hcv))) <|
      .cons rfl (ob_and rfl rfl rfl) <|
      .cons rfl (ob_move rfl) <|
      .cons rfl (ob_loadLS' (j := 0) rfl rfl Tryd.isAgg27 Tryd.sizeOf27 rfl rfl) <|
      .cons rfl (ob_callE rfl (.nil) Tryd.call24 (fun w m hK => by have hle_ := KC.le hK; have hA := KC.agree hK; have hM := hM.trans hle_; have hT := tab_keep hT hK.st.ext; exact whole_c hA)) <|
      .cons rfl (ob_callE rfl (.cons rfl <| .cons rfl <| .nil) Tryd.call17 (fun w m hK => by have hle_ := KC.le hK; have hA := KC.agree hK; have hM := hM.trans hle_; have hT := tab_keep hT hK.st.ext; have hcv := hcv.mono hle_; exact (show FnV Tryd.prog 17 #[_, _] _ _ (fun _ _ v => v = .bool false) from same_c shownT (u := leafT 1) hA hcv (leafR ⟨by omega, by omega⟩)))) <|
      .cons rfl (ob_not rfl) <|
      .cons rfl (ob_and rfl rfl rfl) <|
      .cons rfl (ob_move rfl) <|
      .cons rfl (ob_loadLS' (j := 0) rfl rfl Tryd.isAgg27 Tryd.sizeOf27 rfl rfl) <|
      .cons rfl (ob_callE rfl (.cons rfl <| .nil) Tryd.call18 (fun w m hK => by have hle_ := KC.le hK; have hA := KC.agree hK; have hM := hM.trans hle_; have hT := tab_keep hT hK.st.ext; have hcv := hcv.mono hle_; exact (show FnV Tryd.prog 18 #[_] _ _ (fun _ _ v => v = .int .i64 3) from depth0_c (t := shownT) hA hcv))) <|
      .cons rfl (ob_eql rfl rfl) <|
      .cons rfl (ob_and rfl rfl rfl) <|
      .cons rfl (ob_move rfl) <|
      .cons rfl (ob_fieldAddr rfl Tryd.underlying27 rfl Tryd.sizeOf25 rfl) <|
      .cons rfl (ob_loadLS (j := 0) rfl rfl Tryd.isAgg25 Tryd.sizeOf25 rfl rfl) <|
      .cons rfl (ob_callE rfl (.cons rfl <| .nil) Tryd.call29 (fun w m hK => by have hle_ := KC.le hK; have hA := KC.agree hK; have hM := hM.trans hle_; have hT := tab_keep hT hK.st.ext; have hrwZ := hrwZ.mono hle_; exact (show FnV Tryd.prog 29 #[_] _ _ (fun _ _ v => v = .bool false) from calm_c (r := ⟨[consoleS], 3⟩) hA hrwZ))) <|
      .cons rfl (ob_not rfl) <|
      .cons rfl (ob_and rfl rfl rfl) <|
      .cons rfl (ob_move rfl) <|
      .cons rfl (ob_buildS (.nil) Tryd.underlying25 Tryd.zeroValue25 (.cons Tryd.sizeOf23 <| .cons Tryd.sizeOf3 <| .nil) rfl) <|
      .cons rfl (ob_callE rfl (.cons rfl <| .nil) Tryd.call29 (fun w m hK => by have hle_ := KC.le hK; have hA := KC.agree hK; have hM := hM.trans hle_; have hT := tab_keep hT hK.st.ext; exact (show FnV Tryd.prog 29 #[_] _ _ (fun _ _ v => v = .bool true) from calm_c (r := ⟨[], 0⟩) hA ⟨none, 0, rfl, Sl.empty, show InI64 0 from ⟨by omega, by omega⟩⟩))) <|
      .cons rfl (ob_and rfl rfl rfl) <|
      .cons rfl (ob_assign rfl) <|
      .nil) ?_
  intro a4 w4 m4 hst4 hle4 hk4
  have hfr4 := hk4.fr (T' := [(1, _), (2, _), (3, _), (0, _)]) (.old rfl rfl <| .old rfl rfl <| .old rfl rfl <| .new rfl <| .nil)
  replace hcv := hcv.mono hle4
  replace hrwZ := hrwZ.mono hle4
  replace hM := hM.trans hle4
  clear hst3 hfr3 hk4
  refine hK8 _ _ ?_; try clear hK8 K8
  refine wp_ret ?_
  repeat (with_reducible first | refine then_ret ?_ | refine block_ret ?_)
  exact fn_ret hst4 hfr4 rfl (.tmp rfl <| .nil) (rfl)

end Go.Proofs.YtembdjghbphcdaaDoor
