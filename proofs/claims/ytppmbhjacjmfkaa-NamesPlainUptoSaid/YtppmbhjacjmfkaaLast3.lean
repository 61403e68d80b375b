/-
  Names: clauses that resume last; terms of the laws. Conditions: those of each theorem.
-/
import Derived.Test.YtppmbhjacjmfkaaRefs3
namespace Go.Proofs.Ytppmbhjacjmfkaa
set_option linter.all false
set_option maxRecDepth 4000
open Go.RowKit
theorem getD_drop {α : Type} {l r : List α} {k : Nat} {x d : α} (h : l.drop k = x :: r) : l.getD k d = x := by
  rw [List.getD_eq_getElem?_getD, at_of_drop h]; rfl
/-- What a clause resumes with, if that is all that it does. -/
def lastC (a : Ar) : Prop := a.vars.length = 2 ∧ a.vars.getD 0 [] ≠ a.vars.getD 1 [] ∧ a.body.kind = 6 ∧ a.body.kids.length = 2 ∧ a.vars.getD 1 [] ≠ uS ∧ (a.body.kids.getD 0 zeroT).kind = 1 ∧ (a.body.kids.getD 0 zeroT).name = a.vars.getD 1 [] ∧ usesM (a.vars.getD 1 []) (a.body.kids.getD 1 zeroT) = 0
instance (a : Ar) : Decidable (lastC a) := by unfold lastC; infer_instance
def lastP (a : Ar) : Tm × Bool := if lastC a then (a.body.kids.getD 1 zeroT, true) else (zeroT, false)
theorem lastP_no {a : Ar} (h : ¬ lastC a) : lastP a = (zeroT, false) := if_neg h
theorem lastP_yes {a : Ar} (h : lastC a) {x : Tm} (hx : a.body.kids.getD 1 zeroT = x) : lastP a = (x, true) := by unfold lastP; rw [if_pos h, hx]
def MP.lastV (a : Ar) : MP := MP.mem (fun y : (Tm × TmY) × Bool => .tuple #[.agg (tmV y.1.1 y.1.2).toArray, .bool y.2]) (fun y m => TmR m y.1.1 (tmV y.1.1 y.1.2) ∧ (y.1.1, y.2) = lastP a) fun hm h => ⟨h.1.mono hm, h.2⟩
def varT (s : Str) : Tm := ⟨1, 0, s, [], 0, [], [], ⟨[], 0⟩⟩
theorem inI0 : InI64 0 := ⟨by decide, by decide⟩
def callT (f a : Tm) : Tm := ⟨6, 0, [], [], 0, [f, a], [], ⟨[], 0⟩⟩
set_option maxHeartbeats 1600000 in
theorem v_c {w : World} {m : Mem} {s : Str} (hA : Agree w m)  : FnV Try.prog 11 #[S s] w m (fun _ m v => (MP.tm (varT s)).p m v) := by
  refine fn_enter (vs := [_]) Try.func11 rfl rfl rfl fun a0 hfr0 => ?_
  have hst0 := st_enter hA (loc_nil [] _ w m)
  have hM : MLe m m := MLe.refl m
  refine seq_any fun _ hK1 => ?_
  replace hst0 := hst0.more (r := .free) trivial List.nodup_nil (by simp [Res.blocks])
  refine ra0 (tch := [(0, 0, (fun v => .blk v _))]) hst0 hfr0 (.consT rfl rfl (fun _ => rfl) rfl (ob_allocL Try.zeroValue33 rfl) <| .nil) ?_
  intro a1 w1 m1 hst1 hle1 hk1
  have hfr1 := hk1.fr (T' := [(0, _)]) (.old rfl rfl <| .nil)
  obtain ⟨g2, e2, _⟩ := hk1.ex 2 rfl
  replace hfr1 := hfr1.cons e2
  replace hst1 := hst1.fin (L' := [_]) (.cons e2 <| .nil)
  clear hst0 hfr0 hk1
  refine hK1 _ _ ?_; clear hK1
  refine seq_any fun _ hK3 => ?_
  refine ra0 (tch := [(2, 0, (fun _ => .blk _ _))]) hst1 hfr1 (.cons rfl (ob_move rfl) <| .cons rfl (ob_buildS (.cons rfl <| .cons rfl <| .nil) Try.underlying33 Try.zeroValue33 (.cons Try.sizeOf3 <| .cons Try.sizeOf3 <| .cons Try.sizeOf9 <| .cons Try.sizeOf9 <| .cons Try.sizeOf3 <| .cons Try.sizeOf24 <| .cons Try.sizeOf25 <| .cons Try.sizeOf31 <| .cons Try.sizeOf29 <| .cons Try.sizeOf31 <| .nil) rfl) <| .consT rfl rfl (fun _ => rfl) rfl (ob_store' rfl rfl rfl Try.sizeOf33 rfl rfl rfl) <| .nil) ?_
  intro a2 w2 m2 hst2 hle2 hk2
  have hfr2 := hk2.fr (T' := [(2, _)]) (.old rfl rfl <| .nil)
  replace hst2 := hst2.fin (L' := [_]) (.cons rfl <| .nil)
  try simp only [List.take_succ_cons, List.take_zero, List.drop_succ_cons, List.drop_zero, List.cons_append, List.nil_append, List.append_nil, List.length_cons, List.length_nil, Nat.zero_add, Nat.reduceAdd] at hst2
  clear hst1 hfr1 hk2
  refine hK3 _ _ ?_; clear hK3
  refine wp_ret ?_
  repeat (with_reducible first | refine then_ret ?_ | refine block_ret ?_)
  exact fn_ret hst2 hfr2 rfl (.cell rfl (load_blk (blk_heap (hst2.loc.at_ (k := 0) rfl)) Try.isAgg33 Try.sizeOf33) <| .nil) (⟨TmY.zero none 0 none 0, rfl, TmR.build TmY.zero_one Sl.empty Sl.empty ⟨_, _, rfl, Sl.empty, inI0⟩⟩)

set_option maxHeartbeats 1600000 in
theorem call_c {w : World} {m : Mem} {f : Tm} {vs_f : List Value} {a : Tm} {vs_a : List Value} (hA : Agree w m) (h_f : TmR m f vs_f) (h_a : TmR m a vs_a) : FnV Try.prog 10 #[.agg vs_f.toArray, .agg vs_a.toArray] w m (fun _ m v => (MP.tm (callT f a)).p m v) := by
  obtain ⟨⟨oK_f, cK_f, oA_f, cA_f, oR_f, cR_f, t0_f, t1_f, t2_f, t3_f, t4_f, t5_f, u0_f, u1_f, u2_f, u3_f, u4_f, u5_f⟩, rfl, hon_f, hkk_f, haa_f, hrr_f⟩ := h_f.open_
  dsimp only at hkk_f haa_f hrr_f
  have hbg_f := hkk_f.big; have hcp_f := hkk_f.cap; have hbh_f := haa_f.big; have hcq_f := haa_f.cap
  obtain ⟨⟨oK_a, cK_a, oA_a, cA_a, oR_a, cR_a, t0_a, t1_a, t2_a, t3_a, t4_a, t5_a, u0_a, u1_a, u2_a, u3_a, u4_a, u5_a⟩, rfl, hon_a, hkk_a, haa_a, hrr_a⟩ := h_a.open_
  dsimp only at hkk_a haa_a hrr_a
  have hbg_a := hkk_a.big; have hcp_a := hkk_a.cap; have hbh_a := haa_a.big; have hcq_a := haa_a.cap
  refine fn_enter (vs := [_, _]) Try.func10 rfl rfl rfl fun a0 hfr0 => ?_
  have hst0 := st_enter hA (loc_nil [] _ w m)
  have hM : MLe m m := MLe.refl m
  refine seq_any fun _ hK1 => ?_
  replace hst0 := hst0.more (r := .free) trivial List.nodup_nil (by simp [Res.blocks])
  refine ra0 (tch := [(2, 0, (fun v => .blk v _))]) hst0 hfr0 (.cons rfl (ob_box rfl rfl) <| .cons rfl (ob_box rfl rfl) <| .consT rfl rfl (fun _ => rfl) rfl (ob_allocL Try.zeroValue33 rfl) <| .nil) ?_
  intro a1 w1 m1 hst1 hle1 hk1
  have hfr1 := hk1.fr (T' := []) (.nil)
  obtain ⟨g2, e2, hc2⟩ := hk1.ex 2 rfl
  replace hfr1 := hfr1.cons e2
  obtain ⟨g3, e3, hc3⟩ := hk1.ex 3 rfl
  replace hfr1 := hfr1.cons e3
  obtain ⟨g4, e4, _⟩ := hk1.ex 4 rfl
  replace hfr1 := hfr1.cons e4
  replace hst1 := hst1.fin (L' := [_]) (.cons e4 <| .nil)
  replace h_f := h_f.mono hle1
  replace h_a := h_a.mono hle1
  clear hst0 hfr0 hk1
  refine hK1 _ _ ?_; clear hK1
  refine seq_any fun _ hK5 => ?_
  refine ra0 (tch := [(4, 0, (fun _ => .blkx _ _ _))]) hst1 hfr1 (.cons rfl (ob_loadS' rfl hc2 Try.isAgg33 Try.sizeOf33 rfl rfl) <| .cons rfl (ob_loadS' rfl hc3 Try.isAgg33 Try.sizeOf33 rfl rfl) <| .cons rfl (ob_buildSlice2 rfl rfl Try.underlying24 Try.sizeOf33 Try.zeroValue33 rfl rfl rfl rfl rfl) <| .cons rfl (ob_imgV 7 rfl rfl rfl fun y7 => ob_buildS (.cons rfl <| .cons rfl <| .nil) Try.underlying33 Try.zeroValue33 (.cons Try.sizeOf3 <| .cons Try.sizeOf3 <| .cons Try.sizeOf9 <| .cons Try.sizeOf9 <| .cons Try.sizeOf3 <| .cons Try.sizeOf24 <| .cons Try.sizeOf25 <| .cons Try.sizeOf31 <| .cons Try.sizeOf29 <| .cons Try.sizeOf31 <| .nil) rfl) <| .consT rfl rfl (fun _ => rfl) rfl (ob_imgTX 8 rfl rfl rfl fun y8 => ob_store' rfl rfl rfl Try.sizeOf33 rfl rfl rfl) <| .nil) ?_
  intro a2 w2 m2 hst2 hle2 hk2
  have hfr2 := hk2.fr (T' := [(4, _)]) (.old rfl rfl <| .nil)
  replace hst2 := hst2.fin (L' := [_]) (.cons rfl <| .nil)
  try simp only [List.take_succ_cons, List.take_zero, List.drop_succ_cons, List.drop_zero, List.cons_append, List.nil_append, List.append_nil, List.length_cons, List.length_nil, Nat.zero_add, Nat.reduceAdd] at hst2
  obtain ⟨gf, hgf, hst2⟩ := hst2.unx (k := 0) rfl (fun _ => rfl)
  replace h_f := h_f.mono hle2
  replace h_a := h_a.mono hle2
  clear hst1 hfr1 hk2
  refine hK5 _ _ ?_; clear hK5
  refine wp_ret ?_
  repeat (with_reducible first | refine then_ret ?_ | refine block_ret ?_)
  exact fn_ret hst2 hfr2 rfl (.cell rfl (load_blk (blk_heap (hst2.loc.at_ (k := 0) rfl)) Try.isAgg33 Try.sizeOf33) <| .nil) (⟨TmY.zero (some ⟨gf, 0, none⟩) 2 none 0, rfl, TmR.build TmY.zero_one (by refine Sl.two (R := fun m vs t => TmR m t vs) ?_ ?_ ?_ h_f h_a; exact hgf; rfl; rfl) Sl.empty ⟨_, _, rfl, Sl.empty, inI0⟩⟩)

set_option maxHeartbeats 3200000 in
theorem last_c {w : World} {m : Mem} {a : Ar} {vs_a : List Value} (hA : Agree w m) (h_a : ArR m a vs_a) (hsh : ShT a.body) (hb : countM a.body ≤ 1000000000) : FnV Try.prog 12 #[.agg vs_a.toArray] w m (fun _ m v => (MP.lastV a).p m v) := by
  obtain ⟨oV_a, cV_a, bs_a, rfl, hva_a, hbd_a⟩ := h_a.open_
  have hbv_a := hva_a.big; have hcv_a_ := hva_a.cap
  obtain ⟨⟨oK_ab, cK_ab, oA_ab, cA_ab, oR_ab, cR_ab, t0_ab, t1_ab, t2_ab, t3_ab, t4_ab, t5_ab, u0_ab, u1_ab, u2_ab, u3_ab, u4_ab, u5_ab⟩, rfl, hon_ab, hkk_ab, haa_ab, hrr_ab⟩ := hbd_a.open_
  dsimp only at hkk_ab haa_ab hrr_ab
  have hbg_ab := hkk_ab.big; have hcp_ab := hkk_ab.cap; have hbh_ab := haa_ab.big; have hcq_ab := haa_ab.cap
  refine fn_enter (vs := [_]) Try.func12 rfl rfl rfl fun a0 hfr0 => ?_
  have hst0 := st_enter hA (loc_nil [] _ w m)
  have hM : MLe m m := MLe.refl m
  have hce := countM_eq a.body
  refine seq_any fun _ hK1 => ?_
  replace hst0 := hst0.more (r := .free) trivial List.nodup_nil (by simp [Res.blocks])
  refine ra0 (tch := [(1, 0, (fun v => .blk v _))]) hst0 hfr0 (.cons rfl (ob_box rfl rfl) <| .consT rfl rfl (fun _ => rfl) rfl (ob_allocL Try.zeroValue33 rfl) <| .cons rfl (ob_assign rfl) <| .nil) ?_
  intro a1 w1 m1 hst1 hle1 hk1
  have hfr1 := hk1.fr (T' := []) (.nil)
  obtain ⟨g2, e2, hc1⟩ := hk1.ex 1 rfl
  replace hfr1 := hfr1.cons e2
  obtain ⟨g3, e3, _⟩ := hk1.ex 2 rfl
  replace hfr1 := hfr1.cons e3
  replace hst1 := hst1.fin (L' := [_]) (.cons e3 <| .nil)
  replace hva_a := hva_a.mono hle1
  replace hbd_a := hbd_a.mono hle1
  replace hkk_ab := hkk_ab.mono hle1
  clear hst0 hfr0 hk1
  refine hK1 _ _ ?_; clear hK1
  refine seq_any fun _ hK4 => ?_
  replace hst1 := hst1.more (r := .free) trivial List.nodup_nil (by simp [Res.blocks])
  refine ra0 (tch := [(2, 1, (fun v => .blk v _)), (3, 1, (fun v => .blk v _))]) hst1 hfr1 (.cons rfl (ob_fieldAddrO (off := 2) rfl Try.underlying40 rfl rfl Try.sizeOf33 rfl) <| .cons rfl (ob_loadS rfl hc1 Try.isAgg33 Try.sizeOf33 rfl rfl) <| .consT rfl rfl (fun _ => rfl) rfl (ob_allocL Try.zeroValue33 rfl) <| .consT rfl rfl (fun _ => rfl) rfl (ob_imgT 4 rfl rfl rfl fun y4 => ob_storeF rfl rfl rfl rfl rfl Try.sizeOf33 rfl rfl hbd_a.one) <| .nil) ?_
  intro a2 w2 m2 hst2 hle2 hk2
  have hfr2 := hk2.fr (T' := [(1, _), (2, _)]) (.old rfl rfl <| .old rfl rfl <| .nil)
  obtain ⟨g5, e5, _⟩ := hk2.ex 4 rfl
  replace hfr2 := hfr2.cons e5
  replace hst2 := hst2.fin (L' := [_, _]) (.cons e5 <| .cons e5 <| .nil)
  try simp only [List.take_succ_cons, List.take_zero, List.drop_succ_cons, List.drop_zero, List.cons_append, List.nil_append, List.append_nil, List.length_cons, List.length_nil, Nat.zero_add, Nat.reduceAdd] at hst2
  replace hva_a := hva_a.mono hle2
  replace hkk_ab := hkk_ab.mono hle2
  replace hc1 := hc1.mono hle2
  clear hst1 hfr1 hk2
  refine hK4 _ _ ?_; clear hK4
  refine seq_any fun _ hK6 => ?_
  refine seq_any fun _ hK7 => ?_
  rcases Nat.decEq a.vars.length 2 with hl2 | hl2
  · skip
    refine region_plain (fun _ => mixed) hst2 hfr2 (by kernel_rfl) (by kernel_rfl) (.cons rfl (ob_fieldAddrO (off := 1) rfl Try.underlying40 rfl rfl Try.sizeOf27 rfl) <| .cons rfl (ob_load1 rfl hc1 Try.isAgg27 rfl) <| .cons rfl (ob_len rfl Try.underlying27) <| .cons rfl (ob_neq rfl rfl) <| .cons rfl (ob_move rfl) <| .cons rfl (ob_guard (κ := .eq (.bool false)) (b := false) 13 rfl rfl (fun h => by first | (simp at h; omega) | omega)) <| .cons rfl (ob_guard (κ := .eq (.bool false)) (b := false) 13 rfl rfl (fun h => by first | (simp at h; omega) | omega)) <| .cons rfl (ob_guard (κ := .eq (.bool false)) (b := false) 13 rfl rfl (fun h => by first | (simp at h; omega) | omega)) <| .cons rfl (ob_guard (κ := .eq (.bool false)) (b := false) 13 rfl rfl (fun h => by first | (simp at h; omega) | omega)) <| .cons rfl (ob_guard (κ := .eq (.bool false)) (b := false) 13 rfl rfl (fun h => by first | (simp at h; omega) | omega)) <| .cons rfl (ob_guard (κ := .eq (.bool false)) (b := false) 13 rfl rfl (fun h => by first | (simp at h; omega) | omega)) <| .cons rfl (ob_guard (κ := .eq (.bool false)) (b := false) 13 rfl rfl (fun h => by first | (simp at h; omega) | omega)) <| .cons rfl (ob_guard (κ := .eq (.bool false)) (b := false) 13 rfl rfl (fun h => by first | (simp at h; omega) | omega)) <| .cons rfl (ob_guard (κ := .eq (.bool false)) (b := false) 13 rfl rfl (fun h => by first | (simp at h; omega) | omega)) <| .cons rfl (ob_or rfl rfl rfl) <| .cons rfl (ob_move rfl) <| .cons rfl (ob_fieldAddrO (off := 0) rfl Try.underlying33 rfl rfl Try.sizeOf3 rfl) <| .cons rfl (ob_loadL (j := 1) rfl rfl Try.isAgg3 rfl) <| .cons rfl (ob_neq rfl rfl) <| .cons rfl (ob_or rfl rfl rfl) <| .cons rfl (ob_move rfl) <| .cons rfl (ob_fieldAddrO (off := 5) rfl Try.underlying33 rfl rfl Try.sizeOf24 rfl) <| .cons rfl (ob_loadL (j := 1) rfl rfl Try.isAgg24 rfl) <| .cons rfl (ob_len rfl Try.underlying24) <| .cons rfl (ob_neq rfl rfl) <| .cons rfl (ob_or rfl rfl rfl) <| .nil) ?_
    intro a3 w3 m3 hst3 hle3 hk3
    have hfr3 := hk3.fr (T' := [(1, _), (2, _), (4, _), (34, _)]) (.old rfl rfl <| .old rfl rfl <| .old rfl rfl <| .new rfl <| .nil)
    clear hst2 hfr2 hk3
    refine hK7 _ _ ?_; clear hK7
    refine cond_any hfr3 rfl rfl (fun hb34 => ?_) (fun hb34 => ?_)
    · try simp only [nq1, nq2, nq3, nq4, nq5, nq6, nq7, nq8, nq9, u8_eq] at hb34
      refine seq_any fun _ hK8 => ?_
      refine ra0 (tch := [(1, 0, (fun _ => .blk _ _))]) hst3 hfr3 (.cons rfl (ob_buildS (.nil) Try.underlying33 Try.zeroValue33 (.cons Try.sizeOf3 <| .cons Try.sizeOf3 <| .cons Try.sizeOf9 <| .cons Try.sizeOf9 <| .cons Try.sizeOf3 <| .cons Try.sizeOf24 <| .cons Try.sizeOf25 <| .cons Try.sizeOf31 <| .cons Try.sizeOf29 <| .cons Try.sizeOf31 <| .nil) rfl) <| .consT rfl rfl (fun _ => rfl) rfl (ob_store' rfl rfl rfl Try.sizeOf33 rfl rfl rfl) <| .cons rfl (ob_assign rfl) <| .nil) ?_
      intro a4 w4 m4 hst4 hle4 hk4
      have hfr4 := hk4.fr (T' := [(2, _), (3, _)]) (.old rfl rfl <| .new rfl <| .nil)
      replace hst4 := hst4.fin (L' := [_, _]) (.cons rfl <| .nil)
      try simp only [List.take_succ_cons, List.take_zero, List.drop_succ_cons, List.drop_zero, List.cons_append, List.nil_append, List.append_nil, List.length_cons, List.length_nil, Nat.zero_add, Nat.reduceAdd] at hst4
      clear hst3 hfr3 hk4
      refine hK8 _ _ ?_; clear hK8
      refine wp_ret ?_
      repeat (with_reducible first | refine then_ret ?_ | refine block_ret ?_)
      exact fn_ret hst4 hfr4 rfl (.cell rfl (load_blk (blk_heap (hst4.loc.at_ (k := 0) rfl)) Try.isAgg33 Try.sizeOf33) <| .tmp rfl <| .nil) (⟨((zeroT, TmY.zero none 0 none 0), false), rfl, zeroT_R, (lastP_no (fun hh => by obtain ⟨h1, h2, h3, h4, h5, h6, h7, h8⟩ := hh; first | omega | (rcases hb34 with ((h | h) | h) | h <;> first | omega | exact h2 (hgA.trans (h.trans hgB.symm)) | exact h h3))).symm⟩)
    · exfalso
      first | omega | (simp at hb34; omega)
  · skip
    obtain ⟨p10, vs10, x10, ho10, hd10, hm_x10, ht10, hcv10, hl10, hv10⟩ := hva_a.nth (k := 0) (by omega)
    cases ho10
    subst hv10
    have hgA : a.vars.getD 0 [] = x10 := getD_drop hd10
    obtain ⟨p11, vs11, x11, ho11, hd11, hm_x11, ht11, hcv11, hl11, hv11⟩ := hva_a.nth (k := 1) (by omega)
    cases ho11
    subst hv11
    have hgB : a.vars.getD 1 [] = x11 := getD_drop hd11
    refine region_plain (fun _ => mixed) hst2 hfr2 (by kernel_rfl) (by kernel_rfl) (.cons rfl (ob_fieldAddrO (off := 1) rfl Try.underlying40 rfl rfl Try.sizeOf27 rfl) <| .cons rfl (ob_load1 rfl hc1 Try.isAgg27 rfl) <| .cons rfl (ob_len rfl Try.underlying27) <| .cons rfl (ob_neq rfl rfl) <| .cons rfl (ob_move rfl) <| .cons rfl (ob_fieldAddrO (off := 1) rfl Try.underlying40 rfl rfl Try.sizeOf27 rfl) <| .cons rfl (ob_load1 rfl hc1 Try.isAgg27 rfl) <| .cons rfl (ob_indexAddr (k := 0) rfl rfl Try.underlying27 Try.sizeOf9 rfl (by omega)) <| .cons rfl (ob_load1' rfl hcv10 Try.isAgg9 rfl) <| .cons rfl (ob_fieldAddrO (off := 1) rfl Try.underlying40 rfl rfl Try.sizeOf27 rfl) <| .cons rfl (ob_load1 rfl hc1 Try.isAgg27 rfl) <| .cons rfl (ob_indexAddr (k := 1) rfl rfl Try.underlying27 Try.sizeOf9 rfl (by omega)) <| .cons rfl (ob_load1' rfl hcv11 Try.isAgg9 rfl) <| .cons rfl (ob_seql rfl rfl) <| .cons rfl (ob_or rfl rfl rfl) <| .cons rfl (ob_move rfl) <| .cons rfl (ob_fieldAddrO (off := 0) rfl Try.underlying33 rfl rfl Try.sizeOf3 rfl) <| .cons rfl (ob_loadL (j := 1) rfl rfl Try.isAgg3 rfl) <| .cons rfl (ob_neq rfl rfl) <| .cons rfl (ob_or rfl rfl rfl) <| .cons rfl (ob_move rfl) <| .cons rfl (ob_fieldAddrO (off := 5) rfl Try.underlying33 rfl rfl Try.sizeOf24 rfl) <| .cons rfl (ob_loadL (j := 1) rfl rfl Try.isAgg24 rfl) <| .cons rfl (ob_len rfl Try.underlying24) <| .cons rfl (ob_neq rfl rfl) <| .cons rfl (ob_or rfl rfl rfl) <| .nil) ?_
    intro a3 w3 m3 hst3 hle3 hk3
    have hfr3 := hk3.fr (T' := [(1, _), (2, _), (4, _), (34, _)]) (.old rfl rfl <| .old rfl rfl <| .old rfl rfl <| .new rfl <| .nil)
    replace hkk_ab := hkk_ab.mono hle3
    replace hc1 := hc1.mono hle3
    replace hcv11 := hcv11.mono hle3
    clear hst2 hfr2 hk3
    refine hK7 _ _ ?_; clear hK7
    refine cond_any hfr3 rfl rfl (fun hb34 => ?_) (fun hb34 => ?_)
    · try simp only [nq1, nq2, nq3, nq4, nq5, nq6, nq7, nq8, nq9, u8_eq] at hb34
      refine seq_any fun _ hK12 => ?_
      refine ra0 (tch := [(1, 0, (fun _ => .blk _ _))]) hst3 hfr3 (.cons rfl (ob_buildS (.nil) Try.underlying33 Try.zeroValue33 (.cons Try.sizeOf3 <| .cons Try.sizeOf3 <| .cons Try.sizeOf9 <| .cons Try.sizeOf9 <| .cons Try.sizeOf3 <| .cons Try.sizeOf24 <| .cons Try.sizeOf25 <| .cons Try.sizeOf31 <| .cons Try.sizeOf29 <| .cons Try.sizeOf31 <| .nil) rfl) <| .consT rfl rfl (fun _ => rfl) rfl (ob_store' rfl rfl rfl Try.sizeOf33 rfl rfl rfl) <| .cons rfl (ob_assign rfl) <| .nil) ?_
      intro a4 w4 m4 hst4 hle4 hk4
      have hfr4 := hk4.fr (T' := [(2, _), (3, _)]) (.old rfl rfl <| .new rfl <| .nil)
      replace hst4 := hst4.fin (L' := [_, _]) (.cons rfl <| .nil)
      try simp only [List.take_succ_cons, List.take_zero, List.drop_succ_cons, List.drop_zero, List.cons_append, List.nil_append, List.append_nil, List.length_cons, List.length_nil, Nat.zero_add, Nat.reduceAdd] at hst4
      clear hst3 hfr3 hk4
      refine hK12 _ _ ?_; clear hK12
      refine wp_ret ?_
      repeat (with_reducible first | refine then_ret ?_ | refine block_ret ?_)
      exact fn_ret hst4 hfr4 rfl (.cell rfl (load_blk (blk_heap (hst4.loc.at_ (k := 0) rfl)) Try.isAgg33 Try.sizeOf33) <| .tmp rfl <| .nil) (⟨((zeroT, TmY.zero none 0 none 0), false), rfl, zeroT_R, (lastP_no (fun hh => by obtain ⟨h1, h2, h3, h4, h5, h6, h7, h8⟩ := hh; first | omega | (rcases hb34 with ((h | h) | h) | h <;> first | omega | exact h2 (hgA.trans (h.trans hgB.symm)) | exact h h3))).symm⟩)
    · try simp only [nq1, nq2, nq3, nq4, nq5, nq6, nq7, nq8, nq9, u8_eq] at hb34
      refine wp_skip ?_
      refine hK6 _ _ ?_; clear hK6
      refine seq_any fun _ hK14 => ?_
      refine rp0 hst3 hfr3 (.cons rfl (ob_fieldAddrO (off := 1) rfl Try.underlying40 rfl rfl Try.sizeOf27 rfl) <| .cons rfl (ob_load1 rfl hc1 Try.isAgg27 rfl) <| .cons rfl (ob_indexAddr (k := 1) rfl rfl Try.underlying27 Try.sizeOf9 rfl (by omega)) <| .cons rfl (ob_load1' rfl hcv11 Try.isAgg9 rfl) <| .cons rfl (ob_assign rfl) <| .nil) ?_
      intro a4 w4 m4 hst4 hle4 hk4
      have hfr4 := hk4.fr (T' := [(2, _), (4, _), (5, _)]) (.old rfl rfl <| .old rfl rfl <| .new rfl <| .nil)
      replace hkk_ab := hkk_ab.mono hle4
      clear hst3 hfr3 hk4
      refine hK14 _ _ ?_; clear hK14
      refine seq_any fun _ hK15 => ?_
      obtain ⟨p16, vs16, x16, ho16, hd16, hm_x16, ht16, hcv16, hl16, hv16⟩ := hkk_ab.nth (k := 0) (by omega)
      cases ho16
      obtain ⟨⟨oK16, cK16, oA16, cA16, oR16, cR16, t016, t116, t216, t316, t416, t516, u016, u116, u216, u316, u416, u516⟩, rfl, hon16, hkk16, haa16, hrr16⟩ := hv16.open_
      dsimp only at hkk16 haa16 hrr16
      have hbg16 := hkk16.big; have hcp16 := hkk16.cap; have hbh16 := haa16.big; have hcq16 := haa16.cap
      replace hst4 := hst4.more (r := .free) trivial List.nodup_nil (by simp [Res.blocks])
      refine ra0 (tch := [(4, 2, (fun v => .blk v _)), (5, 2, (fun v => .blk v _))]) hst4 hfr4 (.cons rfl (ob_fieldAddrO (off := 5) rfl Try.underlying33 rfl rfl Try.sizeOf24 rfl) <| .cons rfl (ob_loadL (j := 1) rfl rfl Try.isAgg24 rfl) <| .cons rfl (ob_indexAddr (k := 0) rfl rfl Try.underlying24 Try.sizeOf33 rfl (by omega)) <| .cons rfl (ob_loadS' rfl hcv16 Try.isAgg33 Try.sizeOf33 rfl rfl) <| .consT rfl rfl (fun _ => rfl) rfl (ob_allocL Try.zeroValue33 rfl) <| .consT rfl rfl (fun _ => rfl) rfl (ob_imgT 6 rfl rfl rfl fun y6 => ob_storeF rfl rfl rfl rfl rfl Try.sizeOf33 rfl rfl hv16.one) <| .nil) ?_
      intro a5 w5 m5 hst5 hle5 hk5
      have hfr5 := hk5.fr (T' := [(2, _), (4, _), (5, _)]) (.old rfl rfl <| .old rfl rfl <| .old rfl rfl <| .nil)
      obtain ⟨g17, e17, _⟩ := hk5.ex 6 rfl
      replace hfr5 := hfr5.cons e17
      replace hst5 := hst5.fin (L' := [_, _, _]) (.cons e17 <| .cons e17 <| .nil)
      try simp only [List.take_succ_cons, List.take_zero, List.drop_succ_cons, List.drop_zero, List.cons_append, List.nil_append, List.append_nil, List.length_cons, List.length_nil, Nat.zero_add, Nat.reduceAdd] at hst5
      replace hkk_ab := hkk_ab.mono hle5
      clear hst4 hfr4 hk5
      have hgF : a.body.kids.getD 0 zeroT = x16 := getD_drop hd16
      refine hK15 _ _ ?_; clear hK15
      refine seq_any fun _ hK18 => ?_
      refine seq_any fun _ hK19 => ?_
      obtain ⟨p20, vs20, x20, ho20, hd20, hm_x20, ht20, hcv20, hl20, hv20⟩ := hkk_ab.nth (k := 1) (by omega)
      cases ho20
      obtain ⟨⟨oK20, cK20, oA20, cA20, oR20, cR20, t020, t120, t220, t320, t420, t520, u020, u120, u220, u320, u420, u520⟩, rfl, hon20, hkk20, haa20, hrr20⟩ := hv20.open_
      dsimp only at hkk20 haa20 hrr20
      have hbg20 := hkk20.big; have hcp20 := hkk20.cap; have hbh20 := haa20.big; have hcq20 := haa20.cap
      refine rp0 hst5 hfr5 (.cons rfl (ob_move rfl) <| .cons rfl (ob_seql rfl rfl) <| .cons rfl (ob_move rfl) <| .cons rfl (ob_fieldAddrO (off := 0) rfl Try.underlying33 rfl rfl Try.sizeOf3 rfl) <| .cons rfl (ob_loadL (j := 2) rfl rfl Try.isAgg3 rfl) <| .cons rfl (ob_neq rfl rfl) <| .cons rfl (ob_or rfl rfl rfl) <| .cons rfl (ob_move rfl) <| .cons rfl (ob_fieldAddrO (off := 2) rfl Try.underlying33 rfl rfl Try.sizeOf9 rfl) <| .cons rfl (ob_loadL (j := 2) rfl rfl Try.isAgg9 rfl) <| .cons rfl (ob_move rfl) <| .cons rfl (ob_sneq rfl rfl) <| .cons rfl (ob_or rfl rfl rfl) <| .cons rfl (ob_move rfl) <| .cons rfl (ob_fieldAddrO (off := 5) rfl Try.underlying33 rfl rfl Try.sizeOf24 rfl) <| .cons rfl (ob_loadL (j := 1) rfl rfl Try.isAgg24 rfl) <| .cons rfl (ob_indexAddr (k := 1) rfl rfl Try.underlying24 Try.sizeOf33 rfl (by omega)) <| .cons rfl (ob_loadS' rfl hcv20 Try.isAgg33 Try.sizeOf33 rfl rfl) <| .cons rfl (ob_move rfl) <| .cons rfl (ob_callE rfl (.cons rfl <| .cons rfl <| .nil) Try.call17 (fun w m hK => by have hle_ := KC.le hK; have hA := KC.agree hK; have hv20 := hv20.mono hle_; exact usesP_c (t := x20) hA hv20 (hsh.kid hm_x20) (by have := countKs_in hm_x20; omega))) <| .cons rfl (ob_gtr rfl rfl) <| .cons rfl (ob_or rfl rfl rfl) <| .nil) ?_
      intro a6 w6 m6 hst6 hle6 hk6
      have hfr6 := hk6.fr (T' := [(2, _), (4, _), (65, _)]) (.old rfl rfl <| .old rfl rfl <| .new rfl <| .nil)
      replace hcv20 := hcv20.mono hle6
      replace hv20 := hv20.mono hle6
      clear hst5 hfr5 hk6
      have hgK : a.body.kids.getD 1 zeroT = x20 := getD_drop hd20
      refine hK19 _ _ ?_; clear hK19
      refine cond_any hfr6 rfl rfl (fun hb65 => ?_) (fun hb65 => ?_)
      · try simp only [nq1, nq2, nq3, nq4, nq5, nq6, nq7, nq8, nq9, u8_eq] at hb65
        refine seq_any fun _ hK21 => ?_
        refine ra0 (tch := [(1, 0, (fun _ => .blk _ _))]) hst6 hfr6 (.cons rfl (ob_buildS (.nil) Try.underlying33 Try.zeroValue33 (.cons Try.sizeOf3 <| .cons Try.sizeOf3 <| .cons Try.sizeOf9 <| .cons Try.sizeOf9 <| .cons Try.sizeOf3 <| .cons Try.sizeOf24 <| .cons Try.sizeOf25 <| .cons Try.sizeOf31 <| .cons Try.sizeOf29 <| .cons Try.sizeOf31 <| .nil) rfl) <| .consT rfl rfl (fun _ => rfl) rfl (ob_store' rfl rfl rfl Try.sizeOf33 rfl rfl rfl) <| .cons rfl (ob_assign rfl) <| .nil) ?_
        intro a7 w7 m7 hst7 hle7 hk7
        have hfr7 := hk7.fr (T' := [(2, _), (3, _)]) (.old rfl rfl <| .new rfl <| .nil)
        replace hst7 := hst7.fin (L' := [_, _, _]) (.cons rfl <| .nil)
        try simp only [List.take_succ_cons, List.take_zero, List.drop_succ_cons, List.drop_zero, List.cons_append, List.nil_append, List.append_nil, List.length_cons, List.length_nil, Nat.zero_add, Nat.reduceAdd] at hst7
        clear hst6 hfr6 hk7
        refine hK21 _ _ ?_; clear hK21
        refine wp_ret ?_
        repeat (with_reducible first | refine then_ret ?_ | refine block_ret ?_)
        exact fn_ret hst7 hfr7 rfl (.cell rfl (load_blk (blk_heap (hst7.loc.at_ (k := 0) rfl)) Try.isAgg33 Try.sizeOf33) <| .tmp rfl <| .nil) (⟨((zeroT, TmY.zero none 0 none 0), false), rfl, zeroT_R, (lastP_no (fun hh => by obtain ⟨h1, h2, h3, h4, h5, h6, h7, h8⟩ := hh; first | omega | (rw [hgB] at h5 h7 h8; rw [hgF] at h6 h7; rw [hgK] at h8; rcases hb65 with ((h | h) | h) | h <;> first | omega | exact h5 h | exact h h6 | exact h h7))).symm⟩)
      · try simp only [nq1, nq2, nq3, nq4, nq5, nq6, nq7, nq8, nq9, u8_eq] at hb65
        refine wp_skip ?_
        refine hK18 _ _ ?_; clear hK18
        refine seq_any fun _ hK23 => ?_
        refine ra0 (tch := [(4, 0, (fun _ => .blk _ _))]) hst6 hfr6 (.cons rfl (ob_fieldAddrO (off := 5) rfl Try.underlying33 rfl rfl Try.sizeOf24 rfl) <| .cons rfl (ob_loadL (j := 1) rfl rfl Try.isAgg24 rfl) <| .cons rfl (ob_indexAddr (k := 1) rfl rfl Try.underlying24 Try.sizeOf33 rfl (by omega)) <| .cons rfl (ob_loadS' rfl hcv20 Try.isAgg33 Try.sizeOf33 rfl rfl) <| .consT rfl rfl (fun _ => rfl) rfl (ob_store' rfl rfl rfl Try.sizeOf33 rfl rfl hv20.one) <| .cons rfl (ob_assign rfl) <| .nil) ?_
        intro a7 w7 m7 hst7 hle7 hk7
        have hfr7 := hk7.fr (T' := [(2, _), (3, _)]) (.old rfl rfl <| .new rfl <| .nil)
        replace hst7 := hst7.fin (L' := [_, _, _]) (.cons rfl <| .nil)
        try simp only [List.take_succ_cons, List.take_zero, List.drop_succ_cons, List.drop_zero, List.cons_append, List.nil_append, List.append_nil, List.length_cons, List.length_nil, Nat.zero_add, Nat.reduceAdd] at hst7
        replace hv20 := hv20.mono hle7
        clear hst6 hfr6 hk7
        refine hK23 _ _ ?_; clear hK23
        refine wp_ret ?_
        repeat (with_reducible first | refine then_ret ?_ | refine block_ret ?_)
        exact fn_ret hst7 hfr7 rfl (.cell rfl (load_blk (blk_heap (hst7.loc.at_ (k := 0) rfl)) Try.isAgg33 Try.sizeOf33) <| .tmp rfl <| .nil) (⟨((x20, _), true), rfl, hv20, (lastP_yes ⟨by omega, by rw [hgA, hgB]; exact hb34.1.1.2, by omega, by omega, by rw [hgB]; exact hb65.1.1.1, by rw [hgF]; omega, by rw [hgF, hgB]; exact hb65.1.2, by rw [hgB, hgK]; omega⟩ hgK).symm⟩)

set_option maxHeartbeats 3200000 in
theorem lastR_c {w : World} {m : Mem} {a : Ar} {vs_a : List Value} (hA : Agree w m) (h_a : ArR m a vs_a) (hb : countM a.body ≤ 1000000000) : FnV Try.prog 13 #[.agg vs_a.toArray] w m (fun _ m v => (MP.lastV a).p m v) := by
  obtain ⟨oV_a, cV_a, bs_a, rfl, hva_a, hbd_a⟩ := h_a.open_
  have hbv_a := hva_a.big; have hcv_a_ := hva_a.cap
  obtain ⟨⟨oK_ab, cK_ab, oA_ab, cA_ab, oR_ab, cR_ab, t0_ab, t1_ab, t2_ab, t3_ab, t4_ab, t5_ab, u0_ab, u1_ab, u2_ab, u3_ab, u4_ab, u5_ab⟩, rfl, hon_ab, hkk_ab, haa_ab, hrr_ab⟩ := hbd_a.open_
  dsimp only at hkk_ab haa_ab hrr_ab
  have hbg_ab := hkk_ab.big; have hcp_ab := hkk_ab.cap; have hbh_ab := haa_ab.big; have hcq_ab := haa_ab.cap
  refine fn_enter (vs := [_]) Try.func13 rfl rfl rfl fun a0 hfr0 => ?_
  have hst0 := st_enter hA (loc_nil [] _ w m)
  have hM : MLe m m := MLe.refl m
  have hce := countM_eq a.body
  refine seq_any fun _ hK1 => ?_
  replace hst0 := hst0.more (r := .free) trivial List.nodup_nil (by simp [Res.blocks])
  refine ra0 (tch := [(1, 0, (fun v => .blk v _))]) hst0 hfr0 (.cons rfl (ob_box rfl rfl) <| .consT rfl rfl (fun _ => rfl) rfl (ob_allocL Try.zeroValue33 rfl) <| .cons rfl (ob_assign rfl) <| .nil) ?_
  intro a1 w1 m1 hst1 hle1 hk1
  have hfr1 := hk1.fr (T' := []) (.nil)
  obtain ⟨g2, e2, hc1⟩ := hk1.ex 1 rfl
  replace hfr1 := hfr1.cons e2
  obtain ⟨g3, e3, _⟩ := hk1.ex 2 rfl
  replace hfr1 := hfr1.cons e3
  replace hst1 := hst1.fin (L' := [_]) (.cons e3 <| .nil)
  replace hva_a := hva_a.mono hle1
  replace hbd_a := hbd_a.mono hle1
  replace hkk_ab := hkk_ab.mono hle1
  clear hst0 hfr0 hk1
  refine hK1 _ _ ?_; clear hK1
  refine seq_any fun _ hK4 => ?_
  replace hst1 := hst1.more (r := .free) trivial List.nodup_nil (by simp [Res.blocks])
  refine ra0 (tch := [(2, 1, (fun v => .blk v _)), (3, 1, (fun v => .blk v _))]) hst1 hfr1 (.cons rfl (ob_fieldAddrO (off := 2) rfl Try.underlying40 rfl rfl Try.sizeOf33 rfl) <| .cons rfl (ob_loadS rfl hc1 Try.isAgg33 Try.sizeOf33 rfl rfl) <| .consT rfl rfl (fun _ => rfl) rfl (ob_allocL Try.zeroValue33 rfl) <| .consT rfl rfl (fun _ => rfl) rfl (ob_imgT 4 rfl rfl rfl fun y4 => ob_storeF rfl rfl rfl rfl rfl Try.sizeOf33 rfl rfl hbd_a.one) <| .nil) ?_
  intro a2 w2 m2 hst2 hle2 hk2
  have hfr2 := hk2.fr (T' := [(1, _), (2, _)]) (.old rfl rfl <| .old rfl rfl <| .nil)
  obtain ⟨g5, e5, _⟩ := hk2.ex 4 rfl
  replace hfr2 := hfr2.cons e5
  replace hst2 := hst2.fin (L' := [_, _]) (.cons e5 <| .cons e5 <| .nil)
  try simp only [List.take_succ_cons, List.take_zero, List.drop_succ_cons, List.drop_zero, List.cons_append, List.nil_append, List.append_nil, List.length_cons, List.length_nil, Nat.zero_add, Nat.reduceAdd] at hst2
  replace hva_a := hva_a.mono hle2
  replace hkk_ab := hkk_ab.mono hle2
  replace hc1 := hc1.mono hle2
  clear hst1 hfr1 hk2
  refine hK4 _ _ ?_; clear hK4
  refine seq_any fun _ hK6 => ?_
  refine seq_any fun _ hK7 => ?_
  rcases (show a.vars.length ≠ 2 ∨ (a.vars.length = 2 ∧ a.body.kids.length ≠ 2) ∨ (a.vars.length = 2 ∧ a.body.kids.length = 2) by omega) with hl2 | ⟨hl2, hk2⟩ | ⟨hl2, hk2⟩
  · skip
    refine region_plain (fun _ => mixed) hst2 hfr2 (by kernel_rfl) (by kernel_rfl) (.cons rfl (ob_fieldAddrO (off := 1) rfl Try.underlying40 rfl rfl Try.sizeOf27 rfl) <| .cons rfl (ob_load1 rfl hc1 Try.isAgg27 rfl) <| .cons rfl (ob_len rfl Try.underlying27) <| .cons rfl (ob_neq rfl rfl) <| .cons rfl (ob_move rfl) <| .cons rfl (ob_guard (κ := .eq (.bool false)) (b := false) 12 rfl rfl (fun h => by first | (simp at h; omega) | omega | (simp_all; done))) <| .cons rfl (ob_guard (κ := .eq (.bool false)) (b := false) 12 rfl rfl (fun h => by first | (simp at h; omega) | omega | (simp_all; done))) <| .cons rfl (ob_guard (κ := .eq (.bool false)) (b := false) 12 rfl rfl (fun h => by first | (simp at h; omega) | omega | (simp_all; done))) <| .cons rfl (ob_guard (κ := .eq (.bool false)) (b := false) 12 rfl rfl (fun h => by first | (simp at h; omega) | omega | (simp_all; done))) <| .cons rfl (ob_guard (κ := .eq (.bool false)) (b := false) 12 rfl rfl (fun h => by first | (simp at h; omega) | omega | (simp_all; done))) <| .cons rfl (ob_guard (κ := .eq (.bool false)) (b := false) 12 rfl rfl (fun h => by first | (simp at h; omega) | omega | (simp_all; done))) <| .cons rfl (ob_guard (κ := .eq (.bool false)) (b := false) 12 rfl rfl (fun h => by first | (simp at h; omega) | omega | (simp_all; done))) <| .cons rfl (ob_guard (κ := .eq (.bool false)) (b := false) 12 rfl rfl (fun h => by first | (simp at h; omega) | omega | (simp_all; done))) <| .cons rfl (ob_guard (κ := .eq (.bool false)) (b := false) 12 rfl rfl (fun h => by first | (simp at h; omega) | omega | (simp_all; done))) <| .cons rfl (ob_or rfl rfl rfl) <| .cons rfl (ob_move rfl) <| .cons rfl (ob_guard (κ := .eq (.bool false)) (b := false) 23 rfl rfl (fun h => by first | (simp at h; omega) | omega | (simp_all; done))) <| .cons rfl (ob_guard (κ := .eq (.bool false)) (b := false) 23 rfl rfl (fun h => by first | (simp at h; omega) | omega | (simp_all; done))) <| .cons rfl (ob_guard (κ := .eq (.bool false)) (b := false) 23 rfl rfl (fun h => by first | (simp at h; omega) | omega | (simp_all; done))) <| .cons rfl (ob_guard (κ := .eq (.bool false)) (b := false) 23 rfl rfl (fun h => by first | (simp at h; omega) | omega | (simp_all; done))) <| .cons rfl (ob_guard (κ := .eq (.bool false)) (b := false) 23 rfl rfl (fun h => by first | (simp at h; omega) | omega | (simp_all; done))) <| .cons rfl (ob_or rfl rfl rfl) <| .cons rfl (ob_move rfl) <| .cons rfl (ob_guard (κ := .eq (.bool false)) (b := false) 30 rfl rfl (fun h => by first | (simp at h; omega) | omega | (simp_all; done))) <| .cons rfl (ob_guard (κ := .eq (.bool false)) (b := false) 30 rfl rfl (fun h => by first | (simp at h; omega) | omega | (simp_all; done))) <| .cons rfl (ob_guard (κ := .eq (.bool false)) (b := false) 30 rfl rfl (fun h => by first | (simp at h; omega) | omega | (simp_all; done))) <| .cons rfl (ob_or rfl rfl rfl) <| .cons rfl (ob_move rfl) <| .cons rfl (ob_guard (κ := .eq (.bool false)) (b := false) 35 rfl rfl (fun h => by first | (simp at h; omega) | omega | (simp_all; done))) <| .cons rfl (ob_guard (κ := .eq (.bool false)) (b := false) 35 rfl rfl (fun h => by first | (simp at h; omega) | omega | (simp_all; done))) <| .cons rfl (ob_guard (κ := .eq (.bool false)) (b := false) 35 rfl rfl (fun h => by first | (simp at h; omega) | omega | (simp_all; done))) <| .cons rfl (ob_guard (κ := .eq (.bool false)) (b := false) 35 rfl rfl (fun h => by first | (simp at h; omega) | omega | (simp_all; done))) <| .cons rfl (ob_or rfl rfl rfl) <| .cons rfl (ob_move rfl) <| .cons rfl (ob_guard (κ := .eq (.bool false)) (b := false) 41 rfl rfl (fun h => by first | (simp at h; omega) | omega | (simp_all; done))) <| .cons rfl (ob_guard (κ := .eq (.bool false)) (b := false) 41 rfl rfl (fun h => by first | (simp at h; omega) | omega | (simp_all; done))) <| .cons rfl (ob_guard (κ := .eq (.bool false)) (b := false) 41 rfl rfl (fun h => by first | (simp at h; omega) | omega | (simp_all; done))) <| .cons rfl (ob_guard (κ := .eq (.bool false)) (b := false) 41 rfl rfl (fun h => by first | (simp at h; omega) | omega | (simp_all; done))) <| .cons rfl (ob_guard (κ := .eq (.bool false)) (b := false) 41 rfl rfl (fun h => by first | (simp at h; omega) | omega | (simp_all; done))) <| .cons rfl (ob_guard (κ := .eq (.bool false)) (b := false) 41 rfl rfl (fun h => by first | (simp at h; omega) | omega | (simp_all; done))) <| .cons rfl (ob_or rfl rfl rfl) <| .cons rfl (ob_move rfl) <| .cons rfl (ob_guard (κ := .eq (.bool false)) (b := false) 49 rfl rfl (fun h => by first | (simp at h; omega) | omega | (simp_all; done))) <| .cons rfl (ob_guard (κ := .eq (.bool false)) (b := false) 49 rfl rfl (fun h => by first | (simp at h; omega) | omega | (simp_all; done))) <| .cons rfl (ob_guard (κ := .eq (.bool false)) (b := false) 49 rfl rfl (fun h => by first | (simp at h; omega) | omega | (simp_all; done))) <| .cons rfl (ob_guard (κ := .eq (.bool false)) (b := false) 49 rfl rfl (fun h => by first | (simp at h; omega) | omega | (simp_all; done))) <| .cons rfl (ob_guard (κ := .eq (.bool false)) (b := false) 49 rfl rfl (fun h => by first | (simp at h; omega) | omega | (simp_all; done))) <| .cons rfl (ob_guard (κ := .eq (.bool false)) (b := false) 49 rfl rfl (fun h => by first | (simp at h; omega) | omega | (simp_all; done))) <| .cons rfl (ob_guard (κ := .eq (.bool false)) (b := false) 49 rfl rfl (fun h => by first | (simp at h; omega) | omega | (simp_all; done))) <| .cons rfl (ob_guard (κ := .eq (.bool false)) (b := false) 49 rfl rfl (fun h => by first | (simp at h; omega) | omega | (simp_all; done))) <| .cons rfl (ob_guard (κ := .eq (.bool false)) (b := false) 49 rfl rfl (fun h => by first | (simp at h; omega) | omega | (simp_all; done))) <| .cons rfl (ob_guard (κ := .eq (.bool false)) (b := false) 49 rfl rfl (fun h => by first | (simp at h; omega) | omega | (simp_all; done))) <| .cons rfl (ob_or rfl rfl rfl) <| .nil) ?_
    intro a3 w3 m3 hst3 hle3 hk3
    have hfr3 := hk3.fr (T' := [(1, _), (2, _), (4, _), (60, _)]) (.old rfl rfl <| .old rfl rfl <| .old rfl rfl <| .new rfl <| .nil)
    clear hst2 hfr2 hk3
    refine hK7 _ _ ?_; clear hK7
    refine cond_any hfr3 rfl rfl (fun hb60 => ?_) (fun hb60 => ?_)
    · try simp only [nq1, nq2, nq3, nq4, nq5, nq6, nq7, nq8, nq9, u8_eq] at hb60
      refine seq_any fun _ hK8 => ?_
      refine ra0 (tch := [(1, 0, (fun _ => .blk _ _))]) hst3 hfr3 (.cons rfl (ob_buildS (.nil) Try.underlying33 Try.zeroValue33 (.cons Try.sizeOf3 <| .cons Try.sizeOf3 <| .cons Try.sizeOf9 <| .cons Try.sizeOf9 <| .cons Try.sizeOf3 <| .cons Try.sizeOf24 <| .cons Try.sizeOf25 <| .cons Try.sizeOf31 <| .cons Try.sizeOf29 <| .cons Try.sizeOf31 <| .nil) rfl) <| .consT rfl rfl (fun _ => rfl) rfl (ob_store' rfl rfl rfl Try.sizeOf33 rfl rfl rfl) <| .cons rfl (ob_assign rfl) <| .nil) ?_
      intro a4 w4 m4 hst4 hle4 hk4
      have hfr4 := hk4.fr (T' := [(2, _), (3, _)]) (.old rfl rfl <| .new rfl <| .nil)
      replace hst4 := hst4.fin (L' := [_, _]) (.cons rfl <| .nil)
      try simp only [List.take_succ_cons, List.take_zero, List.drop_succ_cons, List.drop_zero, List.cons_append, List.nil_append, List.append_nil, List.length_cons, List.length_nil, Nat.zero_add, Nat.reduceAdd] at hst4
      clear hst3 hfr3 hk4
      refine hK8 _ _ ?_; clear hK8
      refine wp_ret ?_
      repeat (with_reducible first | refine then_ret ?_ | refine block_ret ?_)
      exact fn_ret hst4 hfr4 rfl (.cell rfl (load_blk (blk_heap (hst4.loc.at_ (k := 0) rfl)) Try.isAgg33 Try.sizeOf33) <| .tmp rfl <| .nil) (⟨((zeroT, TmY.zero none 0 none 0), false), rfl, zeroT_R, (lastP_no (fun hh => by obtain ⟨h1, h2, h3, h4, h5, h6, h7, h8⟩ := hh; first | omega | (rcases hb60 with (((((h | h) | h) | h) | h) | h) | h <;> first | omega | exact h2 (hgA.trans (h.trans hgB.symm)) | exact h5 (hgB.trans h) | exact h h3 | exact h (by rw [← hgF]; exact h6) | exact h (by rw [← hgF, ← hgB]; exact h7)))).symm⟩)
    · exfalso
      first | omega | (simp at hb60; omega)
  · skip
    obtain ⟨p10, vs10, x10, ho10, hd10, hm_x10, ht10, hcv10, hl10, hv10⟩ := hva_a.nth (k := 0) (by omega)
    cases ho10
    subst hv10
    have hgA : a.vars.getD 0 [] = x10 := getD_drop hd10
    obtain ⟨p11, vs11, x11, ho11, hd11, hm_x11, ht11, hcv11, hl11, hv11⟩ := hva_a.nth (k := 1) (by omega)
    cases ho11
    subst hv11
    have hgB : a.vars.getD 1 [] = x11 := getD_drop hd11
    refine region_plain (fun _ => mixed) hst2 hfr2 (by kernel_rfl) (by kernel_rfl) (.cons rfl (ob_fieldAddrO (off := 1) rfl Try.underlying40 rfl rfl Try.sizeOf27 rfl) <| .cons rfl (ob_load1 rfl hc1 Try.isAgg27 rfl) <| .cons rfl (ob_len rfl Try.underlying27) <| .cons rfl (ob_neq rfl rfl) <| .cons rfl (ob_move rfl) <| .cons rfl (ob_fieldAddrO (off := 1) rfl Try.underlying40 rfl rfl Try.sizeOf27 rfl) <| .cons rfl (ob_load1 rfl hc1 Try.isAgg27 rfl) <| .cons rfl (ob_indexAddr (k := 0) rfl rfl Try.underlying27 Try.sizeOf9 rfl (by omega)) <| .cons rfl (ob_load1' rfl hcv10 Try.isAgg9 rfl) <| .cons rfl (ob_fieldAddrO (off := 1) rfl Try.underlying40 rfl rfl Try.sizeOf27 rfl) <| .cons rfl (ob_load1 rfl hc1 Try.isAgg27 rfl) <| .cons rfl (ob_indexAddr (k := 1) rfl rfl Try.underlying27 Try.sizeOf9 rfl (by omega)) <| .cons rfl (ob_load1' rfl hcv11 Try.isAgg9 rfl) <| .cons rfl (ob_seql rfl rfl) <| .cons rfl (ob_or rfl rfl rfl) <| .cons rfl (ob_move rfl) <| .cons rfl (ob_fieldAddrO (off := 1) rfl Try.underlying40 rfl rfl Try.sizeOf27 rfl) <| .cons rfl (ob_load1 rfl hc1 Try.isAgg27 rfl) <| .cons rfl (ob_indexAddr (k := 1) rfl rfl Try.underlying27 Try.sizeOf9 rfl (by omega)) <| .cons rfl (ob_load1' rfl hcv11 Try.isAgg9 rfl) <| .cons rfl (ob_seql rfl rfl) <| .cons rfl (ob_or rfl rfl rfl) <| .cons rfl (ob_move rfl) <| .cons rfl (ob_fieldAddrO (off := 0) rfl Try.underlying33 rfl rfl Try.sizeOf3 rfl) <| .cons rfl (ob_loadL (j := 1) rfl rfl Try.isAgg3 rfl) <| .cons rfl (ob_neq rfl rfl) <| .cons rfl (ob_or rfl rfl rfl) <| .cons rfl (ob_move rfl) <| .cons rfl (ob_fieldAddrO (off := 5) rfl Try.underlying33 rfl rfl Try.sizeOf24 rfl) <| .cons rfl (ob_loadL (j := 1) rfl rfl Try.isAgg24 rfl) <| .cons rfl (ob_len rfl Try.underlying24) <| .cons rfl (ob_neq rfl rfl) <| .cons rfl (ob_or rfl rfl rfl) <| .cons rfl (ob_move rfl) <| .cons rfl (ob_guard (κ := .eq (.bool false)) (b := false) 41 rfl rfl (fun h => by first | (simp at h; omega) | omega | (simp_all; done))) <| .cons rfl (ob_guard (κ := .eq (.bool false)) (b := false) 41 rfl rfl (fun h => by first | (simp at h; omega) | omega | (simp_all; done))) <| .cons rfl (ob_guard (κ := .eq (.bool false)) (b := false) 41 rfl rfl (fun h => by first | (simp at h; omega) | omega | (simp_all; done))) <| .cons rfl (ob_guard (κ := .eq (.bool false)) (b := false) 41 rfl rfl (fun h => by first | (simp at h; omega) | omega | (simp_all; done))) <| .cons rfl (ob_guard (κ := .eq (.bool false)) (b := false) 41 rfl rfl (fun h => by first | (simp at h; omega) | omega | (simp_all; done))) <| .cons rfl (ob_guard (κ := .eq (.bool false)) (b := false) 41 rfl rfl (fun h => by first | (simp at h; omega) | omega | (simp_all; done))) <| .cons rfl (ob_or rfl rfl rfl) <| .cons rfl (ob_move rfl) <| .cons rfl (ob_guard (κ := .eq (.bool false)) (b := false) 49 rfl rfl (fun h => by first | (simp at h; omega) | omega | (simp_all; done))) <| .cons rfl (ob_guard (κ := .eq (.bool false)) (b := false) 49 rfl rfl (fun h => by first | (simp at h; omega) | omega | (simp_all; done))) <| .cons rfl (ob_guard (κ := .eq (.bool false)) (b := false) 49 rfl rfl (fun h => by first | (simp at h; omega) | omega | (simp_all; done))) <| .cons rfl (ob_guard (κ := .eq (.bool false)) (b := false) 49 rfl rfl (fun h => by first | (simp at h; omega) | omega | (simp_all; done))) <| .cons rfl (ob_guard (κ := .eq (.bool false)) (b := false) 49 rfl rfl (fun h => by first | (simp at h; omega) | omega | (simp_all; done))) <| .cons rfl (ob_guard (κ := .eq (.bool false)) (b := false) 49 rfl rfl (fun h => by first | (simp at h; omega) | omega | (simp_all; done))) <| .cons rfl (ob_guard (κ := .eq (.bool false)) (b := false) 49 rfl rfl (fun h => by first | (simp at h; omega) | omega | (simp_all; done))) <| .cons rfl (ob_guard (κ := .eq (.bool false)) (b := false) 49 rfl rfl (fun h => by first | (simp at h; omega) | omega | (simp_all; done))) <| .cons rfl (ob_guard (κ := .eq (.bool false)) (b := false) 49 rfl rfl (fun h => by first | (simp at h; omega) | omega | (simp_all; done))) <| .cons rfl (ob_guard (κ := .eq (.bool false)) (b := false) 49 rfl rfl (fun h => by first | (simp at h; omega) | omega | (simp_all; done))) <| .cons rfl (ob_or rfl rfl rfl) <| .nil) ?_
    intro a3 w3 m3 hst3 hle3 hk3
    have hfr3 := hk3.fr (T' := [(1, _), (2, _), (4, _), (60, _)]) (.old rfl rfl <| .old rfl rfl <| .old rfl rfl <| .new rfl <| .nil)
    clear hst2 hfr2 hk3
    refine hK7 _ _ ?_; clear hK7
    refine cond_any hfr3 rfl rfl (fun hb60 => ?_) (fun hb60 => ?_)
    · try simp only [nq1, nq2, nq3, nq4, nq5, nq6, nq7, nq8, nq9, u8_eq] at hb60
      refine seq_any fun _ hK12 => ?_
      refine ra0 (tch := [(1, 0, (fun _ => .blk _ _))]) hst3 hfr3 (.cons rfl (ob_buildS (.nil) Try.underlying33 Try.zeroValue33 (.cons Try.sizeOf3 <| .cons Try.sizeOf3 <| .cons Try.sizeOf9 <| .cons Try.sizeOf9 <| .cons Try.sizeOf3 <| .cons Try.sizeOf24 <| .cons Try.sizeOf25 <| .cons Try.sizeOf31 <| .cons Try.sizeOf29 <| .cons Try.sizeOf31 <| .nil) rfl) <| .consT rfl rfl (fun _ => rfl) rfl (ob_store' rfl rfl rfl Try.sizeOf33 rfl rfl rfl) <| .cons rfl (ob_assign rfl) <| .nil) ?_
      intro a4 w4 m4 hst4 hle4 hk4
      have hfr4 := hk4.fr (T' := [(2, _), (3, _)]) (.old rfl rfl <| .new rfl <| .nil)
      replace hst4 := hst4.fin (L' := [_, _]) (.cons rfl <| .nil)
      try simp only [List.take_succ_cons, List.take_zero, List.drop_succ_cons, List.drop_zero, List.cons_append, List.nil_append, List.append_nil, List.length_cons, List.length_nil, Nat.zero_add, Nat.reduceAdd] at hst4
      clear hst3 hfr3 hk4
      refine hK12 _ _ ?_; clear hK12
      refine wp_ret ?_
      repeat (with_reducible first | refine then_ret ?_ | refine block_ret ?_)
      exact fn_ret hst4 hfr4 rfl (.cell rfl (load_blk (blk_heap (hst4.loc.at_ (k := 0) rfl)) Try.isAgg33 Try.sizeOf33) <| .tmp rfl <| .nil) (⟨((zeroT, TmY.zero none 0 none 0), false), rfl, zeroT_R, (lastP_no (fun hh => by obtain ⟨h1, h2, h3, h4, h5, h6, h7, h8⟩ := hh; first | omega | (rcases hb60 with (((((h | h) | h) | h) | h) | h) | h <;> first | omega | exact h2 (hgA.trans (h.trans hgB.symm)) | exact h5 (hgB.trans h) | exact h h3 | exact h (by rw [← hgF]; exact h6) | exact h (by rw [← hgF, ← hgB]; exact h7)))).symm⟩)
    · exfalso
      first | omega | (simp at hb60; omega)
  · skip
    obtain ⟨p14, vs14, x14, ho14, hd14, hm_x14, ht14, hcv14, hl14, hv14⟩ := hva_a.nth (k := 0) (by omega)
    cases ho14
    subst hv14
    have hgA : a.vars.getD 0 [] = x14 := getD_drop hd14
    obtain ⟨p15, vs15, x15, ho15, hd15, hm_x15, ht15, hcv15, hl15, hv15⟩ := hva_a.nth (k := 1) (by omega)
    cases ho15
    subst hv15
    have hgB : a.vars.getD 1 [] = x15 := getD_drop hd15
    obtain ⟨p16, vs16, x16, ho16, hd16, hm_x16, ht16, hcv16, hl16, hv16⟩ := hkk_ab.nth (k := 0) (by omega)
    cases ho16
    obtain ⟨⟨oK16, cK16, oA16, cA16, oR16, cR16, t016, t116, t216, t316, t416, t516, u016, u116, u216, u316, u416, u516⟩, rfl, hon16, hkk16, haa16, hrr16⟩ := hv16.open_
    dsimp only at hkk16 haa16 hrr16
    have hbg16 := hkk16.big; have hcp16 := hkk16.cap; have hbh16 := haa16.big; have hcq16 := haa16.cap
    have hgF : a.body.kids.getD 0 zeroT = x16 := getD_drop hd16
    refine region_plain (fun _ => mixed) hst2 hfr2 (by kernel_rfl) (by kernel_rfl) (.cons rfl (ob_fieldAddrO (off := 1) rfl Try.underlying40 rfl rfl Try.sizeOf27 rfl) <| .cons rfl (ob_load1 rfl hc1 Try.isAgg27 rfl) <| .cons rfl (ob_len rfl Try.underlying27) <| .cons rfl (ob_neq rfl rfl) <| .cons rfl (ob_move rfl) <| .cons rfl (ob_fieldAddrO (off := 1) rfl Try.underlying40 rfl rfl Try.sizeOf27 rfl) <| .cons rfl (ob_load1 rfl hc1 Try.isAgg27 rfl) <| .cons rfl (ob_indexAddr (k := 0) rfl rfl Try.underlying27 Try.sizeOf9 rfl (by omega)) <| .cons rfl (ob_load1' rfl hcv14 Try.isAgg9 rfl) <| .cons rfl (ob_fieldAddrO (off := 1) rfl Try.underlying40 rfl rfl Try.sizeOf27 rfl) <| .cons rfl (ob_load1 rfl hc1 Try.isAgg27 rfl) <| .cons rfl (ob_indexAddr (k := 1) rfl rfl Try.underlying27 Try.sizeOf9 rfl (by omega)) <| .cons rfl (ob_load1' rfl hcv15 Try.isAgg9 rfl) <| .cons rfl (ob_seql rfl rfl) <| .cons rfl (ob_or rfl rfl rfl) <| .cons rfl (ob_move rfl) <| .cons rfl (ob_fieldAddrO (off := 1) rfl Try.underlying40 rfl rfl Try.sizeOf27 rfl) <| .cons rfl (ob_load1 rfl hc1 Try.isAgg27 rfl) <| .cons rfl (ob_indexAddr (k := 1) rfl rfl Try.underlying27 Try.sizeOf9 rfl (by omega)) <| .cons rfl (ob_load1' rfl hcv15 Try.isAgg9 rfl) <| .cons rfl (ob_seql rfl rfl) <| .cons rfl (ob_or rfl rfl rfl) <| .cons rfl (ob_move rfl) <| .cons rfl (ob_fieldAddrO (off := 0) rfl Try.underlying33 rfl rfl Try.sizeOf3 rfl) <| .cons rfl (ob_loadL (j := 1) rfl rfl Try.isAgg3 rfl) <| .cons rfl (ob_neq rfl rfl) <| .cons rfl (ob_or rfl rfl rfl) <| .cons rfl (ob_move rfl) <| .cons rfl (ob_fieldAddrO (off := 5) rfl Try.underlying33 rfl rfl Try.sizeOf24 rfl) <| .cons rfl (ob_loadL (j := 1) rfl rfl Try.isAgg24 rfl) <| .cons rfl (ob_len rfl Try.underlying24) <| .cons rfl (ob_neq rfl rfl) <| .cons rfl (ob_or rfl rfl rfl) <| .cons rfl (ob_move rfl) <| .cons rfl (ob_fieldAddrO (off := 5) rfl Try.underlying33 rfl rfl Try.sizeOf24 rfl) <| .cons rfl (ob_loadL (j := 1) rfl rfl Try.isAgg24 rfl) <| .cons rfl (ob_indexAddr (k := 0) rfl rfl Try.underlying24 Try.sizeOf33 rfl (by omega)) <| .cons rfl (ob_fieldAddrO (off := 0) rfl Try.underlying33 rfl rfl Try.sizeOf3 rfl) <| .cons rfl (ob_load1 rfl hcv16 Try.isAgg3 rfl) <| .cons rfl (ob_neq rfl rfl) <| .cons rfl (ob_or rfl rfl rfl) <| .cons rfl (ob_move rfl) <| .cons rfl (ob_fieldAddrO (off := 5) rfl Try.underlying33 rfl rfl Try.sizeOf24 rfl) <| .cons rfl (ob_loadL (j := 1) rfl rfl Try.isAgg24 rfl) <| .cons rfl (ob_indexAddr (k := 0) rfl rfl Try.underlying24 Try.sizeOf33 rfl (by omega)) <| .cons rfl (ob_fieldAddrO (off := 2) rfl Try.underlying33 rfl rfl Try.sizeOf9 rfl) <| .cons rfl (ob_load1 rfl hcv16 Try.isAgg9 rfl) <| .cons rfl (ob_fieldAddrO (off := 1) rfl Try.underlying40 rfl rfl Try.sizeOf27 rfl) <| .cons rfl (ob_load1 rfl hc1 Try.isAgg27 rfl) <| .cons rfl (ob_indexAddr (k := 1) rfl rfl Try.underlying27 Try.sizeOf9 rfl (by omega)) <| .cons rfl (ob_load1' rfl hcv15 Try.isAgg9 rfl) <| .cons rfl (ob_sneq rfl rfl) <| .cons rfl (ob_or rfl rfl rfl) <| .nil) ?_
    intro a3 w3 m3 hst3 hle3 hk3
    have hfr3 := hk3.fr (T' := [(1, _), (2, _), (4, _), (60, _)]) (.old rfl rfl <| .old rfl rfl <| .old rfl rfl <| .new rfl <| .nil)
    replace hkk_ab := hkk_ab.mono hle3
    replace hc1 := hc1.mono hle3
    replace hcv15 := hcv15.mono hle3
    clear hst2 hfr2 hk3
    refine hK7 _ _ ?_; clear hK7
    refine cond_any hfr3 rfl rfl (fun hb60 => ?_) (fun hb60 => ?_)
    · try simp only [nq1, nq2, nq3, nq4, nq5, nq6, nq7, nq8, nq9, u8_eq] at hb60
      refine seq_any fun _ hK17 => ?_
      refine ra0 (tch := [(1, 0, (fun _ => .blk _ _))]) hst3 hfr3 (.cons rfl (ob_buildS (.nil) Try.underlying33 Try.zeroValue33 (.cons Try.sizeOf3 <| .cons Try.sizeOf3 <| .cons Try.sizeOf9 <| .cons Try.sizeOf9 <| .cons Try.sizeOf3 <| .cons Try.sizeOf24 <| .cons Try.sizeOf25 <| .cons Try.sizeOf31 <| .cons Try.sizeOf29 <| .cons Try.sizeOf31 <| .nil) rfl) <| .consT rfl rfl (fun _ => rfl) rfl (ob_store' rfl rfl rfl Try.sizeOf33 rfl rfl rfl) <| .cons rfl (ob_assign rfl) <| .nil) ?_
      intro a4 w4 m4 hst4 hle4 hk4
      have hfr4 := hk4.fr (T' := [(2, _), (3, _)]) (.old rfl rfl <| .new rfl <| .nil)
      replace hst4 := hst4.fin (L' := [_, _]) (.cons rfl <| .nil)
      try simp only [List.take_succ_cons, List.take_zero, List.drop_succ_cons, List.drop_zero, List.cons_append, List.nil_append, List.append_nil, List.length_cons, List.length_nil, Nat.zero_add, Nat.reduceAdd] at hst4
      clear hst3 hfr3 hk4
      refine hK17 _ _ ?_; clear hK17
      refine wp_ret ?_
      repeat (with_reducible first | refine then_ret ?_ | refine block_ret ?_)
      exact fn_ret hst4 hfr4 rfl (.cell rfl (load_blk (blk_heap (hst4.loc.at_ (k := 0) rfl)) Try.isAgg33 Try.sizeOf33) <| .tmp rfl <| .nil) (⟨((zeroT, TmY.zero none 0 none 0), false), rfl, zeroT_R, (lastP_no (fun hh => by obtain ⟨h1, h2, h3, h4, h5, h6, h7, h8⟩ := hh; first | omega | (rcases hb60 with (((((h | h) | h) | h) | h) | h) | h <;> first | omega | exact h2 (hgA.trans (h.trans hgB.symm)) | exact h5 (hgB.trans h) | exact h h3 | exact h (by rw [← hgF]; exact h6) | exact h (by rw [← hgF, ← hgB]; exact h7)))).symm⟩)
    · try simp only [nq1, nq2, nq3, nq4, nq5, nq6, nq7, nq8, nq9, u8_eq] at hb60
      refine wp_skip ?_
      refine hK6 _ _ ?_; clear hK6
      refine seq_any fun _ hK19 => ?_
      obtain ⟨p20, vs20, x20, ho20, hd20, hm_x20, ht20, hcv20, hl20, hv20⟩ := hkk_ab.nth (k := 1) (by omega)
      cases ho20
      obtain ⟨⟨oK20, cK20, oA20, cA20, oR20, cR20, t020, t120, t220, t320, t420, t520, u020, u120, u220, u320, u420, u520⟩, rfl, hon20, hkk20, haa20, hrr20⟩ := hv20.open_
      dsimp only at hkk20 haa20 hrr20
      have hbg20 := hkk20.big; have hcp20 := hkk20.cap; have hbh20 := haa20.big; have hcq20 := haa20.cap
      refine region_plain (fun _ => mixed) hst3 hfr3 (by kernel_rfl) (by kernel_rfl) (.cons rfl (ob_fieldAddrO (off := 5) rfl Try.underlying33 rfl rfl Try.sizeOf24 rfl) <| .cons rfl (ob_loadL (j := 1) rfl rfl Try.isAgg24 rfl) <| .cons rfl (ob_indexAddr (k := 1) rfl rfl Try.underlying24 Try.sizeOf33 rfl (by omega)) <| .cons rfl (ob_loadS' rfl hcv20 Try.isAgg33 Try.sizeOf33 rfl rfl) <| .cons rfl (ob_fieldAddrO (off := 1) rfl Try.underlying40 rfl rfl Try.sizeOf27 rfl) <| .cons rfl (ob_load1 rfl hc1 Try.isAgg27 rfl) <| .cons rfl (ob_indexAddr (k := 1) rfl rfl Try.underlying27 Try.sizeOf9 rfl (by omega)) <| .cons rfl (ob_load1' rfl hcv15 Try.isAgg9 rfl) <| .cons rfl (ob_callE rfl (.cons rfl <| .cons rfl <| .nil) Try.call20 (fun w m hK => by have hle_ := KC.le hK; have hA := KC.agree hK; have hv20 := hv20.mono hle_; exact uses_c x20 hA hv20 (by have := countKs_in hm_x20; omega))) <| .cons rfl (ob_assign rfl) <| .nil) ?_
      intro a4 w4 m4 hst4 hle4 hk4
      have hfr4 := hk4.fr (T' := [(2, _), (4, _), (5, _)]) (.old rfl rfl <| .old rfl rfl <| .new rfl <| .nil)
      replace hcv20 := hcv20.mono hle4
      replace hv20 := hv20.mono hle4
      clear hst3 hfr3 hk4
      have hgK : a.body.kids.getD 1 zeroT = x20 := getD_drop hd20
      refine hK19 _ _ ?_; clear hK19
      refine seq_any fun _ hK21 => ?_
      refine seq_any fun _ hK22 => ?_
      refine rp0 hst4 hfr4 (.cons rfl (ob_move rfl) <| .cons rfl (ob_gtr rfl rfl) <| .nil) ?_
      intro a5 w5 m5 hst5 hle5 hk5
      have hfr5 := hk5.fr (T' := [(2, _), (4, _), (72, _)]) (.old rfl rfl <| .old rfl rfl <| .new rfl <| .nil)
      replace hcv20 := hcv20.mono hle5
      replace hv20 := hv20.mono hle5
      clear hst4 hfr4 hk5
      refine hK22 _ _ ?_; clear hK22
      refine cond_any hfr5 rfl rfl (fun hb72 => ?_) (fun hb72 => ?_)
      · try simp only [nq1, nq2, nq3, nq4, nq5, nq6, nq7, nq8, nq9, u8_eq] at hb72
        refine seq_any fun _ hK23 => ?_
        refine ra0 (tch := [(1, 0, (fun _ => .blk _ _))]) hst5 hfr5 (.cons rfl (ob_buildS (.nil) Try.underlying33 Try.zeroValue33 (.cons Try.sizeOf3 <| .cons Try.sizeOf3 <| .cons Try.sizeOf9 <| .cons Try.sizeOf9 <| .cons Try.sizeOf3 <| .cons Try.sizeOf24 <| .cons Try.sizeOf25 <| .cons Try.sizeOf31 <| .cons Try.sizeOf29 <| .cons Try.sizeOf31 <| .nil) rfl) <| .consT rfl rfl (fun _ => rfl) rfl (ob_store' rfl rfl rfl Try.sizeOf33 rfl rfl rfl) <| .cons rfl (ob_assign rfl) <| .nil) ?_
        intro a6 w6 m6 hst6 hle6 hk6
        have hfr6 := hk6.fr (T' := [(2, _), (3, _)]) (.old rfl rfl <| .new rfl <| .nil)
        replace hst6 := hst6.fin (L' := [_, _]) (.cons rfl <| .nil)
        try simp only [List.take_succ_cons, List.take_zero, List.drop_succ_cons, List.drop_zero, List.cons_append, List.nil_append, List.append_nil, List.length_cons, List.length_nil, Nat.zero_add, Nat.reduceAdd] at hst6
        clear hst5 hfr5 hk6
        refine hK23 _ _ ?_; clear hK23
        refine wp_ret ?_
        repeat (with_reducible first | refine then_ret ?_ | refine block_ret ?_)
        exact fn_ret hst6 hfr6 rfl (.cell rfl (load_blk (blk_heap (hst6.loc.at_ (k := 0) rfl)) Try.isAgg33 Try.sizeOf33) <| .tmp rfl <| .nil) (⟨((zeroT, TmY.zero none 0 none 0), false), rfl, zeroT_R, (lastP_no (fun hh => by obtain ⟨h1, h2, h3, h4, h5, h6, h7, h8⟩ := hh; first | omega | (rw [hgB, hgK] at h8; omega))).symm⟩)
      · try simp only [nq1, nq2, nq3, nq4, nq5, nq6, nq7, nq8, nq9, u8_eq] at hb72
        refine wp_skip ?_
        refine hK21 _ _ ?_; clear hK21
        refine seq_any fun _ hK25 => ?_
        refine ra0 (tch := [(4, 0, (fun _ => .blk _ _))]) hst5 hfr5 (.cons rfl (ob_fieldAddrO (off := 5) rfl Try.underlying33 rfl rfl Try.sizeOf24 rfl) <| .cons rfl (ob_loadL (j := 1) rfl rfl Try.isAgg24 rfl) <| .cons rfl (ob_indexAddr (k := 1) rfl rfl Try.underlying24 Try.sizeOf33 rfl (by omega)) <| .cons rfl (ob_loadS' rfl hcv20 Try.isAgg33 Try.sizeOf33 rfl rfl) <| .consT rfl rfl (fun _ => rfl) rfl (ob_store' rfl rfl rfl Try.sizeOf33 rfl rfl hv20.one) <| .cons rfl (ob_assign rfl) <| .nil) ?_
        intro a6 w6 m6 hst6 hle6 hk6
        have hfr6 := hk6.fr (T' := [(2, _), (3, _)]) (.old rfl rfl <| .new rfl <| .nil)
        replace hst6 := hst6.fin (L' := [_, _]) (.cons rfl <| .nil)
        try simp only [List.take_succ_cons, List.take_zero, List.drop_succ_cons, List.drop_zero, List.cons_append, List.nil_append, List.append_nil, List.length_cons, List.length_nil, Nat.zero_add, Nat.reduceAdd] at hst6
        replace hv20 := hv20.mono hle6
        clear hst5 hfr5 hk6
        refine hK25 _ _ ?_; clear hK25
        refine wp_ret ?_
        repeat (with_reducible first | refine then_ret ?_ | refine block_ret ?_)
        exact fn_ret hst6 hfr6 rfl (.cell rfl (load_blk (blk_heap (hst6.loc.at_ (k := 0) rfl)) Try.isAgg33 Try.sizeOf33) <| .tmp rfl <| .nil) (⟨((x20, _), true), rfl, hv20, (lastP_yes ⟨by omega, by rw [hgA, hgB]; exact hb60.1.1.1.1.1.2, by omega, by omega, by rw [hgB]; exact hb60.1.1.1.1.2, by rw [hgF]; omega, by rw [hgF, hgB]; exact hb60.2, by rw [hgB, hgK]; omega⟩ hgK).symm⟩)

end Go.Proofs.Ytppmbhjacjmfkaa
