/-
  Package subst: what is said is put in the stead of variables. Conditions: those of each theorem.
-/
import Derived.Test.YtfphefkfbhjfdaaSubst1
namespace Go.Proofs.Ytfphefkfbhjfdaa
set_option linter.all false
set_option maxRecDepth 4000
open Go.RowKit
theorem SubW.look {B R : Nat} {s : Sub} (h : SubW B R s) (n : Int) : wdT ((alook n s.ts).getD zeroTy) ≤ B := by
  cases hq : alook n s.ts with
  | none => exact Nat.zero_le _
  | some t => exact h.1 n t hq
theorem SubW.lookR {B R : Nat} {s : Sub} (h : SubW B R s) (n : Int) : ((alook n s.rs).getD zeroRw).labels.length ≤ R := by
  cases hq : alook n s.rs with
  | none => exact Nat.zero_le _
  | some t => exact h.2 n t hq
theorem applyR_in {s : Sub} {r : Rw} (h : (alook r.var s.rs).isSome = true) (h0 : ¬ r.var = 0) : applyR s r = ⟨sortS (r.labels ++ ((alook r.var s.rs).getD zeroRw).labels), ((alook r.var s.rs).getD zeroRw).var⟩ := by
  unfold applyR
  cases hq : alook r.var s.rs with
  | none => rw [hq] at h; cases h
  | some x => dsimp only [Option.getD_some]; rw [if_neg h0]
theorem applyR_out {s : Sub} {r : Rw} (h : (alook r.var s.rs).isSome = false ∨ r.var = 0) : applyR s r = ⟨sortS r.labels, r.var⟩ := by
  unfold applyR
  cases hq : alook r.var s.rs with
  | none => rfl
  | some x => rw [hq] at h; dsimp only; rw [if_pos (by rcases h with h | h; (cases h); exact h)]
theorem applyR_len {s : Sub} {B R : Nat} (h : SubW B R s) (r : Rw) : (applyR s r).labels.length ≤ r.labels.length + R := by
  unfold applyR
  cases hq : alook r.var s.rs with
  | none => dsimp only; rw [sortS_len]; omega
  | some x =>
    have := h.2 _ _ hq
    dsimp only; split
    · dsimp only; rw [sortS_len]; omega
    · dsimp only; rw [sortS_len, List.length_append]; omega
theorem getD_isSome {α : Type} {x : Option α} {d e : α} (h : x.isSome = true) : x.getD d = x.getD e := by cases x with | none => cases h | some y => rfl
set_option maxHeartbeats 1600000 in
theorem applyR_c {w : World} {m : Mem} {s : Sub} {vs_s : List Value} {r : Rw} {vs_r : List Value} (hA : Agree w m) (h_s : SubR m s vs_s) (h_r : RwR m r vs_r) (hw : SubW 17592186044416 40 s) (hb : r.labels.length ≤ 8796093022000) : FnV Try.prog 34 #[.agg vs_s.toArray, .agg vs_r.toArray] w m (fun _ m v => (MP.rw (applyR s r)).p m v) := by
  obtain ⟨oT_s, oR_s, rfl, hst_s, hsr_s⟩ := id h_s
  obtain ⟨o_r, c_r, rfl, hs_r, hr_r⟩ := h_r.open_
  have hbs_r := hs_r.big; have hcs_r := hs_r.cap
  refine fn_enter (vs := [_, _]) Try.func34 rfl rfl rfl fun a0 hfr0 => ?_
  have hst0 := st_enter hA (loc_nil [] _ w m)
  have hM : MLe m m := MLe.refl m
  have hxw := hw.lookR r.var
  refine seq_any fun _ hK1 => ?_
  replace hst0 := hst0.more (r := .free) trivial List.nodup_nil (by simp [Res.blocks])
  replace hst0 := hst0.more (r := .free) trivial List.nodup_nil (by simp [Res.blocks])
  refine ra0 (tch := [(1, 0, (fun v => .blk v _)), (2, 1, (fun v => .blk v _))]) hst0 hfr0 (.cons rfl (ob_box rfl rfl) <| .consT rfl rfl (fun _ => rfl) rfl (ob_boxL rfl rfl) <| .consT rfl rfl (fun _ => rfl) rfl (ob_allocL Try.zeroValue26 rfl) <| .nil) ?_
  intro a1 w1 m1 hst1 hle1 hk1
  have hfr1 := hk1.fr (T' := []) (.nil)
  obtain ⟨g2, e2, hc2⟩ := hk1.ex 2 rfl
  replace hfr1 := hfr1.cons e2
  obtain ⟨g3, e3, _⟩ := hk1.ex 3 rfl
  replace hfr1 := hfr1.cons e3
  obtain ⟨g4, e4, _⟩ := hk1.ex 4 rfl
  replace hfr1 := hfr1.cons e4
  replace hst1 := hst1.fin (L' := [_, _]) (.cons e3 <| .cons e4 <| .nil)
  replace hsr_s := hsr_s.mono hle1
  replace hs_r := hs_r.mono hle1
  clear hst0 hfr0 hk1
  refine hK1 _ _ ?_; clear hK1
  refine seq_any fun _ hK5 => ?_
  refine seq_any fun _ hK6 => ?_
  obtain ⟨vs7, x7, b7, hlk7, hb7_, hx7_, hv7⟩ := hsr_s.look (r.var) zeroRw_R
  obtain ⟨o7, c7, rfl, hs7, hr7⟩ := hv7.open_
  have hbs7 := hs7.big; have hcs7 := hs7.cap
  replace hst1 := hst1.more (r := .free) trivial List.nodup_nil (by simp [Res.blocks])
  refine ra0 (tch := [(8, 2, (fun v => .blk v _)), (9, 2, (fun v => .blk v _))]) hst1 hfr1 (.cons rfl (ob_fieldAddrO (off := 1) rfl Try.underlying36 rfl rfl Try.sizeOf34 rfl) <| .cons rfl (ob_load1 rfl hc2 Try.isAgg34 rfl) <| .cons rfl (ob_fieldAddrO (off := 1) rfl Try.underlying26 rfl rfl Try.sizeOf3 rfl) <| .cons rfl (ob_loadL (j := 0) rfl rfl Try.isAgg3 rfl) <| .cons rfl (ob_lookupO keys_I rfl rfl (fun w m hK => hlk7.mono (KC.le hK)) Try.underlying34 Try.underlying3 Try.zeroValue26) <| .cons rfl (ob_move rfl) <| .cons rfl (ob_extract rfl rfl) <| .cons rfl (ob_extract rfl rfl) <| .consT rfl rfl (fun _ => rfl) rfl (ob_allocL Try.zeroValue26 rfl) <| .consT rfl rfl (fun _ => rfl) rfl (ob_imgT 5 rfl rfl rfl fun y5 => ob_storeF rfl rfl rfl rfl rfl Try.sizeOf26 rfl rfl rfl) <| .cons rfl (ob_assign rfl) <| .nil) ?_
  intro a2 w2 m2 hst2 hle2 hk2
  have hfr2 := hk2.fr (T' := [(3, _), (4, _), (6, _)]) (.old rfl rfl <| .old rfl rfl <| .new rfl <| .nil)
  obtain ⟨g8, e8, _⟩ := hk2.ex 5 rfl
  replace hfr2 := hfr2.cons e8
  replace hst2 := hst2.fin (L' := [_, _, _]) (.cons e8 <| .cons e8 <| .nil)
  try simp only [List.take_succ_cons, List.take_zero, List.drop_succ_cons, List.drop_zero, List.cons_append, List.nil_append, List.append_nil, List.length_cons, List.length_nil, Nat.zero_add, Nat.reduceAdd] at hst2
  replace hs_r := hs_r.mono hle2
  replace hs7 := hs7.mono hle2
  clear hst1 hfr1 hk2
  rw [← hx7_] at hxw
  refine hK6 _ _ ?_; clear hK6
  refine seq_any fun _ hK9 => ?_
  refine rp0 hst2 hfr2 (.cons rfl (ob_move rfl) <| .cons rfl (ob_move rfl) <| .cons rfl (ob_fieldAddrO (off := 1) rfl Try.underlying26 rfl rfl Try.sizeOf3 rfl) <| .cons rfl (ob_loadL (j := 0) rfl rfl Try.isAgg3 rfl) <| .cons rfl (ob_neq rfl rfl) <| .cons rfl (ob_and rfl rfl rfl) <| .nil) ?_
  intro a3 w3 m3 hst3 hle3 hk3
  have hfr3 := hk3.fr (T' := [(3, _), (4, _), (5, _), (20, _)]) (.old rfl rfl <| .old rfl rfl <| .old rfl rfl <| .new rfl <| .nil)
  replace hs_r := hs_r.mono hle3
  replace hs7 := hs7.mono hle3
  clear hst2 hfr2 hk3
  refine hK9 _ _ ?_; clear hK9
  refine cond_any hfr3 rfl rfl (fun hb20 => ?_) (fun hb20 => ?_)
  · try simp only [nq1, nq2, nq3, nq4, nq5, nq6, nq7, nq8, nq9, u8_eq] at hb20
    refine region_any (tch := [(9, 0, (fun _ => .blkx _ _ _))]) (fun _ => mixed) hst3 hfr3 (by kernel_rfl) (by kernel_rfl) (by kernel_rfl) (.cons rfl (ob_fieldAddrO (off := 0) rfl Try.underlying26 rfl rfl Try.sizeOf24 rfl) <| .cons rfl (ob_loadL (j := 0) rfl rfl Try.isAgg24 rfl) <| .cons rfl (ob_fieldAddrO (off := 0) rfl Try.underlying26 rfl rfl Try.sizeOf24 rfl) <| .cons rfl (ob_loadL (j := 2) rfl rfl Try.isAgg24 rfl) <| .cons rfl (ob_buildSlice (.cons rfl <| .cons rfl <| .nil) Try.underlying81 Try.sizeOf24 Try.zeroValue24 rfl rfl rfl rfl) <| .cons rfl (ob_imgE 25 rfl rfl rfl fun y25 => ob_call (φ := MP.strs (r.labels ++ x7.labels)) rfl (.cons rfl <| .nil) Try.call43 (fun w m hK => by have hle_ := KC.le hK; have hA := KC.agree hK; have hr0_ := hK.2; have hs_r := hs_r.mono hle_; have hs7 := hs7.mono hle_; exact FnG.mono (cat2_c hA hr0_ hs_r hs7 (by omega)) fun _ _ _ _ h => h)) <| .cons rfl (ob_fieldAddrO (off := 1) rfl Try.underlying26 rfl rfl Try.sizeOf3 rfl) <| .cons rfl (ob_loadL (j := 2) rfl rfl Try.isAgg3 rfl) <| .cons rfl (ob_imgV 26 rfl rfl rfl fun y26 => ob_buildS (.cons rfl <| .cons rfl <| .nil) Try.underlying26 Try.zeroValue26 (.cons Try.sizeOf24 <| .cons Try.sizeOf3 <| .nil) rfl) <| .consT rfl rfl (fun _ => rfl) rfl (ob_imgTX 29 rfl rfl rfl fun y29 => ob_store' rfl rfl rfl Try.sizeOf26 rfl rfl rfl) <| .nil) ?_
    intro a4 w4 m4 hst4 hle4 hk4
    have hfr4 := hk4.fr (T' := [(3, _), (4, _)]) (.old rfl rfl <| .old rfl rfl <| .nil)
    replace hst4 := hst4.fin (L' := [_, _, _]) (.cons rfl <| .nil)
    try simp only [List.take_succ_cons, List.take_zero, List.drop_succ_cons, List.drop_zero, List.cons_append, List.nil_append, List.append_nil, List.length_cons, List.length_nil, Nat.zero_add, Nat.reduceAdd] at hst4
    obtain ⟨⟨oc, cc⟩, hcat, hst4⟩ := hst4.unx (k := 0) rfl (fun _ => rfl)
    clear hst3 hfr3 hk4
    refine hK5 _ _ ?_; clear hK5
    refine seq_any fun _ hK11 => ?_
    have heq : applyR s r = ⟨sortS (⟨r.labels ++ x7.labels, x7.var⟩ : Rw).labels, (⟨r.labels ++ x7.labels, x7.var⟩ : Rw).var⟩ := by rw [applyR_in (by rw [← hb7_]; exact hb20.1) hb20.2, ← hx7_]
    refine ra0 (tch := [(2, 1, (fun _ => .blkx _ _ _))]) hst4 hfr4 (.cons rfl (ob_loadLA (j := 0) rfl rfl Try.isAgg26 Try.sizeOf26 rfl) <| .cons rfl (ob_call (φ := MP.rw ⟨sortS (⟨r.labels ++ x7.labels, x7.var⟩ : Rw).labels, (⟨r.labels ++ x7.labels, x7.var⟩ : Rw).var⟩) rfl (.cons rfl <| .nil) Try.call44 (fun w m hK => by have hle_ := KC.le hK; have hA := KC.agree hK; have hcat := hcat.mono hle_; exact FnG.mono (sorted_c (r := ⟨r.labels ++ x7.labels, x7.var⟩) hA ⟨_, _, rfl, hcat, hr7⟩ (by show (r.labels ++ x7.labels).length ≤ _; rw [List.length_append]; omega)) fun _ _ _ _ h => h)) <| .consT rfl rfl (fun _ => rfl) rfl (ob_imgTX 31 rfl rfl rfl fun y31 => ob_store' rfl rfl rfl Try.sizeOf26 rfl rfl rfl) <| .nil) ?_
    intro a5 w5 m5 hst5 hle5 hk5
    have hfr5 := hk5.fr (T' := [(4, _)]) (.old rfl rfl <| .nil)
    replace hst5 := hst5.fin (L' := [_, _, _]) (.cons rfl <| .nil)
    try simp only [List.take_succ_cons, List.take_zero, List.drop_succ_cons, List.drop_zero, List.cons_append, List.nil_append, List.append_nil, List.length_cons, List.length_nil, Nat.zero_add, Nat.reduceAdd] at hst5
    obtain ⟨⟨oq, cq⟩, hout, hst5⟩ := hst5.unx (k := 1) rfl (fun _ => rfl)
    clear hst4 hfr4 hk5
    refine hK11 _ _ ?_; clear hK11
    refine wp_ret ?_
    repeat (with_reducible first | refine then_ret ?_ | refine block_ret ?_)
    exact fn_ret hst5 hfr5 rfl (.cell rfl (load_blk (blk_heap (hst5.loc.at_ (k := 1) rfl)) Try.isAgg26 Try.sizeOf26) <| .nil) (⟨(oq, cq), by rw [heq]; rfl, by rw [heq]; exact hout⟩)
  · try simp only [nq1, nq2, nq3, nq4, nq5, nq6, nq7, nq8, nq9, u8_eq] at hb20
    refine wp_skip ?_
    refine hK5 _ _ ?_; clear hK5
    refine seq_any fun _ hK14 => ?_
    have heq : applyR s r = ⟨sortS (r : Rw).labels, (r : Rw).var⟩ := by rw [applyR_out (by rw [← hb7_]; first | exact hb20 | (rcases hb20 with h | h; (exact .inl h); (exact .inr (by omega))))]
    refine ra0 (tch := [(2, 1, (fun _ => .blkx _ _ _))]) hst3 hfr3 (.cons rfl (ob_loadLA (j := 0) rfl rfl Try.isAgg26 Try.sizeOf26 rfl) <| .cons rfl (ob_call (φ := MP.rw ⟨sortS (r : Rw).labels, (r : Rw).var⟩) rfl (.cons rfl <| .nil) Try.call44 (fun w m hK => by have hle_ := KC.le hK; have hA := KC.agree hK; have hs_r := hs_r.mono hle_; exact FnG.mono (sorted_c (r := r) hA ⟨_, _, rfl, hs_r, hr_r⟩ (by omega)) fun _ _ _ _ h => h)) <| .consT rfl rfl (fun _ => rfl) rfl (ob_imgTX 31 rfl rfl rfl fun y31 => ob_store' rfl rfl rfl Try.sizeOf26 rfl rfl rfl) <| .nil) ?_
    intro a4 w4 m4 hst4 hle4 hk4
    have hfr4 := hk4.fr (T' := [(4, _)]) (.old rfl rfl <| .nil)
    replace hst4 := hst4.fin (L' := [_, _, _]) (.cons rfl <| .nil)
    try simp only [List.take_succ_cons, List.take_zero, List.drop_succ_cons, List.drop_zero, List.cons_append, List.nil_append, List.append_nil, List.length_cons, List.length_nil, Nat.zero_add, Nat.reduceAdd] at hst4
    obtain ⟨⟨oq, cq⟩, hout, hst4⟩ := hst4.unx (k := 1) rfl (fun _ => rfl)
    clear hst3 hfr3 hk4
    refine hK14 _ _ ?_; clear hK14
    refine wp_ret ?_
    repeat (with_reducible first | refine then_ret ?_ | refine block_ret ?_)
    exact fn_ret hst4 hfr4 rfl (.cell rfl (load_blk (blk_heap (hst4.loc.at_ (k := 1) rfl)) Try.isAgg26 Try.sizeOf26) <| .nil) (⟨(oq, cq), by rw [heq]; rfl, by rw [heq]; exact hout⟩)

theorem rwV_open {m : Mem} {r : Rw} {y : Option Addr × Nat} (h : RwR m r (rwV r y)) : Strs m y.1 r.labels.length y.2 r.labels ∧ InI64 r.var := by
  obtain ⟨o, c, e, h1, h2⟩ := h
  injection e with e1 e2; injection e1 with e1 _ e3; subst e1; subst e3; exact ⟨h1, h2⟩

abbrev apply_G (t : Ty) : Prop := ∀ {w : World} {m : Mem} {s : Sub} {vs_s : List Value} {vs_t : List Value} (hA : Agree w m) (h_s : SubR m s vs_s) (h_t : TyR m t vs_t) (hw : SubW 17592186044416 40 s) (hb : wdT t ≤ 17592186044000), FnV Try.prog 18 #[.agg vs_s.toArray, .agg vs_t.toArray] w m (fun _ m v => (MP.ty (applyT s t)).p m v)
set_option maxHeartbeats 3200000 in
theorem apply_s {t : Ty} (ih : ∀ u ∈ t.args, apply_G u) {w : World} {m : Mem} {s : Sub} {vs_s : List Value} {vs_t : List Value} (hA : Agree w m) (h_s : SubR m s vs_s) (h_t : TyR m t vs_t) (hw : SubW 17592186044416 40 s) (hb : wdT t ≤ 17592186044000) : FnV Try.prog 18 #[.agg vs_s.toArray, .agg vs_t.toArray] w m (fun _ m v => (MP.ty (applyT s t)).p m v) := by
  obtain ⟨oT_s, oR_s, rfl, hst_s, hsr_s⟩ := id h_s
  obtain ⟨o_t, c_t, oL_t, cL_t, rfl, hk_t, hs_t, hi_t, hj_t, hr_t⟩ := h_t.open_
  have hbg_t := hk_t.big; have hcp_t := hk_t.cap; have hbs_t := hs_t.big; have hcs_t := hs_t.cap
  have hrw_t : RwR _ ⟨t.labels, t.rv⟩ _ := ⟨_, _, rfl, hs_t, hr_t⟩
  refine fn_enter (vs := [_, _]) Try.func18 rfl rfl rfl fun a0 hfr0 => ?_
  have hst0 := st_enter hA (loc_nil [] _ w m)
  have hM : MLe m m := MLe.refl m
  have hbk := fun u (hu : u ∈ t.args) => wdT_arg hu
  have hbe := wdT_eq t
  have hxw := hw.look t.var
  refine seq_any fun _ hK1 => ?_
  replace hst0 := hst0.more (r := .free) trivial List.nodup_nil (by simp [Res.blocks])
  replace hst0 := hst0.more (r := .free) trivial List.nodup_nil (by simp [Res.blocks])
  refine ra0 (tch := [(1, 0, (fun v => .blk v _)), (2, 1, (fun v => .blk v _))]) hst0 hfr0 (.cons rfl (ob_box rfl rfl) <| .consT rfl rfl (fun _ => rfl) rfl (ob_boxL rfl rfl) <| .consT rfl rfl (fun _ => rfl) rfl (ob_allocL Try.zeroValue28 rfl) <| .nil) ?_
  intro a1 w1 m1 hst1 hle1 hk1
  have hfr1 := hk1.fr (T' := []) (.nil)
  obtain ⟨g2, e2, hc2⟩ := hk1.ex 2 rfl
  replace hfr1 := hfr1.cons e2
  obtain ⟨gB, e3, _⟩ := hk1.ex 3 rfl
  replace hfr1 := hfr1.cons e3
  obtain ⟨gT, e4, _⟩ := hk1.ex 4 rfl
  replace hfr1 := hfr1.cons e4
  replace hst1 := hst1.fin (L' := [_, _]) (.cons e3 <| .cons e4 <| .nil)
  replace h_s := h_s.mono hle1
  replace hst_s := hst_s.mono hle1
  replace hsr_s := hsr_s.mono hle1
  replace h_t := h_t.mono hle1
  replace hk_t := hk_t.mono hle1
  replace hs_t := hs_t.mono hle1
  replace hrw_t := hrw_t.mono hle1
  replace hM := hM.trans hle1
  clear hst0 hfr0 hk1
  refine hK1 _ _ ?_; clear hK1
  refine seq_any fun _ hK5 => ?_
  refine seq_any fun _ hK6 => ?_
  refine rp0 hst1 hfr1 (.cons rfl (ob_fieldAddrO (off := 0) rfl Try.underlying28 rfl rfl Try.sizeOf3 rfl) <| .cons rfl (ob_loadL (j := 0) rfl rfl Try.isAgg3 rfl) <| .cons rfl (ob_eql rfl rfl) <| .nil) ?_
  intro a2 w2 m2 hst2 hle2 hk2
  have hfr2 := hk2.fr (T' := [(2, _), (3, _), (4, _), (10, _)]) (.old rfl rfl <| .old rfl rfl <| .old rfl rfl <| .new rfl <| .nil)
  replace h_s := h_s.mono hle2
  replace hst_s := hst_s.mono hle2
  replace hsr_s := hsr_s.mono hle2
  replace h_t := h_t.mono hle2
  replace hk_t := hk_t.mono hle2
  replace hs_t := hs_t.mono hle2
  replace hrw_t := hrw_t.mono hle2
  replace hc2 := hc2.mono hle2
  replace hM := hM.trans hle2
  clear hst1 hfr1 hk2
  refine hK6 _ _ ?_; clear hK6
  refine cond_any hfr2 rfl rfl (fun hb10 => ?_) (fun hb10 => ?_)
  · try simp only [nq1, nq2, nq3, nq4, nq5, nq6, nq7, nq8, nq9, u8_eq] at hb10
    refine seq_any fun _ hK7 => ?_
    refine seq_any fun _ hK8 => ?_
    obtain ⟨vs9, x9, b9, hlk9, hb9_, hx9_, hv9⟩ := hst_s.look (t.var) zeroTy_R
    obtain ⟨o9, c9, oL9, cL9, rfl, hkd9, hs9, hi9, hj9, hr9⟩ := hv9.open_
    have hbg9 := hkd9.big; have hcp9 := hkd9.cap; have hbs9 := hs9.big; have hcs9 := hs9.cap
    have hrw9 : RwR _ ⟨x9.labels, x9.rv⟩ _ := ⟨_, _, rfl, hs9, hr9⟩
    replace hst2 := hst2.more (r := .free) trivial List.nodup_nil (by simp [Res.blocks])
    refine ra0 (tch := [(8, 2, (fun v => .blk v _)), (9, 2, (fun v => .blk v _))]) hst2 hfr2 (.cons rfl (ob_fieldAddrO (off := 0) rfl Try.underlying36 rfl rfl Try.sizeOf32 rfl) <| .cons rfl (ob_load1 rfl hc2 Try.isAgg32 rfl) <| .cons rfl (ob_fieldAddrO (off := 2) rfl Try.underlying28 rfl rfl Try.sizeOf3 rfl) <| .cons rfl (ob_loadL (j := 0) rfl rfl Try.isAgg3 rfl) <| .cons rfl (ob_lookupO keys_I rfl rfl (fun w m hK => hlk9.mono (KC.le hK)) Try.underlying32 Try.underlying3 Try.zeroValue28) <| .cons rfl (ob_move rfl) <| .cons rfl (ob_extract rfl rfl) <| .cons rfl (ob_extract rfl rfl) <| .consT rfl rfl (fun _ => rfl) rfl (ob_allocL Try.zeroValue28 rfl) <| .consT rfl rfl (fun _ => rfl) rfl (ob_imgT 5 rfl rfl rfl fun y5 => ob_storeF rfl rfl rfl rfl rfl Try.sizeOf28 rfl rfl rfl) <| .cons rfl (ob_assign rfl) <| .nil) ?_
    intro a3 w3 m3 hst3 hle3 hk3
    have hfr3 := hk3.fr (T' := [(3, _), (4, _), (6, _)]) (.old rfl rfl <| .old rfl rfl <| .new rfl <| .nil)
    obtain ⟨g10, e10, _⟩ := hk3.ex 5 rfl
    replace hfr3 := hfr3.cons e10
    replace hst3 := hst3.fin (L' := [_, _, _]) (.cons e10 <| .cons e10 <| .nil)
    try simp only [List.take_succ_cons, List.take_zero, List.drop_succ_cons, List.drop_zero, List.cons_append, List.nil_append, List.append_nil, List.length_cons, List.length_nil, Nat.zero_add, Nat.reduceAdd] at hst3
    replace h_t := h_t.mono hle3
    replace hv9 := hv9.mono hle3
    clear hst2 hfr2 hk3
    rw [← hx9_] at hxw
    refine hK8 _ _ ?_; clear hK8
    refine seq_any fun _ hK11 => ?_
    refine rp0 hst3 hfr3 (.cons rfl (ob_move rfl) <| .nil) ?_
    intro a4 w4 m4 hst4 hle4 hk4
    have hfr4 := hk4.fr (T' := [(3, _), (4, _), (5, _), (19, _)]) (.old rfl rfl <| .old rfl rfl <| .old rfl rfl <| .new rfl <| .nil)
    replace h_t := h_t.mono hle4
    replace hv9 := hv9.mono hle4
    clear hst3 hfr3 hk4
    refine hK11 _ _ ?_; clear hK11
    refine cond_any hfr4 rfl rfl (fun hb19 => ?_) (fun hb19 => ?_)
    · try simp only [nq1, nq2, nq3, nq4, nq5, nq6, nq7, nq8, nq9, u8_eq] at hb19
      refine seq_any fun _ hK12 => ?_
      refine ra0 (tch := [(2, 1, (fun _ => .blkx _ _ _))]) hst4 hfr4 (.cons rfl (ob_loadLA (j := 2) rfl rfl Try.isAgg28 Try.sizeOf28 rfl) <| .cons rfl (ob_call (φ := MP.ty (x9)) rfl (.cons rfl <| .nil) Try.call28 (fun w m hK => by have hle_ := KC.le hK; have hA := KC.agree hK; have hv9 := hv9.mono hle_; exact FnG.mono (copied_c (x9) hA hv9 (by omega)) fun _ _ _ _ h => h)) <| .consT rfl rfl (fun _ => rfl) rfl (ob_imgTX 21 rfl rfl rfl fun y21 => ob_store' rfl rfl rfl Try.sizeOf28 rfl rfl rfl) <| .nil) ?_
      intro a5 w5 m5 hst5 hle5 hk5
      have hfr5 := hk5.fr (T' := [(4, _)]) (.old rfl rfl <| .nil)
      replace hst5 := hst5.fin (L' := [_, _, _]) (.cons rfl <| .nil)
      try simp only [List.take_succ_cons, List.take_zero, List.drop_succ_cons, List.drop_zero, List.cons_append, List.nil_append, List.append_nil, List.length_cons, List.length_nil, Nat.zero_add, Nat.reduceAdd] at hst5
      obtain ⟨⟨⟨oa, ca⟩, ol, cl⟩, hcv, hst5⟩ := hst5.unx (k := 1) rfl (fun _ => rfl)
      clear hst4 hfr4 hk5
      have heq : applyT s t = x9 := by rw [applyT_var hb10, hx9_]; exact getD_isSome (by rw [← hb9_]; exact hb19)
      refine hK12 _ _ ?_; clear hK12
      refine wp_ret ?_
      repeat (with_reducible first | refine then_ret ?_ | refine block_ret ?_)
      exact fn_ret hst5 hfr5 rfl (.cell rfl (load_blk (blk_heap (hst5.loc.at_ (k := 1) rfl)) Try.isAgg28 Try.sizeOf28) <| .nil) (⟨((oa, ca), (ol, cl)), by rw [heq]; rfl, by rw [heq]; exact hcv⟩)
    · try simp only [nq1, nq2, nq3, nq4, nq5, nq6, nq7, nq8, nq9, u8_eq] at hb19
      refine wp_skip ?_
      refine hK7 _ _ ?_; clear hK7
      refine seq_any fun _ hK15 => ?_
      refine ra0 (tch := [(2, 1, (fun _ => .blkx _ _ _))]) hst4 hfr4 (.cons rfl (ob_loadLA (j := 0) rfl rfl Try.isAgg28 Try.sizeOf28 rfl) <| .cons rfl (ob_call (φ := MP.ty (t)) rfl (.cons rfl <| .nil) Try.call28 (fun w m hK => by have hle_ := KC.le hK; have hA := KC.agree hK; have h_t := h_t.mono hle_; exact FnG.mono (copied_c (t) hA h_t (by omega)) fun _ _ _ _ h => h)) <| .consT rfl rfl (fun _ => rfl) rfl (ob_imgTX 23 rfl rfl rfl fun y23 => ob_store' rfl rfl rfl Try.sizeOf28 rfl rfl rfl) <| .nil) ?_
      intro a5 w5 m5 hst5 hle5 hk5
      have hfr5 := hk5.fr (T' := [(4, _)]) (.old rfl rfl <| .nil)
      replace hst5 := hst5.fin (L' := [_, _, _]) (.cons rfl <| .nil)
      try simp only [List.take_succ_cons, List.take_zero, List.drop_succ_cons, List.drop_zero, List.cons_append, List.nil_append, List.append_nil, List.length_cons, List.length_nil, Nat.zero_add, Nat.reduceAdd] at hst5
      obtain ⟨⟨⟨oa, ca⟩, ol, cl⟩, hcv, hst5⟩ := hst5.unx (k := 1) rfl (fun _ => rfl)
      clear hst4 hfr4 hk5
      have heq : applyT s t = t := by rw [applyT_var hb10]; cases hq : alook t.var s.ts with | none => rfl | some z => (rw [hq] at hb9_; rw [hb9_] at hb19; cases hb19)
      refine hK15 _ _ ?_; clear hK15
      refine wp_ret ?_
      repeat (with_reducible first | refine then_ret ?_ | refine block_ret ?_)
      exact fn_ret hst5 hfr5 rfl (.cell rfl (load_blk (blk_heap (hst5.loc.at_ (k := 1) rfl)) Try.isAgg28 Try.sizeOf28) <| .nil) (⟨((oa, ca), (ol, cl)), by rw [heq]; rfl, by rw [heq]; exact hcv⟩)
  · try simp only [nq1, nq2, nq3, nq4, nq5, nq6, nq7, nq8, nq9, u8_eq] at hb10
    refine wp_skip ?_
    refine hK5 _ _ ?_; clear hK5
    refine seq_any fun _ hK18 => ?_
    refine region_cut 2 (by kernel_rfl) ?_
    replace hst2 := hst2.more (r := .free) trivial List.nodup_nil (by simp [Res.blocks])
    refine ops_seq (tch := [(1, 2, (fun v => .mrowx (argsV v) t.args.length 6 28 (MP.reads (fun m vs t => TyR m t vs) 6 t.args)))]) hst2 hfr2 (by kernel_rfl) (by kernel_rfl) (by kernel_rfl) (.cons rfl (ob_loadLA (j := 0) rfl rfl Try.isAgg28 Try.sizeOf28 rfl) <| .consT rfl rfl (fun _ => rfl) rfl (ob_callT rfl (.cons rfl <| .nil) Try.call28 (κ := .ex (MP.tyA t)) (fun σ w m hK hr hkn => by have hle_ := KC.le hK; have hA := KC.agree hK; have hM := hM.trans hle_; have h_s := h_s.mono hle_; have hst_s := hst_s.mono hle_; have hsr_s := hsr_s.mono hle_; have h_t := h_t.mono hle_; have hk_t := hk_t.mono hle_; have hs_t := hs_t.mono hle_; have hrw_t := hrw_t.mono hle_; have hc2 := hc2.mono hle_; exact copiedO_t hA h_t (by omega))) <| .nil) ?_
    intro a3 w3 m3 hst3 hle3 hk3
    have hfr3 := hk3.fr (T' := [(2, _), (3, _), (4, _)]) (.old rfl rfl <| .old rfl rfl <| .old rfl rfl <| .nil)
    obtain ⟨⟨⟨oK, cK⟩, oL, cL⟩, e19, hcK, hLL⟩ := hk3.ex 25 rfl
    replace hfr3 := hfr3.cons e19
    replace hst3 := hst3.fin (L' := [_, _, _]) (.cons e19 <| .nil)
    replace h_s := h_s.mono hle3
    replace hc2 := hc2.mono hle3
    clear hst2 hfr2 hk3
    dsimp only [MP.tyA, MP.mem, tyV] at hfr3 hLL
    refine ops_seq (tch := [(0, 0, (fun _ => .blk _ _))]) hst3 hfr3 (by kernel_rfl) (by kernel_rfl) (by kernel_rfl) (.consT rfl rfl (fun _ => rfl) rfl (ob_store' rfl rfl rfl Try.sizeOf28 rfl rfl rfl) <| .nil) ?_
    intro a4 w4 m4 hst4 hle4 hk4
    have hfr4 := hk4.fr (T' := [(2, _), (3, _), (4, _), (25, _)]) (.old rfl rfl <| .old rfl rfl <| .old rfl rfl <| .old rfl rfl <| .nil)
    replace hst4 := hst4.fin (L' := [_, _, _]) (.cons rfl <| .nil)
    try simp only [List.take_succ_cons, List.take_zero, List.drop_succ_cons, List.drop_zero, List.cons_append, List.nil_append, List.append_nil, List.length_cons, List.length_nil, Nat.zero_add, Nat.reduceAdd] at hst4
    replace h_s := h_s.mono hle4
    replace hc2 := hc2.mono hle4
    replace hLL := hLL.mono hle4
    clear hst3 hfr3 hk4
    refine hK18 _ _ ?_; clear hK18
    refine seq_any fun _ hK20 => ?_
    refine seq_any fun _ hK21 => ?_
    refine rp0 hst4 hfr4 (.cons rfl (ob_fieldAddrO (off := 3) rfl Try.underlying28 rfl rfl Try.sizeOf23 rfl) <| .cons rfl (ob_loadL (j := 0) rfl rfl Try.isAgg23 rfl) <| .cons rfl (ob_len rfl Try.underlying23) <| .cons rfl (ob_move rfl) <| .nil) ?_
    intro a5 w5 m5 hst5 hle5 hk5
    have hfr5 := hk5.fr (T' := [(2, _), (3, _), (4, _), (28, _), (29, _)]) (.old rfl rfl <| .old rfl rfl <| .old rfl rfl <| .new rfl <| .new rfl <| .nil)
    replace h_s := h_s.mono hle5
    replace hc2 := hc2.mono hle5
    replace hLL := hLL.mono hle5
    clear hst4 hfr4 hk5
    refine hK21 _ _ ?_; clear hK21
    refine wp_block ?_
    refine loop_any (T := [(2, _), (3, _), (4, _), (28, _)]) (fun (y : Nat × List Ty) => ([(29, .int .i64 (y.1 : Int))] : List (Nat × Value))) (fun y => [_, _, .mrowx (.slice oK t.args.length cK) t.args.length 6 28 (MP.reads (fun m vs t => TyR m t vs) 6 (y.2 ++ t.args.drop y.1))]) (fun (y : Nat × List Ty) m => (fun (y : Nat) (dk : List Ty) => (y ≤ t.args.length) ∧ (dk.length = y) ∧ (applyTs s t.args = dk ++ applyTs s (t.args.drop y))) y.1 y.2) (fun y => t.args.length - y.1) ((0, [])) ⟨hst5, MLe.refl _, hfr5.sub (.cons rfl <| .cons rfl <| .cons rfl <| .cons rfl <| .cons rfl <| .nil), ⟨Nat.zero_le _, rfl, rfl⟩⟩ fun y a6 w6 m6 hh6 => ?_
    have hst6 := hh6.st; have hle6 := hh6.le; have hfr6 := hh6.fr; have hrel := hh6.rel; clear hh6
    replace h_s := h_s.mono hle6
    replace hc2 := hc2.mono hle6
    replace hLL := hLL.mono hle6
    clear hst5 hfr5
    obtain ⟨y, dk⟩ := y
    dsimp only at hrel hfr6 hst6
    obtain ⟨hyn, hjl, hj1⟩ := hrel
    have hlh6 := hle6
    refine seq_any fun _ hK23 => ?_
    refine rp0 hst6 hfr6 (.cons rfl (ob_lss rfl rfl) <| .nil) ?_
    intro a7 w7 m7 hst7 hle7 hk7
    have hfr7 := hk7.fr (T' := [(29, _), (2, _), (3, _), (4, _), (28, _), (30, _)]) (.old rfl rfl <| .old rfl rfl <| .old rfl rfl <| .old rfl rfl <| .old rfl rfl <| .new rfl <| .nil)
    replace h_s := h_s.mono hle7
    replace hc2 := hc2.mono hle7
    replace hLL := hLL.mono hle7
    have hlh7 := hlh6.trans hle7
    clear hst6 hfr6 hk7
    refine hK23 _ _ ?_; clear hK23
    refine seq_any fun _ hK24 => ?_
    refine cond_any hfr7 rfl rfl (fun hb30 => ?_) (fun hb30 => ?_)
    · try simp only [nq1, nq2, nq3, nq4, nq5, nq6, nq7, nq8, nq9, u8_eq] at hb30
      refine wp_skip ?_
      refine hK24 _ _ ?_; clear hK24
      refine seq_any fun _ hK25 => ?_
      refine wp_block ?_
      refine seq_any fun _ hK26 => ?_
      refine rp0 hst7 hfr7 (.cons rfl (ob_move rfl) <| .cons rfl (ob_assign rfl) <| .nil) ?_
      intro a8 w8 m8 hst8 hle8 hk8
      have hfr8 := hk8.fr (T' := [(29, _), (2, _), (3, _), (4, _), (28, _), (7, _)]) (.old rfl rfl <| .old rfl rfl <| .old rfl rfl <| .old rfl rfl <| .old rfl rfl <| .new rfl <| .nil)
      replace h_s := h_s.mono hle8
      replace hc2 := hc2.mono hle8
      have hlh8 := hlh7.trans hle8
      clear hst7 hfr7 hk8
      refine hK26 _ _ ?_; clear hK26
      obtain ⟨x9, hx9, hd9⟩ : ∃ x, t.args[y]? = some x ∧ t.args.drop y = x :: t.args.drop (y + 1) := ⟨t.args[y]'(by omega), List.getElem?_eq_getElem (by omega), List.drop_eq_getElem_cons (by omega)⟩
      have hm9 : x9 ∈ t.args := List.mem_of_getElem? hx9
      have hbx9 := hbk x9 hm9
      rw [hd9] at hst8
      rw [hd9, applyTs] at hj1
      have hga9 : (dk ++ x9 :: t.args.drop (y + 1))[y]? = some x9 := get_midY hjl
      obtain ⟨gK, hgK⟩ := MP.made_some (hst8.loc.at_ (k := 2) rfl) (by omega)
      subst hgK
      refine region_any (tch := [(11, 2, (fun _ => .mrowx _ _ _ _ _))]) (fun _ => mixed) hst8 hfr8 (by kernel_rfl) (by kernel_rfl) (by kernel_rfl) (.cons rfl (ob_fieldAddrO (off := 3) rfl Try.underlying28 rfl rfl Try.sizeOf23 rfl) <| .cons rfl (ob_loadL (j := 0) rfl rfl Try.isAgg23 rfl) <| .cons rfl (ob_move rfl) <| .cons rfl (ob_loadS' rfl hc2 Try.isAgg36 Try.sizeOf36 rfl rfl) <| .cons rfl (ob_fieldAddrO (off := 3) rfl Try.underlying28 rfl rfl Try.sizeOf23 rfl) <| .cons rfl (ob_loadL (j := 0) rfl rfl Try.isAgg23 rfl) <| .cons rfl (ob_move rfl) <| .cons rfl (ob_indexAddr (k := y) rfl rfl Try.underlying23 Try.sizeOf28 rfl (by omega)) <| .cons rfl (ob_loadMX (R := (fun m vs t => TyR m t vs)) (i := y) (j := 2) (l := dk ++ x9 :: t.args.drop (y + 1)) rfl rfl Try.isAgg28 Try.sizeOf28 hga9 (by decide)) <| .cons rfl (ob_imgE 40 rfl rfl rfl fun y40 => ob_call (φ := MP.ty (applyT s x9)) rfl (.cons rfl <| .cons rfl <| .nil) Try.call18 (fun w m hK => by have hle_ := KC.le hK; have hA := KC.agree hK; have hr0_ := hK.2; have h_s := h_s.mono hle_; exact FnG.mono (ih _ hm9 hA h_s hr0_ hw (by omega)) fun _ _ _ _ h => h)) <| .cons rfl (ob_indexAddr (k := y) rfl rfl Try.underlying23 Try.sizeOf28 rfl (by omega)) <| .consT rfl rfl (fun _ => rfl) rfl (ob_imgT 41 rfl rfl rfl fun y41 => ob_storeMX (R := (fun m vs t => TyR m t vs)) (i := y) (off := 0) (l := dk ++ x9 :: t.args.drop (y + 1)) (b := applyT s x9) (ws := tyV (applyT s x9) y41) rfl rfl rfl Try.sizeOf28 hga9 (by decide) (by show 0 + 6 ≤ 6; omega) (fun w m hK vs hv _ => by rw [splice_whole hv]; exact hK.2) (fun w m hK => hK.2.one)) <| .nil) ?_
      intro a9 w9 m9 hst9 hle9 hk9
      have hfr9 := hk9.fr (T' := [(29, _), (2, _), (3, _), (4, _), (28, _)]) (.old rfl rfl <| .old rfl rfl <| .old rfl rfl <| .old rfl rfl <| .old rfl rfl <| .nil)
      replace hst9 := hst9.fin (L' := [_, _, _]) (.cons rfl <| .nil)
      try simp only [List.take_succ_cons, List.take_zero, List.drop_succ_cons, List.drop_zero, List.cons_append, List.nil_append, List.append_nil, List.length_cons, List.length_nil, Nat.zero_add, Nat.reduceAdd] at hst9
      have hlh9 := hlh8.trans hle9
      clear hst8 hfr8 hk9
      rw [set_midY hjl] at hst9
      refine hK25 _ _ ?_; clear hK25
      refine rp0 hst9 hfr9 (.cons rfl (ob_add rfl rfl ⟨by omega, by omega⟩) <| .cons rfl (ob_move rfl) <| .nil) ?_
      intro a10 w10 m10 hst10 hle10 hk10
      have hfr10 := hk10.fr (T' := [(2, _), (3, _), (4, _), (28, _), (29, _)]) (.old rfl rfl <| .old rfl rfl <| .old rfl rfl <| .old rfl rfl <| .new rfl <| .nil)
      have hlh10 := hlh9.trans hle10
      clear hst9 hfr9 hk10
      exact ⟨(y + 1, (dk ++ [applyT s x9])), m10, by show t.args.length - (y + 1) < t.args.length - y; omega, ⟨hst10, hlh10, hfr10.sub (.cons rfl <| .cons rfl <| .cons rfl <| .cons rfl <| .cons rfl <| .nil), ⟨by show y + 1 ≤ t.args.length; omega, by show (dk ++ [_]).length = y + 1; rw [List.length_append, hjl]; rfl, by rw [hj1]; simp⟩⟩⟩
    · try simp only [nq1, nq2, nq3, nq4, nq5, nq6, nq7, nq8, nq9, u8_eq] at hb30
      have hge : y = t.args.length := by omega
      rw [List.drop_of_length_le (by omega), applyTs, List.append_nil] at hj1
      rw [List.drop_of_length_le (by omega), List.append_nil] at hst7
      have hdl : dk.length = t.args.length := hjl.trans hge
      refine wp_exit ?_
      refine hK20 _ _ ?_; clear hK20
      refine seq_any fun _ hK27 => ?_
      refine seq_any fun _ hK28 => ?_
      refine rp0 hst7 hfr7 (.cons rfl (ob_fieldAddrO (off := 0) rfl Try.underlying28 rfl rfl Try.sizeOf3 rfl) <| .cons rfl (ob_loadL (j := 0) rfl rfl Try.isAgg3 rfl) <| .cons rfl (ob_eql rfl rfl) <| .nil) ?_
      intro a8 w8 m8 hst8 hle8 hk8
      have hfr8 := hk8.fr (T' := [(29, _), (2, _), (3, _), (4, _), (46, _)]) (.old rfl rfl <| .old rfl rfl <| .old rfl rfl <| .old rfl rfl <| .new rfl <| .nil)
      replace h_s := h_s.mono hle8
      replace hc2 := hc2.mono hle8
      replace hLL := hLL.mono hle8
      have hlh8 := hlh7.trans hle8
      clear hst7 hfr7 hk8
      refine hK28 _ _ ?_; clear hK28
      refine cond_any hfr8 rfl rfl (fun hb46 => ?_) (fun hb46 => ?_)
      · try simp only [nq1, nq2, nq3, nq4, nq5, nq6, nq7, nq8, nq9, u8_eq] at hb46
        refine region_cut 4 (by kernel_rfl) ?_
        refine ops_seq (tch := []) hst8 hfr8 (by kernel_rfl) (by kernel_rfl) (by kernel_rfl) (.cons rfl (ob_loadS' rfl hc2 Try.isAgg36 Try.sizeOf36 rfl rfl) <| .cons rfl (ob_fieldAddrO (off := 4) rfl Try.underlying28 rfl rfl Try.sizeOf26 rfl) <| .cons rfl (ob_loadLS (j := 0) rfl rfl Try.isAgg26 Try.sizeOf26 rfl rfl) <| .cons rfl (ob_call (φ := MP.rw (applyR s ⟨t.labels, t.rv⟩)) rfl (.cons rfl <| .cons rfl <| .nil) Try.call34 (fun w m hK => by have hle_ := KC.le hK; have hA := KC.agree hK; have h_s := h_s.mono hle_; have hLL := hLL.mono hle_; exact FnG.mono (applyR_c (r := ⟨t.labels, t.rv⟩) hA h_s ⟨_, _, rfl, hLL, hr_t⟩ hw (by show t.labels.length ≤ _; omega)) fun _ _ _ _ h => h)) <| .nil) ?_
        intro a9 w9 m9 hst9 hle9 hk9
        have hfr9 := hk9.fr (T' := [(29, _), (2, _), (3, _), (4, _)]) (.old rfl rfl <| .old rfl rfl <| .old rfl rfl <| .old rfl rfl <| .nil)
        obtain ⟨⟨oR9, cR9⟩, e29, hRR⟩ := hk9.ex 50 rfl
        replace hfr9 := hfr9.cons e29
        have hlh9 := hlh8.trans hle9
        clear hst8 hfr8 hk9
        dsimp only [MP.rw, MP.mem, rwV] at hfr9
        have hRS := (rwV_open hRR).1
        have hRI := (rwV_open hRR).2
        refine ops_seq (tch := [(1, 0, (fun _ => .blk _ _))]) hst9 hfr9 (by kernel_rfl) (by kernel_rfl) (by kernel_rfl) (.cons rfl (ob_fieldAddrO (off := 4) rfl Try.underlying28 rfl rfl Try.sizeOf26 rfl) <| .consT rfl rfl (fun _ => rfl) rfl (ob_store rfl rfl rfl Try.sizeOf26 rfl rfl rfl) <| .nil) ?_
        intro a10 w10 m10 hst10 hle10 hk10
        have hfr10 := hk10.fr (T' := [(29, _), (2, _), (3, _), (4, _), (50, _)]) (.old rfl rfl <| .old rfl rfl <| .old rfl rfl <| .old rfl rfl <| .old rfl rfl <| .nil)
        replace hst10 := hst10.fin (L' := [_, _, _]) (.cons rfl <| .nil)
        try simp only [List.take_succ_cons, List.take_zero, List.drop_succ_cons, List.drop_zero, List.cons_append, List.nil_append, List.append_nil, List.length_cons, List.length_nil, Nat.zero_add, Nat.reduceAdd] at hst10
        replace hRS := hRS.mono hle10
        have hlh10 := hlh9.trans hle10
        clear hst9 hfr9 hk10
        obtain ⟨m11, hle11, hst11, oX_K, cX_K, eX_K, hsl_K⟩ := hst10.freezeX (k := 2) rfl (hdl) (by decide) (by omega)
        simp only [List.set_cons_succ, List.set_cons_zero] at hst11
        injection eX_K with eX1_K _ eX2_K; subst eX1_K; subst eX2_K
        have hfr11 := hfr10; obtain ⟨a11, rfl⟩ : ∃ a, a = a10 := ⟨_, rfl⟩; obtain ⟨w11, rfl⟩ : ∃ w, w = w10 := ⟨_, rfl⟩
        replace hRS := hRS.mono hle11
        have hlh11 := hlh10.trans hle11
        clear hst10 hfr10
        replace hsl_K : Tys m11 oK t.args.length cK dk := hsl_K
        have h9 := TyR.build (k := t.kind) (s := t.name) (v := t.var) (ks := dk) (ls := (applyR s ⟨t.labels, t.rv⟩).labels) (r := (applyR s ⟨t.labels, t.rv⟩).var) (by rw [hdl]; exact hsl_K) hRS hi_t hj_t hRI
        rw [hdl] at h9
        have hfe : applyT s t = ⟨t.kind, t.name, t.var, dk, (applyR s ⟨t.labels, t.rv⟩).labels, (applyR s ⟨t.labels, t.rv⟩).var⟩ := by rw [applyT_not hb10, if_pos hb46, if_pos hb46, hj1]
        rw [← hfe] at h9
        have htv : tyV (applyT s t) ((oK, cK), (oR9, cR9)) = [.int .i64 t.kind, S t.name, .int .i64 t.var, .slice oK t.args.length cK, .slice oR9 ((applyR s ⟨t.labels, t.rv⟩).labels).length cR9, .int .i64 ((applyR s ⟨t.labels, t.rv⟩).var)] := by rw [hfe]; simp only [tyV, Ty.kind, Ty.name, Ty.var, Ty.args, Ty.labels, Ty.rv, hdl]
        refine hK27 _ _ ?_; clear hK27
        refine seq_any fun _ hK30 => ?_
        refine ra0 (tch := [(1, 1, (fun _ => .blk _ _))]) hst11 hfr11 (.cons rfl (ob_loadLA (j := 0) rfl rfl Try.isAgg28 Try.sizeOf28 rfl) <| .consT rfl rfl (fun _ => rfl) rfl (ob_store' rfl rfl rfl Try.sizeOf28 rfl rfl h9.one) <| .nil) ?_
        intro a12 w12 m12 hst12 hle12 hk12
        have hfr12 := hk12.fr (T' := [(29, _), (4, _)]) (.old rfl rfl <| .old rfl rfl <| .nil)
        replace hst12 := hst12.fin (L' := [_, _, _]) (.cons rfl <| .nil)
        try simp only [List.take_succ_cons, List.take_zero, List.drop_succ_cons, List.drop_zero, List.cons_append, List.nil_append, List.append_nil, List.length_cons, List.length_nil, Nat.zero_add, Nat.reduceAdd] at hst12
        replace h9 := h9.mono hle12
        have hlh12 := hlh11.trans hle12
        clear hst11 hfr11 hk12
        refine hK30 _ _ ?_; clear hK30
        refine wp_ret ?_
        repeat (with_reducible first | refine then_ret ?_ | refine block_ret ?_)
        exact fn_ret hst12 hfr12 rfl (.cell rfl (load_blk (blk_heap (hst12.loc.at_ (k := 1) rfl)) Try.isAgg28 Try.sizeOf28) <| .nil) (⟨((oK, cK), (oR9, cR9)), congrArg (fun l : List Value => Value.agg l.toArray) htv.symm, by show TyR _ _ (tyV (applyT s t) ((oK, cK), (oR9, cR9))); rw [htv]; exact h9⟩)
      · try simp only [nq1, nq2, nq3, nq4, nq5, nq6, nq7, nq8, nq9, u8_eq] at hb46
        obtain ⟨m9, hle9, hst9, oX_K, cX_K, eX_K, hsl_K⟩ := hst8.freezeX (k := 2) rfl (hdl) (by decide) (by omega)
        simp only [List.set_cons_succ, List.set_cons_zero] at hst9
        injection eX_K with eX1_K _ eX2_K; subst eX1_K; subst eX2_K
        have hfr9 := hfr8; obtain ⟨a9, rfl⟩ : ∃ a, a = a8 := ⟨_, rfl⟩; obtain ⟨w9, rfl⟩ : ∃ w, w = w8 := ⟨_, rfl⟩
        replace hLL := hLL.mono hle9
        have hlh9 := hlh8.trans hle9
        clear hst8 hfr8
        replace hsl_K : Tys m9 oK t.args.length cK dk := hsl_K
        have h9 := TyR.build (k := t.kind) (s := t.name) (v := t.var) (ks := dk) (ls := t.labels) (r := t.rv) (by rw [hdl]; exact hsl_K) hLL hi_t hj_t hr_t
        rw [hdl] at h9
        have hfe : applyT s t = ⟨t.kind, t.name, t.var, dk, t.labels, t.rv⟩ := by rw [applyT_not hb10, if_neg hb46, if_neg hb46, hj1]
        rw [← hfe] at h9
        have htv : tyV (applyT s t) ((oK, cK), (oL, cL)) = [.int .i64 t.kind, S t.name, .int .i64 t.var, .slice oK t.args.length cK, .slice oL (t.labels).length cL, .int .i64 (t.rv)] := by rw [hfe]; simp only [tyV, Ty.kind, Ty.name, Ty.var, Ty.args, Ty.labels, Ty.rv, hdl]
        refine wp_skip ?_
        refine hK27 _ _ ?_; clear hK27
        refine seq_any fun _ hK32 => ?_
        refine ra0 (tch := [(1, 1, (fun _ => .blk _ _))]) hst9 hfr9 (.cons rfl (ob_loadLA (j := 0) rfl rfl Try.isAgg28 Try.sizeOf28 rfl) <| .consT rfl rfl (fun _ => rfl) rfl (ob_store' rfl rfl rfl Try.sizeOf28 rfl rfl h9.one) <| .nil) ?_
        intro a10 w10 m10 hst10 hle10 hk10
        have hfr10 := hk10.fr (T' := [(29, _), (4, _)]) (.old rfl rfl <| .old rfl rfl <| .nil)
        replace hst10 := hst10.fin (L' := [_, _, _]) (.cons rfl <| .nil)
        try simp only [List.take_succ_cons, List.take_zero, List.drop_succ_cons, List.drop_zero, List.cons_append, List.nil_append, List.append_nil, List.length_cons, List.length_nil, Nat.zero_add, Nat.reduceAdd] at hst10
        replace h9 := h9.mono hle10
        have hlh10 := hlh9.trans hle10
        clear hst9 hfr9 hk10
        refine hK32 _ _ ?_; clear hK32
        refine wp_ret ?_
        repeat (with_reducible first | refine then_ret ?_ | refine block_ret ?_)
        exact fn_ret hst10 hfr10 rfl (.cell rfl (load_blk (blk_heap (hst10.loc.at_ (k := 1) rfl)) Try.isAgg28 Try.sizeOf28) <| .nil) (⟨((oK, cK), (oL, cL)), congrArg (fun l : List Value => Value.agg l.toArray) htv.symm, by show TyR _ _ (tyV (applyT s t) ((oK, cK), (oL, cL))); rw [htv]; exact h9⟩)
theorem apply_c (t : Ty) : apply_G t := Ty.rec_ (p := apply_G) (fun t ih => apply_s ih) t

end Go.Proofs.Ytfphefkfbhjfdaa
