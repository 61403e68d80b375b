/-
  Texts that the law rests on: Subst2, Types8, Range, Then7, Keys7, Sub7. Conditions: those of each theorem.
-/
import Derived.Test.YtlidonjpgigocaaGreatSqB
namespace Go.Proofs.YtlidonjpgigocaaGreat
open Go.Proofs.Tryz
set_option linter.all false
set_option maxRecDepth 4000
open Go.RowKit
theorem SubW.look {B : Nat} {s : Sub} (h : SubW B s) (n : Int) : wdT ((zP n s.ts).getD zAu) ≤ B := by
 cases hq : zP n s.ts with
 | none => exact Nat.zero_le _
 | some t => exact h.1 n t hq
theorem SubW.lookR {B : Nat} {s : Sub} (h : SubW B s) (n : Int) : ((zP n s.rs).getD zDM).labels.length ≤ B := by
 cases hq : zP n s.rs with
 | none => exact Nat.zero_le _
 | some t => exact h.2 n t hq
theorem applyR_in {s : Sub} {r : Rw} (h : (zP r.var s.rs).isSome = true) (h0 : ¬ r.var = 0) : zQ s r = ⟨ZT (r.labels ++ ((zP r.var s.rs).getD zDM).labels), ((zP r.var s.rs).getD zDM).var⟩ := by
 unfold zQ
 cases hq : zP r.var s.rs with
 | none => rw [hq] at h; cases h
 | some x => dsimp only [Option.getD_some]; rw [if_neg h0]
theorem Z3 {s : Sub} {r : Rw} (h : (zP r.var s.rs).isSome = false ∨ r.var = 0) : zQ s r = ⟨ZT r.labels, r.var⟩ := by
 unfold zQ
 cases hq : zP r.var s.rs with
 | none => rfl
 | some x => rw [hq] at h; dsimp only; rw [if_pos (by rcases h with h | h; (cases h); exact h)]
theorem zAr {s : Sub} {B : Nat} (h : SubW B s) (r : Rw) : (zQ s r).labels.length ≤ r.labels.length + B := by
 unfold zQ
 cases hq : zP r.var s.rs with
 | none => dsimp only; rw [zCN]; omega
 | some x =>
  have := h.2 _ _ hq
  dsimp only; split
  ·dsimp only; rw [zCN]; omega
  ·dsimp only; rw [zCN, List.length_append]; omega
theorem zFa {α : Type} {x : Option α} {d e : α} (h : x.isSome = true) : x.getD d = x.getD e := by cases x with | none => cases h | some y => rfl
set_option maxHeartbeats 1600000 in
theorem zFx {w : World} {m : Mem} {s : Sub} {vs_s : List Value} {r : Rw} {vs_r : List Value} (hA : Agree w m) (h_s : SubR m s vs_s) (h_r : RwR m r vs_r) (hw : SubW 400000000 s) (hb : r.labels.length ≤ 400000000) : FnV Tryz.prog 21 #[.agg vs_s.toArray, .agg vs_r.toArray] w m (fun _ m v => (MP.rw (zQ s r)).p m v) := by
 obtain ⟨oT_s, oR_s, rfl, hst_s, hsr_s⟩ := id h_s
 obtain ⟨o_r, c_r, rfl, hs_r, hr_r⟩ := h_r.open_
 have hbs_r := hs_r.big; have hcs_r := hs_r.cap
 refine zY (vs := [_, _]) func21 rfl rfl rfl fun a0 hfr0 => ?_
 have hst0 := zX hA (zw [] _ w m)
 have hM : MLe m m := MLe.refl m
 have hxw := hw.lookR r.var
 refine zE fun _ hK1 => ?_
 replace hst0 := hst0.more (r := .free) trivial List.nodup_nil (by simp [Res.blocks])
 replace hst0 := hst0.more (r := .free) trivial List.nodup_nil (by simp [Res.blocks])
 refine ra0 (tch := [(1, 0, (fun v => .blk v _)), (2, 1, (fun v => .blk v _))]) hst0 hfr0 (.cons rfl (ZA rfl rfl) <| .consT rfl rfl (fun _ => rfl) rfl (zAR rfl rfl) <| .consT rfl rfl (fun _ => rfl) rfl (zj zeroValue43 rfl) <| .nil) fun a1 w1 m1 hst1 hle1 hk1 => ?_
 have hfr1 := hk1.fr (.nil)
 obtain ⟨g2, e2, hc2⟩ := hk1.ex 2 rfl
 replace hfr1 := hfr1.cons e2
 obtain ⟨g3, e3, _⟩ := hk1.ex 3 rfl
 replace hfr1 := hfr1.cons e3
 obtain ⟨g4, e4, _⟩ := hk1.ex 4 rfl
 replace hfr1 := hfr1.cons e4
 replace hst1 := hst1.fin (L' := [_, _]) (.cons e3 <| .cons e4 <| .nil)
 replace hsr_s := hsr_s.mono hle1
 replace hs_r := hs_r.mono hle1
 clear hst0 hfr0 hk1
 refine hK1 _ _ ?_
 refine zE fun _ hK5 => ?_
 refine zE fun _ hK6 => ?_
 obtain ⟨vs7, x7, b7, hlk7, hb7_, hx7_, hv7⟩ := hsr_s.look (r.var) zGq
 obtain ⟨o7, c7, rfl, hs7, hr7⟩ := hv7.open_
 have hbs7 := hs7.big; have hcs7 := hs7.cap
 replace hst1 := hst1.more (r := .free) trivial List.nodup_nil (by simp [Res.blocks])
 refine ra0 (tch := [(8, 2, (fun v => .blk v _)), (9, 2, (fun v => .blk v _))]) hst1 hfr1 (.cons rfl (zF (off := 1) rfl underlying29 rfl rfl sizeOf27 rfl) <| .cons rfl (zK rfl hc2 isAgg27 rfl) <| .cons rfl (zF (off := 1) rfl underlying43 rfl rfl sizeOf3 rfl) <| .cons rfl (zW (j := 0) rfl rfl isAgg3 rfl) <| .cons rfl (zDE zDe rfl rfl (fun w m hK => hlk7.mono (KC.le hK)) underlying27 underlying3 zeroValue43) <| .cons rfl (zG rfl) <| .cons rfl (zk rfl rfl) <| .cons rfl (zk rfl rfl) <| .consT rfl rfl (fun _ => rfl) rfl (zj zeroValue43 rfl) <| .consT rfl rfl (fun _ => rfl) rfl (ze 5 rfl rfl rfl fun y5 => ZD rfl rfl rfl rfl rfl sizeOf43 rfl rfl rfl) <| .cons rfl (zH rfl) <| .nil) fun a2 w2 m2 hst2 hle2 hk2 => ?_
 have hfr2 := hk2.fr (.o 3 <| .o 4 <| .n 6 <| .nil)
 obtain ⟨g8, e8, _⟩ := hk2.ex 5 rfl
 replace hfr2 := hfr2.cons e8
 replace hst2 := hst2.fin (L' := [_, _, _]) (.cons e8 <| .cons e8 <| .nil)
 try simp only [List.take_succ_cons, List.take_zero, List.drop_succ_cons, List.drop_zero, List.cons_append, List.nil_append, List.append_nil, List.length_cons, List.length_nil, Nat.zero_add, Nat.reduceAdd] at hst2
 replace hs_r := hs_r.mono hle2
 replace hs7 := hs7.mono hle2
 clear hst1 hfr1 hk2
 rw [← hx7_] at hxw
 refine hK6 _ _ ?_
 refine zE fun _ hK9 => ?_
 refine rp0 hst2 hfr2 (.cons rfl (zG rfl) <| .cons rfl (zG rfl) <| .cons rfl (zF (off := 1) rfl underlying43 rfl rfl sizeOf3 rfl) <| .cons rfl (zW (j := 0) rfl rfl isAgg3 rfl) <| .cons rfl (Z6 rfl rfl) <| .cons rfl (z8 rfl rfl rfl) <| .nil) fun a3 w3 m3 hst3 hle3 hk3 => ?_
 have hfr3 := hk3.fr (.o 3 <| .o 4 <| .o 5 <| .n 20 <| .nil)
 replace hs_r := hs_r.mono hle3
 replace hs7 := hs7.mono hle3
 clear hst2 hfr2 hk3
 refine hK9 _ _ ?_
 refine zJ hfr3 rfl rfl (fun hb20 => ?_) (fun hb20 => ?_)
 ·try simp only [nqs] at hb20
  refine zn (tch := [(9, 0, (fun _ => .blkx _ _ _))]) (fun _ => mixed) hst3 hfr3 (by kernel_rfl) (by kernel_rfl) (by kernel_rfl) (.cons rfl (zF (off := 0) rfl underlying43 rfl rfl sizeOf41 rfl) <| .cons rfl (zW (j := 0) rfl rfl isAgg41 rfl) <| .cons rfl (zF (off := 0) rfl underlying43 rfl rfl sizeOf41 rfl) <| .cons rfl (zW (j := 2) rfl rfl isAgg41 rfl) <| .cons rfl (ZQ (.cons rfl <| .cons rfl <| .nil) underlying98 sizeOf41 zeroValue41 rfl rfl rfl rfl) <| .cons rfl (ZI 25 rfl rfl rfl fun y25 => zZ (φ := MP.strs (r.labels ++ x7.labels)) rfl (.cons rfl <| .nil) call43 (fun w m hK => by have hle_ := KC.le hK; have hA := KC.agree hK; have hr0_ := hK.2; have hs_r := hs_r.mono hle_; have hs7 := hs7.mono hle_; exact FnG.mono (cat2_c hA hr0_ hs_r hs7 (by omega)) fun _ _ _ _ h => h)) <| .cons rfl (zF (off := 1) rfl underlying43 rfl rfl sizeOf3 rfl) <| .cons rfl (zW (j := 2) rfl rfl isAgg3 rfl) <| .cons rfl (ZK 26 rfl rfl rfl fun y26 => ZM (.cons rfl <| .cons rfl <| .nil) underlying43 zeroValue43 (.cons sizeOf41 <| .cons sizeOf3 <| .nil) rfl) <| .consT rfl rfl (fun _ => rfl) rfl (ZL 29 rfl rfl rfl fun y29 => zm rfl rfl rfl sizeOf43 rfl rfl rfl) <| .nil) fun a4 w4 m4 hst4 hle4 hk4 => ?_
  have hfr4 := hk4.fr (.o 3 <| .o 4 <| .nil)
  replace hst4 := hst4.fin (L' := [_, _, _]) (.cons rfl <| .nil)
  try simp only [List.take_succ_cons, List.take_zero, List.drop_succ_cons, List.drop_zero, List.cons_append, List.nil_append, List.append_nil, List.length_cons, List.length_nil, Nat.zero_add, Nat.reduceAdd] at hst4
  obtain ⟨⟨oc, cc⟩, hcat, hst4⟩ := hst4.unx (k := 0) rfl (fun _ => rfl)
  clear hst3 hfr3 hk4
  refine hK5 _ _ ?_
  refine zE fun _ hK11 => ?_
  have heq : zQ s r = ⟨ZT (⟨r.labels ++ x7.labels, x7.var⟩ : Rw).labels, (⟨r.labels ++ x7.labels, x7.var⟩ : Rw).var⟩ := by rw [applyR_in (by rw [← hb7_]; exact hb20.1) hb20.2, ← hx7_]
  refine ra0 (tch := [(2, 1, (fun _ => .blkx _ _ _))]) hst4 hfr4 (.cons rfl (zh (j := 0) rfl rfl isAgg43 sizeOf43 rfl) <| .cons rfl (zZ (φ := MP.rw ⟨ZT (⟨r.labels ++ x7.labels, x7.var⟩ : Rw).labels, (⟨r.labels ++ x7.labels, x7.var⟩ : Rw).var⟩) rfl (.cons rfl <| .nil) call44 (fun w m hK => by have hle_ := KC.le hK; have hA := KC.agree hK; have hcat := hcat.mono hle_; exact FnG.mono (sorted_c (r := ⟨r.labels ++ x7.labels, x7.var⟩) hA ⟨_, _, rfl, hcat, hr7⟩ (by show (r.labels ++ x7.labels).length ≤ _; rw [List.length_append]; omega)) fun _ _ _ _ h => h)) <| .consT rfl rfl (fun _ => rfl) rfl (ZL 31 rfl rfl rfl fun y31 => zm rfl rfl rfl sizeOf43 rfl rfl rfl) <| .nil) fun a5 w5 m5 hst5 hle5 hk5 => ?_
  have hfr5 := hk5.fr (.o 4 <| .nil)
  replace hst5 := hst5.fin (L' := [_, _, _]) (.cons rfl <| .nil)
  try simp only [List.take_succ_cons, List.take_zero, List.drop_succ_cons, List.drop_zero, List.cons_append, List.nil_append, List.append_nil, List.length_cons, List.length_nil, Nat.zero_add, Nat.reduceAdd] at hst5
  obtain ⟨⟨oq, cq⟩, hout, hst5⟩ := hst5.unx (k := 1) rfl (fun _ => rfl)
  clear hst4 hfr4 hk5
  refine hK11 _ _ ?_
  refine zU ?_
  repeat (with_reducible first | refine zL ?_ | refine zI ?_)
  exact zV hst5 hfr5 rfl (.cell rfl (ZO (ZJ (hst5.loc.at_ (k := 1) rfl)) isAgg43 sizeOf43) <| .nil) (⟨(oq, cq), by rw [heq]; rfl, by rw [heq]; exact hout⟩)
 ·try simp only [nqs] at hb20
  refine zR ?_
  refine hK5 _ _ ?_
  refine zE fun _ hK14 => ?_
  have heq : zQ s r = ⟨ZT (r : Rw).labels, (r : Rw).var⟩ := by rw [Z3 (by rw [← hb7_]; first | exact hb20 | (rcases hb20 with h | h; (exact .inl h); (exact .inr (by omega))))]
  refine ra0 (tch := [(2, 1, (fun _ => .blkx _ _ _))]) hst3 hfr3 (.cons rfl (zh (j := 0) rfl rfl isAgg43 sizeOf43 rfl) <| .cons rfl (zZ (φ := MP.rw ⟨ZT (r : Rw).labels, (r : Rw).var⟩) rfl (.cons rfl <| .nil) call44 (fun w m hK => by have hle_ := KC.le hK; have hA := KC.agree hK; have hs_r := hs_r.mono hle_; exact FnG.mono (sorted_c (r := r) hA ⟨_, _, rfl, hs_r, hr_r⟩ (by omega)) fun _ _ _ _ h => h)) <| .consT rfl rfl (fun _ => rfl) rfl (ZL 31 rfl rfl rfl fun y31 => zm rfl rfl rfl sizeOf43 rfl rfl rfl) <| .nil) fun a4 w4 m4 hst4 hle4 hk4 => ?_
  have hfr4 := hk4.fr (.o 4 <| .nil)
  replace hst4 := hst4.fin (L' := [_, _, _]) (.cons rfl <| .nil)
  try simp only [List.take_succ_cons, List.take_zero, List.drop_succ_cons, List.drop_zero, List.cons_append, List.nil_append, List.append_nil, List.length_cons, List.length_nil, Nat.zero_add, Nat.reduceAdd] at hst4
  obtain ⟨⟨oq, cq⟩, hout, hst4⟩ := hst4.unx (k := 1) rfl (fun _ => rfl)
  clear hst3 hfr3 hk4
  refine hK14 _ _ ?_
  refine zU ?_
  repeat (with_reducible first | refine zL ?_ | refine zI ?_)
  exact zV hst4 hfr4 rfl (.cell rfl (ZO (ZJ (hst4.loc.at_ (k := 1) rfl)) isAgg43 sizeOf43) <| .nil) (⟨(oq, cq), by rw [heq]; rfl, by rw [heq]; exact hout⟩)
theorem zAF {m : Mem} {r : Rw} {y : Option Addr × Nat} (h : RwR m r (rwV r y)) : Strs m y.1 r.labels.length y.2 r.labels ∧ Zg r.var := by
 obtain ⟨o, c, e, h1, h2⟩ := h
 injection e with e1 e2; injection e1 with e1 _ e3; subst e1; subst e3; exact ⟨h1, h2⟩
abbrev apply_G (t : Ty) : Prop := ∀ {w : World} {m : Mem} {s : Sub} {vs_s : List Value} {vs_t : List Value} (hA : Agree w m) (h_s : SubR m s vs_s) (h_t : TyR m t vs_t) (hw : SubW 400000000 s) (hb : wdT t ≤ 400000000), FnV Tryz.prog 17 #[.agg vs_s.toArray, .agg vs_t.toArray] w m (fun _ m v => (MP.ty (zM s t)).p m v)
set_option maxHeartbeats 3200000 in
theorem apply_s {t : Ty} (ih : ∀ u ∈ t.args, apply_G u) {w : World} {m : Mem} {s : Sub} {vs_s : List Value} {vs_t : List Value} (hA : Agree w m) (h_s : SubR m s vs_s) (h_t : TyR m t vs_t) (hw : SubW 400000000 s) (hb : wdT t ≤ 400000000) : FnV Tryz.prog 17 #[.agg vs_s.toArray, .agg vs_t.toArray] w m (fun _ m v => (MP.ty (zM s t)).p m v) := by
 obtain ⟨oT_s, oR_s, rfl, hst_s, hsr_s⟩ := id h_s
 obtain ⟨o_t, c_t, oL_t, cL_t, rfl, hk_t, hs_t, hi_t, hj_t, hr_t⟩ := h_t.open_
 have hbg_t := hk_t.big; have hcp_t := hk_t.cap; have hbs_t := hs_t.big; have hcs_t := hs_t.cap
 have hrw_t : RwR _ ⟨t.labels, t.rv⟩ _ := ⟨_, _, rfl, hs_t, hr_t⟩
 refine zY (vs := [_, _]) func17 rfl rfl rfl fun a0 hfr0 => ?_
 have hst0 := zX hA (zw [] _ w m)
 have hM : MLe m m := MLe.refl m
 have hbk := fun u (hu : u ∈ t.args) => zAT hu
 have hbe := zAt t
 have hxw := hw.look t.var
 refine zE fun _ hK1 => ?_
 replace hst0 := hst0.more (r := .free) trivial List.nodup_nil (by simp [Res.blocks])
 replace hst0 := hst0.more (r := .free) trivial List.nodup_nil (by simp [Res.blocks])
 refine ra0 (tch := [(1, 0, (fun v => .blk v _)), (2, 1, (fun v => .blk v _))]) hst0 hfr0 (.cons rfl (ZA rfl rfl) <| .consT rfl rfl (fun _ => rfl) rfl (zAR rfl rfl) <| .consT rfl rfl (fun _ => rfl) rfl (zj zeroValue45 rfl) <| .nil) fun a1 w1 m1 hst1 hle1 hk1 => ?_
 have hfr1 := hk1.fr (.nil)
 obtain ⟨g2, e2, hc2⟩ := hk1.ex 2 rfl
 replace hfr1 := hfr1.cons e2
 obtain ⟨gB, e3, _⟩ := hk1.ex 3 rfl
 replace hfr1 := hfr1.cons e3
 obtain ⟨gT, e4, _⟩ := hk1.ex 4 rfl
 replace hfr1 := hfr1.cons e4
 replace hst1 := hst1.fin (L' := [_, _]) (.cons e3 <| .cons e4 <| .nil)
 replace h_s := h_s.mono hle1
 replace hst_s := hst_s.mono hle1
 replace hsr_s := hsr_s.mono hle1
 replace h_t := h_t.mono hle1
 replace hk_t := hk_t.mono hle1
 replace hs_t := hs_t.mono hle1
 replace hrw_t := hrw_t.mono hle1
 replace hM := hM.trans hle1
 clear hst0 hfr0 hk1
 refine hK1 _ _ ?_
 refine zE fun _ hK5 => ?_
 refine zE fun _ hK6 => ?_
 refine rp0 hst1 hfr1 (.cons rfl (zF (off := 0) rfl underlying45 rfl rfl sizeOf3 rfl) <| .cons rfl (zW (j := 0) rfl rfl isAgg3 rfl) <| .cons rfl (zq rfl rfl) <| .nil) fun a2 w2 m2 hst2 hle2 hk2 => ?_
 have hfr2 := hk2.fr (.o 2 <| .o 3 <| .o 4 <| .n 10 <| .nil)
 replace h_s := h_s.mono hle2
 replace hst_s := hst_s.mono hle2
 replace hsr_s := hsr_s.mono hle2
 replace h_t := h_t.mono hle2
 replace hk_t := hk_t.mono hle2
 replace hs_t := hs_t.mono hle2
 replace hrw_t := hrw_t.mono hle2
 replace hc2 := hc2.mono hle2
 replace hM := hM.trans hle2
 clear hst1 hfr1 hk2
 refine hK6 _ _ ?_
 refine zJ hfr2 rfl rfl (fun hb10 => ?_) (fun hb10 => ?_)
 ·try simp only [nqs] at hb10
  refine zE fun _ hK7 => ?_
  refine zE fun _ hK8 => ?_
  obtain ⟨vs9, x9, b9, hlk9, hb9_, hx9_, hv9⟩ := hst_s.look (t.var) zGS
  obtain ⟨o9, c9, oL9, cL9, rfl, hkd9, hs9, hi9, hj9, hr9⟩ := hv9.open_
  have hbg9 := hkd9.big; have hcp9 := hkd9.cap; have hbs9 := hs9.big; have hcs9 := hs9.cap
  have hrw9 : RwR _ ⟨x9.labels, x9.rv⟩ _ := ⟨_, _, rfl, hs9, hr9⟩
  replace hst2 := hst2.more (r := .free) trivial List.nodup_nil (by simp [Res.blocks])
  refine ra0 (tch := [(8, 2, (fun v => .blk v _)), (9, 2, (fun v => .blk v _))]) hst2 hfr2 (.cons rfl (zF (off := 0) rfl underlying29 rfl rfl sizeOf25 rfl) <| .cons rfl (zK rfl hc2 isAgg25 rfl) <| .cons rfl (zF (off := 2) rfl underlying45 rfl rfl sizeOf3 rfl) <| .cons rfl (zW (j := 0) rfl rfl isAgg3 rfl) <| .cons rfl (zDE zDe rfl rfl (fun w m hK => hlk9.mono (KC.le hK)) underlying25 underlying3 zeroValue45) <| .cons rfl (zG rfl) <| .cons rfl (zk rfl rfl) <| .cons rfl (zk rfl rfl) <| .consT rfl rfl (fun _ => rfl) rfl (zj zeroValue45 rfl) <| .consT rfl rfl (fun _ => rfl) rfl (ze 5 rfl rfl rfl fun y5 => ZD rfl rfl rfl rfl rfl sizeOf45 rfl rfl rfl) <| .cons rfl (zH rfl) <| .nil) fun a3 w3 m3 hst3 hle3 hk3 => ?_
  have hfr3 := hk3.fr (.o 3 <| .o 4 <| .n 6 <| .nil)
  obtain ⟨g10, e10, _⟩ := hk3.ex 5 rfl
  replace hfr3 := hfr3.cons e10
  replace hst3 := hst3.fin (L' := [_, _, _]) (.cons e10 <| .cons e10 <| .nil)
  try simp only [List.take_succ_cons, List.take_zero, List.drop_succ_cons, List.drop_zero, List.cons_append, List.nil_append, List.append_nil, List.length_cons, List.length_nil, Nat.zero_add, Nat.reduceAdd] at hst3
  clear hst2 hfr2 hk3
  rw [← hx9_] at hxw
  refine hK8 _ _ ?_
  refine zE fun _ hK11 => ?_
  refine rp0 hst3 hfr3 (.cons rfl (zG rfl) <| .nil) fun a4 w4 m4 hst4 hle4 hk4 => ?_
  have hfr4 := hk4.fr (.o 3 <| .o 4 <| .o 5 <| .n 19 <| .nil)
  clear hst3 hfr3 hk4
  refine hK11 _ _ ?_
  refine zJ hfr4 rfl rfl (fun hb19 => ?_) (fun hb19 => ?_)
  ·try simp only [nqs] at hb19
   refine zE fun _ hK12 => ?_
   have zq1 := hle3.trans hle4
   replace hv9 := hv9.mono zq1
   refine ra0 (tch := [(2, 1, (fun _ => .blkx _ _ _))]) hst4 hfr4 (.cons rfl (zh (j := 2) rfl rfl isAgg45 sizeOf45 rfl) <| .cons rfl (zZ (φ := MP.ty (x9)) rfl (.cons rfl <| .nil) call41 (fun w m hK => by have hle_ := KC.le hK; have hA := KC.agree hK; have hv9 := hv9.mono hle_; exact FnG.mono (zDo (x9) hA hv9 (by omega)) fun _ _ _ _ h => h)) <| .consT rfl rfl (fun _ => rfl) rfl (ZL 21 rfl rfl rfl fun y21 => zm rfl rfl rfl sizeOf45 rfl rfl rfl) <| .nil) fun a5 w5 m5 hst5 hle5 hk5 => ?_
   have hfr5 := hk5.fr (.o 4 <| .nil)
   replace hst5 := hst5.fin (L' := [_, _, _]) (.cons rfl <| .nil)
   try simp only [List.take_succ_cons, List.take_zero, List.drop_succ_cons, List.drop_zero, List.cons_append, List.nil_append, List.append_nil, List.length_cons, List.length_nil, Nat.zero_add, Nat.reduceAdd] at hst5
   obtain ⟨⟨⟨oa, ca⟩, ol, cl⟩, hcv, hst5⟩ := hst5.unx (k := 1) rfl (fun _ => rfl)
   clear hst4 hfr4 hk5
   have heq : zM s t = x9 := by rw [ZP hb10, hx9_]; exact zFa (by rw [← hb9_]; exact hb19)
   refine hK12 _ _ ?_
   refine zU ?_
   repeat (with_reducible first | refine zL ?_ | refine zI ?_)
   exact zV hst5 hfr5 rfl (.cell rfl (ZO (ZJ (hst5.loc.at_ (k := 1) rfl)) isAgg45 sizeOf45) <| .nil) (⟨((oa, ca), (ol, cl)), by rw [heq]; rfl, by rw [heq]; exact hcv⟩)
  ·try simp only [nqs] at hb19
   refine zR ?_
   refine hK7 _ _ ?_
   refine zE fun _ hK15 => ?_
   have zq2 := hle3.trans hle4
   replace h_t := h_t.mono zq2
   refine ra0 (tch := [(2, 1, (fun _ => .blkx _ _ _))]) hst4 hfr4 (.cons rfl (zh (j := 0) rfl rfl isAgg45 sizeOf45 rfl) <| .cons rfl (zZ (φ := MP.ty (t)) rfl (.cons rfl <| .nil) call41 (fun w m hK => by have hle_ := KC.le hK; have hA := KC.agree hK; have h_t := h_t.mono hle_; exact FnG.mono (zDo (t) hA h_t (by omega)) fun _ _ _ _ h => h)) <| .consT rfl rfl (fun _ => rfl) rfl (ZL 23 rfl rfl rfl fun y23 => zm rfl rfl rfl sizeOf45 rfl rfl rfl) <| .nil) fun a5 w5 m5 hst5 hle5 hk5 => ?_
   have hfr5 := hk5.fr (.o 4 <| .nil)
   replace hst5 := hst5.fin (L' := [_, _, _]) (.cons rfl <| .nil)
   try simp only [List.take_succ_cons, List.take_zero, List.drop_succ_cons, List.drop_zero, List.cons_append, List.nil_append, List.append_nil, List.length_cons, List.length_nil, Nat.zero_add, Nat.reduceAdd] at hst5
   obtain ⟨⟨⟨oa, ca⟩, ol, cl⟩, hcv, hst5⟩ := hst5.unx (k := 1) rfl (fun _ => rfl)
   clear hst4 hfr4 hk5
   have heq : zM s t = t := by rw [ZP hb10]; cases hq : zP t.var s.ts with | none => rfl | some z => (rw [hq] at hb9_; rw [hb9_] at hb19; cases hb19)
   refine hK15 _ _ ?_
   refine zU ?_
   repeat (with_reducible first | refine zL ?_ | refine zI ?_)
   exact zV hst5 hfr5 rfl (.cell rfl (ZO (ZJ (hst5.loc.at_ (k := 1) rfl)) isAgg45 sizeOf45) <| .nil) (⟨((oa, ca), (ol, cl)), by rw [heq]; rfl, by rw [heq]; exact hcv⟩)
 ·try simp only [nqs] at hb10
  refine zR ?_
  refine hK5 _ _ ?_
  refine zE fun _ hK18 => ?_
  refine ZE 2 (by kernel_rfl) ?_
  replace hst2 := hst2.more (r := .free) trivial List.nodup_nil (by simp [Res.blocks])
  refine ZN (tch := [(1, 2, (fun v => .mrowx (argsV v) t.args.length 6 45 (MP.reads (fun m vs t => TyR m t vs) 6 t.args)))]) hst2 hfr2 (by kernel_rfl) (by kernel_rfl) (by kernel_rfl) (.cons rfl (zh (j := 0) rfl rfl isAgg45 sizeOf45 rfl) <| .consT rfl rfl (fun _ => rfl) rfl (ZV rfl (.cons rfl <| .nil) call41 (κ := .ex (MP.tyA t)) (fun σ w m hK hr hkn => by have hle_ := KC.le hK; have hA := KC.agree hK; have hM := hM.trans hle_; have h_s := h_s.mono hle_; have hst_s := hst_s.mono hle_; have hsr_s := hsr_s.mono hle_; have h_t := h_t.mono hle_; have hk_t := hk_t.mono hle_; have hs_t := hs_t.mono hle_; have hrw_t := hrw_t.mono hle_; have hc2 := hc2.mono hle_; exact copiedO_t hA h_t (by omega))) <| .nil) fun a3 w3 m3 hst3 hle3 hk3 => ?_
  have hfr3 := hk3.fr (.o 2 <| .o 3 <| .o 4 <| .nil)
  obtain ⟨⟨⟨oK, cK⟩, oL, cL⟩, e19, hcK, hLL⟩ := hk3.ex 25 rfl
  replace hfr3 := hfr3.cons e19
  replace hst3 := hst3.fin (L' := [_, _, _]) (.cons e19 <| .nil)
  clear hst2 hfr2 hk3
  dsimp only [MP.tyA, MP.mem, tyV] at hfr3 hLL
  refine ZN (tch := [(0, 0, (fun _ => .blk _ _))]) hst3 hfr3 (by kernel_rfl) (by kernel_rfl) (by kernel_rfl) (.consT rfl rfl (fun _ => rfl) rfl (zm rfl rfl rfl sizeOf45 rfl rfl rfl) <| .nil) fun a4 w4 m4 hst4 hle4 hk4 => ?_
  have hfr4 := hk4.fr (.o 2 <| .o 3 <| .o 4 <| .o 25 <| .nil)
  replace hst4 := hst4.fin (L' := [_, _, _]) (.cons rfl <| .nil)
  try simp only [List.take_succ_cons, List.take_zero, List.drop_succ_cons, List.drop_zero, List.cons_append, List.nil_append, List.append_nil, List.length_cons, List.length_nil, Nat.zero_add, Nat.reduceAdd] at hst4
  clear hst3 hfr3 hk4
  refine hK18 _ _ ?_
  refine zE fun _ hK20 => ?_
  refine zE fun _ hK21 => ?_
  refine rp0 hst4 hfr4 (.cons rfl (zF (off := 3) rfl underlying45 rfl rfl sizeOf33 rfl) <| .cons rfl (zW (j := 0) rfl rfl isAgg33 rfl) <| .cons rfl (zt rfl underlying33) <| .cons rfl (zG rfl) <| .nil) fun a5 w5 m5 hst5 hle5 hk5 => ?_
  have hfr5 := hk5.fr (.o 2 <| .o 3 <| .o 4 <| .n 28 <| .n 29 <| .nil)
  clear hst4 hfr4 hk5
  refine hK21 _ _ ?_
  refine zT ?_
  refine z6 (T := [(2, _), (3, _), (4, _), (28, _)]) (fun (y : Nat × List Ty) => ([(29, .int .i64 (y.1 : Int))] : List (Nat × Value))) (fun y => [_, _, .mrowx (.slice oK t.args.length cK) t.args.length 6 45 (MP.reads (fun m vs t => TyR m t vs) 6 (y.2 ++ t.args.drop y.1))]) (fun (y : Nat × List Ty) m => (fun (y : Nat) (dk : List Ty) => (y ≤ t.args.length) ∧ (dk.length = y) ∧ (zo s t.args = dk ++ zo s (t.args.drop y))) y.1 y.2) (fun y => t.args.length - y.1) ((0, [])) ⟨hst5, MLe.refl _, hfr5.sub (.c <| .c <| .c <| .c <| .c <| .nil), ⟨Nat.zero_le _, rfl, rfl⟩⟩ fun y a6 w6 m6 hh6 => ?_
  have hst6 := hh6.st; have hle6 := hh6.le; have hfr6 := hh6.fr; have hrel := hh6.rel; clear hh6
  clear hst5 hfr5
  obtain ⟨y, dk⟩ := y
  dsimp only at hrel hfr6 hst6
  obtain ⟨hyn, hjl, hj1⟩ := hrel
  have hlh6 := hle6
  refine zE fun _ hK23 => ?_
  refine rp0 hst6 hfr6 (.cons rfl (ZG rfl rfl) <| .nil) fun a7 w7 m7 hst7 hle7 hk7 => ?_
  have hfr7 := hk7.fr (.o 29 <| .o 2 <| .o 3 <| .o 4 <| .o 28 <| .n 30 <| .nil)
  clear hst6 hfr6 hk7
  refine hK23 _ _ ?_
  refine zE fun _ hK24 => ?_
  refine zJ hfr7 rfl rfl (fun hb30 => ?_) (fun hb30 => ?_)
  ·try simp only [nqs] at hb30
   refine zR ?_
   refine hK24 _ _ ?_
   refine zE fun _ hK25 => ?_
   refine zT ?_
   refine zE fun _ hK26 => ?_
   refine rp0 hst7 hfr7 (.cons rfl (zG rfl) <| .cons rfl (zH rfl) <| .nil) fun a8 w8 m8 hst8 hle8 hk8 => ?_
   have hfr8 := hk8.fr (.o 29 <| .o 2 <| .o 3 <| .o 4 <| .o 28 <| .n 7 <| .nil)
   clear hst7 hfr7 hk8
   refine hK26 _ _ ?_
   obtain ⟨x9, hx9, hd9⟩ : ∃ x, t.args[y]? = some x ∧ t.args.drop y = x :: t.args.drop (y + 1) := ⟨t.args[y]'(by omega), List.getElem?_eq_getElem (by omega), List.drop_eq_getElem_cons (by omega)⟩
   have hm9 : x9 ∈ t.args := List.mem_of_getElem? hx9
   have hbx9 := hbk x9 hm9
   rw [hd9] at hst8
   rw [hd9, zo] at hj1
   have hga9 : (dk ++ x9 :: t.args.drop (y + 1))[y]? = some x9 := get_midY hjl
   obtain ⟨gK, hgK⟩ := MP.made_some (hst8.loc.at_ (k := 2) rfl) (by omega)
   subst hgK
   have zq3 := hle7.trans hle8
   have zq4 := hle6.trans zq3
   have zq5 := hle5.trans zq4
   have zq6 := hle4.trans zq5
   have zq7 := hle3.trans zq6
   replace h_s := h_s.mono zq7
   replace hc2 := hc2.mono zq7
   refine zn (tch := [(11, 2, (fun _ => .mrowx _ _ _ _ _))]) (fun _ => mixed) hst8 hfr8 (by kernel_rfl) (by kernel_rfl) (by kernel_rfl) (.cons rfl (zF (off := 3) rfl underlying45 rfl rfl sizeOf33 rfl) <| .cons rfl (zW (j := 0) rfl rfl isAgg33 rfl) <| .cons rfl (zG rfl) <| .cons rfl (zS rfl hc2 isAgg29 sizeOf29 rfl rfl) <| .cons rfl (zF (off := 3) rfl underlying45 rfl rfl sizeOf33 rfl) <| .cons rfl (zW (j := 0) rfl rfl isAgg33 rfl) <| .cons rfl (zG rfl) <| .cons rfl (zN (k := y) rfl rfl underlying33 sizeOf45 rfl (by omega)) <| .cons rfl (zFT (R := (fun m vs t => TyR m t vs)) (i := y) (j := 2) (l := dk ++ x9 :: t.args.drop (y + 1)) rfl rfl isAgg45 sizeOf45 hga9 (by decide)) <| .cons rfl (ZI 40 rfl rfl rfl fun y40 => zZ (φ := MP.ty (zM s x9)) rfl (.cons rfl <| .cons rfl <| .nil) call17 (fun w m hK => by have hle_ := KC.le hK; have hA := KC.agree hK; have hr0_ := hK.2; have h_s := h_s.mono hle_; exact FnG.mono (ih _ hm9 hA h_s hr0_ hw (by omega)) fun _ _ _ _ h => h)) <| .cons rfl (zN (k := y) rfl rfl underlying33 sizeOf45 rfl (by omega)) <| .consT rfl rfl (fun _ => rfl) rfl (ze 41 rfl rfl rfl fun y41 => zEL (R := (fun m vs t => TyR m t vs)) (i := y) (off := 0) (l := dk ++ x9 :: t.args.drop (y + 1)) (b := zM s x9) (ws := tyV (zM s x9) y41) rfl rfl rfl sizeOf45 hga9 (by decide) (by show 0 + 6 ≤ 6; omega) (fun w m hK vs hv _ => by rw [zDF hv]; exact hK.2) (fun w m hK => hK.2.one)) <| .nil) fun a9 w9 m9 hst9 hle9 hk9 => ?_
   have hfr9 := hk9.fr (.o 29 <| .o 2 <| .o 3 <| .o 4 <| .o 28 <| .nil)
   replace hst9 := hst9.fin (L' := [_, _, _]) (.cons rfl <| .nil)
   try simp only [List.take_succ_cons, List.take_zero, List.drop_succ_cons, List.drop_zero, List.cons_append, List.nil_append, List.append_nil, List.length_cons, List.length_nil, Nat.zero_add, Nat.reduceAdd] at hst9
   clear hst8 hfr8 hk9
   rw [set_midY hjl] at hst9
   refine hK25 _ _ ?_
   refine rp0 hst9 hfr9 (.cons rfl (zy rfl rfl ⟨by omega, by omega⟩) <| .cons rfl (zG rfl) <| .nil) fun a10 w10 m10 hst10 hle10 hk10 => ?_
   have hfr10 := hk10.fr (.o 2 <| .o 3 <| .o 4 <| .o 28 <| .n 29 <| .nil)
   clear hst9 hfr9 hk10
   have zq8 := hle9.trans hle10
   have zq9 := zq3.trans zq8
   have hlh10 := hlh6.trans zq9
   exact ⟨(y + 1, (dk ++ [zM s x9])), m10, by show t.args.length - (y + 1) < t.args.length - y; omega, ⟨hst10, hlh10, hfr10.sub (.c <| .c <| .c <| .c <| .c <| .nil), ⟨by show y + 1 ≤ t.args.length; omega, by show (dk ++ [_]).length = y + 1; rw [List.length_append, hjl]; rfl, by rw [hj1]; simp⟩⟩⟩
  ·try simp only [nqs] at hb30
   have hge : y = t.args.length := by omega
   rw [List.drop_of_length_le (by omega), zo, List.append_nil] at hj1
   rw [List.drop_of_length_le (by omega), List.append_nil] at hst7
   have hdl : dk.length = t.args.length := hjl.trans hge
   refine z7 ?_
   refine hK20 _ _ ?_
   refine zE fun _ hK27 => ?_
   refine zE fun _ hK28 => ?_
   refine rp0 hst7 hfr7 (.cons rfl (zF (off := 0) rfl underlying45 rfl rfl sizeOf3 rfl) <| .cons rfl (zW (j := 0) rfl rfl isAgg3 rfl) <| .cons rfl (zq rfl rfl) <| .nil) fun a8 w8 m8 hst8 hle8 hk8 => ?_
   have hfr8 := hk8.fr (.o 29 <| .o 2 <| .o 3 <| .o 4 <| .n 46 <| .nil)
   clear hst7 hfr7 hk8
   refine hK28 _ _ ?_
   refine zJ hfr8 rfl rfl (fun hb46 => ?_) (fun hb46 => ?_)
   ·try simp only [nqs] at hb46
    refine ZE 4 (by kernel_rfl) ?_
    have zq10 := hle7.trans hle8
    have zq11 := hle6.trans zq10
    have zq12 := hle5.trans zq11
    have zq13 := hle4.trans zq12
    have zq14 := hle3.trans zq13
    replace h_s := h_s.mono zq14
    replace hc2 := hc2.mono zq14
    replace hLL := hLL.mono zq13
    refine ZN (tch := []) hst8 hfr8 (by kernel_rfl) (by kernel_rfl) (by kernel_rfl) (.cons rfl (zS rfl hc2 isAgg29 sizeOf29 rfl rfl) <| .cons rfl (zF (off := 4) rfl underlying45 rfl rfl sizeOf43 rfl) <| .cons rfl (Za (j := 0) rfl rfl isAgg43 sizeOf43 rfl rfl) <| .cons rfl (zZ (φ := MP.rw (zQ s ⟨t.labels, t.rv⟩)) rfl (.cons rfl <| .cons rfl <| .nil) call21 (fun w m hK => by have hle_ := KC.le hK; have hA := KC.agree hK; have h_s := h_s.mono hle_; have hLL := hLL.mono hle_; exact FnG.mono (zFx (r := ⟨t.labels, t.rv⟩) hA h_s ⟨_, _, rfl, hLL, hr_t⟩ hw (by show t.labels.length ≤ _; omega)) fun _ _ _ _ h => h)) <| .nil) fun a9 w9 m9 hst9 hle9 hk9 => ?_
    have hfr9 := hk9.fr (.o 29 <| .o 2 <| .o 3 <| .o 4 <| .nil)
    obtain ⟨⟨oR9, cR9⟩, e29, hRR⟩ := hk9.ex 50 rfl
    replace hfr9 := hfr9.cons e29
    clear hst8 hfr8 hk9
    dsimp only [MP.rw, MP.mem, rwV] at hfr9
    have hRS := (zAF hRR).1
    have hRI := (zAF hRR).2
    refine ZN (tch := [(1, 0, (fun _ => .blk _ _))]) hst9 hfr9 (by kernel_rfl) (by kernel_rfl) (by kernel_rfl) (.cons rfl (zF (off := 4) rfl underlying45 rfl rfl sizeOf43 rfl) <| .consT rfl rfl (fun _ => rfl) rfl (zAH rfl rfl rfl sizeOf43 rfl rfl rfl) <| .nil) fun a10 w10 m10 hst10 hle10 hk10 => ?_
    have hfr10 := hk10.fr (.o 29 <| .o 2 <| .o 3 <| .o 4 <| .o 50 <| .nil)
    replace hst10 := hst10.fin (L' := [_, _, _]) (.cons rfl <| .nil)
    try simp only [List.take_succ_cons, List.take_zero, List.drop_succ_cons, List.drop_zero, List.cons_append, List.nil_append, List.append_nil, List.length_cons, List.length_nil, Nat.zero_add, Nat.reduceAdd] at hst10
    clear hst9 hfr9 hk10
    obtain ⟨m11, hle11, hst11, oX_K, cX_K, eX_K, hsl_K⟩ := hst10.freezeX (k := 2) rfl (hdl) (by decide) (by omega)
    simp only [List.set_cons_succ, List.set_cons_zero] at hst11
    injection eX_K with eX1_K _ eX2_K; subst eX1_K; subst eX2_K
    have hfr11 := hfr10; obtain ⟨a11, rfl⟩ : ∃ a, a = a10 := ⟨_, rfl⟩; obtain ⟨w11, rfl⟩ : ∃ w, w = w10 := ⟨_, rfl⟩
    clear hst10 hfr10
    replace hsl_K : Tys m11 oK t.args.length cK dk := hsl_K
    have zq15 := hle10.trans hle11
    replace hRS := hRS.mono zq15
    have h9 := TyR.build (k := t.kind) (s := t.name) (v := t.var) (ks := dk) (ls := (zQ s ⟨t.labels, t.rv⟩).labels) (r := (zQ s ⟨t.labels, t.rv⟩).var) (by rw [hdl]; exact hsl_K) hRS hi_t hj_t hRI
    rw [hdl] at h9
    have hfe : zM s t = ⟨t.kind, t.name, t.var, dk, (zQ s ⟨t.labels, t.rv⟩).labels, (zQ s ⟨t.labels, t.rv⟩).var⟩ := by rw [Zb hb10, if_pos hb46, if_pos hb46, hj1]
    rw [← hfe] at h9
    have htv : tyV (zM s t) ((oK, cK), (oR9, cR9)) = [.int .i64 t.kind, S t.name, .int .i64 t.var, .slice oK t.args.length cK, .slice oR9 ((zQ s ⟨t.labels, t.rv⟩).labels).length cR9, .int .i64 ((zQ s ⟨t.labels, t.rv⟩).var)] := by rw [hfe]; simp only [tyV, Ty.kind, Ty.name, Ty.var, Ty.args, Ty.labels, Ty.rv, hdl]
    refine hK27 _ _ ?_
    refine zE fun _ hK30 => ?_
    refine ra0 (tch := [(1, 1, (fun _ => .blk _ _))]) hst11 hfr11 (.cons rfl (zh (j := 0) rfl rfl isAgg45 sizeOf45 rfl) <| .consT rfl rfl (fun _ => rfl) rfl (zm rfl rfl rfl sizeOf45 rfl rfl h9.one) <| .nil) fun a12 w12 m12 hst12 hle12 hk12 => ?_
    have hfr12 := hk12.fr (.o 29 <| .o 4 <| .nil)
    replace hst12 := hst12.fin (L' := [_, _, _]) (.cons rfl <| .nil)
    try simp only [List.take_succ_cons, List.take_zero, List.drop_succ_cons, List.drop_zero, List.cons_append, List.nil_append, List.append_nil, List.length_cons, List.length_nil, Nat.zero_add, Nat.reduceAdd] at hst12
    clear hst11 hfr11 hk12
    refine hK30 _ _ ?_
    refine zU ?_
    repeat (with_reducible first | refine zL ?_ | refine zI ?_)
    replace h9 := h9.mono hle12
    exact zV hst12 hfr12 rfl (.cell rfl (ZO (ZJ (hst12.loc.at_ (k := 1) rfl)) isAgg45 sizeOf45) <| .nil) (⟨((oK, cK), (oR9, cR9)), congrArg (fun l : List Value => Value.agg l.toArray) htv.symm, by show TyR _ _ (tyV (zM s t) ((oK, cK), (oR9, cR9))); rw [htv]; exact h9⟩)
   ·try simp only [nqs] at hb46
    obtain ⟨m9, hle9, hst9, oX_K, cX_K, eX_K, hsl_K⟩ := hst8.freezeX (k := 2) rfl (hdl) (by decide) (by omega)
    simp only [List.set_cons_succ, List.set_cons_zero] at hst9
    injection eX_K with eX1_K _ eX2_K; subst eX1_K; subst eX2_K
    have hfr9 := hfr8; obtain ⟨a9, rfl⟩ : ∃ a, a = a8 := ⟨_, rfl⟩; obtain ⟨w9, rfl⟩ : ∃ w, w = w8 := ⟨_, rfl⟩
    clear hst8 hfr8
    replace hsl_K : Tys m9 oK t.args.length cK dk := hsl_K
    have zq16 := hle8.trans hle9
    have zq17 := hle7.trans zq16
    have zq18 := hle6.trans zq17
    have zq19 := hle5.trans zq18
    have zq20 := hle4.trans zq19
    replace hLL := hLL.mono zq20
    have h9 := TyR.build (k := t.kind) (s := t.name) (v := t.var) (ks := dk) (ls := t.labels) (r := t.rv) (by rw [hdl]; exact hsl_K) hLL hi_t hj_t hr_t
    rw [hdl] at h9
    have hfe : zM s t = ⟨t.kind, t.name, t.var, dk, t.labels, t.rv⟩ := by rw [Zb hb10, if_neg hb46, if_neg hb46, hj1]
    rw [← hfe] at h9
    have htv : tyV (zM s t) ((oK, cK), (oL, cL)) = [.int .i64 t.kind, S t.name, .int .i64 t.var, .slice oK t.args.length cK, .slice oL (t.labels).length cL, .int .i64 (t.rv)] := by rw [hfe]; simp only [tyV, Ty.kind, Ty.name, Ty.var, Ty.args, Ty.labels, Ty.rv, hdl]
    refine zR ?_
    refine hK27 _ _ ?_
    refine zE fun _ hK32 => ?_
    refine ra0 (tch := [(1, 1, (fun _ => .blk _ _))]) hst9 hfr9 (.cons rfl (zh (j := 0) rfl rfl isAgg45 sizeOf45 rfl) <| .consT rfl rfl (fun _ => rfl) rfl (zm rfl rfl rfl sizeOf45 rfl rfl h9.one) <| .nil) fun a10 w10 m10 hst10 hle10 hk10 => ?_
    have hfr10 := hk10.fr (.o 29 <| .o 4 <| .nil)
    replace hst10 := hst10.fin (L' := [_, _, _]) (.cons rfl <| .nil)
    try simp only [List.take_succ_cons, List.take_zero, List.drop_succ_cons, List.drop_zero, List.cons_append, List.nil_append, List.append_nil, List.length_cons, List.length_nil, Nat.zero_add, Nat.reduceAdd] at hst10
    clear hst9 hfr9 hk10
    refine hK32 _ _ ?_
    refine zU ?_
    repeat (with_reducible first | refine zL ?_ | refine zI ?_)
    replace h9 := h9.mono hle10
    exact zV hst10 hfr10 rfl (.cell rfl (ZO (ZJ (hst10.loc.at_ (k := 1) rfl)) isAgg45 sizeOf45) <| .nil) (⟨((oK, cK), (oL, cL)), congrArg (fun l : List Value => Value.agg l.toArray) htv.symm, by show TyR _ _ (tyV (zM s t) ((oK, cK), (oL, cL))); rw [htv]; exact h9⟩)
theorem apply_c (t : Ty) : apply_G t := Ty.rec_ (p := apply_G) (fun t ih => apply_s ih) t
end Go.Proofs.YtlidonjpgigocaaGreat
namespace Go.Proofs.YtlidonjpgigocaaGreat
open Go.Proofs.Tryz
set_option linter.all false
set_option maxRecDepth 4000
open Go.RowKit
theorem Ints.of_rowI {m : Mem} {o : Option Addr} {c : Nat} {a : List Int} (h : RowAt m o (a.map zAE)) (hc : a.length ≤ c) (hm : c ≤ maxLen) : Ints m o a.length c a := Ints.of_row h rfl hc (by simp only [maxLen] at hm; omega)
set_option maxHeartbeats 400000 in
theorem indexS_c {w : World} {m : Mem} {o_l : Option Addr} {c_l : Nat} {l : List Str} {s : Str} (hA : Agree w m) (h_l : Strs m o_l l.length c_l l) : FnV Tryz.prog 92 #[.slice o_l l.length c_l, S s] w m (fun _ _ v => v = .int .i64 (zBO 0 l s)) := by
 have hb_l := h_l.big; have hc_l := h_l.cap
 refine zY (vs := [_, _]) func92 rfl rfl rfl fun a0 hfr0 => ?_
 have hst0 := zX hA (zw [] _ w m)
 have hM : MLe m m := MLe.refl m
 refine zE fun _ hK1 => ?_
 refine rp0 hst0 hfr0 (.cons rfl (zH rfl) <| .nil) fun a1 w1 m1 hst1 hle1 hk1 => ?_
 have hfr1 := hk1.fr (.o 0 <| .o 1 <| .nil)
 replace h_l := h_l.mono hle1
 clear hst0 hfr0 hk1
 refine hK1 _ _ ?_
 refine zE fun _ hK2 => ?_
 refine zE fun _ hK3 => ?_
 refine rp0 hst1 hfr1 (.cons rfl (zG rfl) <| .cons rfl (zt rfl underlying41) <| .cons rfl (zG rfl) <| .nil) fun a2 w2 m2 hst2 hle2 hk2 => ?_
 have hfr2 := hk2.fr (.o 0 <| .o 1 <| .n 7 <| .n 8 <| .nil)
 replace h_l := h_l.mono hle2
 clear hst1 hfr1 hk2
 refine hK3 _ _ ?_
 refine zT ?_
 refine z6 (T := [(0, _), (1, _), (7, _)]) (fun (y : Nat) => ([(8, .int .i64 (y : Int))] : List (Nat × Value))) (fun _ => _) (fun (y : Nat) m => (y ≤ l.length) ∧ (zBO 0 l s = zBO y (l.drop y) s)) (fun y => l.length - y) (0) ⟨hst2, MLe.refl _, hfr2.sub (.c <| .c <| .c <| .c <| .nil), ⟨Nat.zero_le _, rfl⟩⟩ fun y a3 w3 m3 hh3 => ?_
 have hst3 := hh3.st; have hle3 := hh3.le; have hfr3 := hh3.fr; have hrel := hh3.rel; clear hh3
 replace h_l := h_l.mono hle3
 clear hst2 hfr2
 obtain ⟨hyn, hrem⟩ := hrel
 have hlh3 := hle3
 refine zE fun _ hK5 => ?_
 refine rp0 hst3 hfr3 (.cons rfl (ZG rfl rfl) <| .nil) fun a4 w4 m4 hst4 hle4 hk4 => ?_
 have hfr4 := hk4.fr (.o 8 <| .o 0 <| .o 1 <| .o 7 <| .n 9 <| .nil)
 replace h_l := h_l.mono hle4
 have hlh4 := hlh3.trans hle4
 clear hst3 hfr3 hk4
 refine hK5 _ _ ?_
 refine zE fun _ hK6 => ?_
 refine zJ hfr4 rfl rfl (fun hb9 => ?_) (fun hb9 => ?_)
 ·try simp only [nqs] at hb9
  refine zR ?_
  refine hK6 _ _ ?_
  refine zE fun _ hK7 => ?_
  refine zT ?_
  refine zE fun _ hK8 => ?_
  refine rp0 hst4 hfr4 (.cons rfl (zG rfl) <| .cons rfl (zH rfl) <| .nil) fun a5 w5 m5 hst5 hle5 hk5 => ?_
  have hfr5 := hk5.fr (.o 8 <| .o 0 <| .o 1 <| .o 7 <| .n 5 <| .nil)
  clear hst4 hfr4 hk5
  refine hK8 _ _ ?_
  refine zE fun _ hK9 => ?_
  replace h_l := h_l.mono hle5
  obtain ⟨p10, vs10, x10, ho10, hd10, hm_x10, ht10, hcv10, hl10, hv10⟩ := h_l.nth (k := y) (by omega)
  cases ho10
  subst hv10
  try rw [hd10] at hrem
  try simp only [zBO] at hrem
  refine rp0 hst5 hfr5 (.cons rfl (zG rfl) <| .cons rfl (zG rfl) <| .cons rfl (zG rfl) <| .cons rfl (zN (k := y) rfl rfl underlying41 sizeOf9 rfl (by omega)) <| .cons rfl (zr rfl hcv10 isAgg9 rfl) <| .cons rfl (zBg rfl rfl) <| .nil) fun a6 w6 m6 hst6 hle6 hk6 => ?_
  have hfr6 := hk6.fr (.o 8 <| .o 0 <| .o 1 <| .o 7 <| .o 5 <| .n 16 <| .nil)
  clear hst5 hfr5 hk6
  refine hK9 _ _ ?_
  refine zJ hfr6 rfl rfl (fun hb16 => ?_) (fun hb16 => ?_)
  ·try simp only [nqs] at hb16
   refine zE fun _ hK11 => ?_
   refine rp0 hst6 hfr6 (.cons rfl (zG rfl) <| .cons rfl (zH rfl) <| .nil) fun a7 w7 m7 hst7 hle7 hk7 => ?_
   have hfr7 := hk7.fr (.o 8 <| .n 4 <| .nil)
   clear hst6 hfr6 hk7
   refine hK11 _ _ ?_
   refine zU ?_
   repeat (with_reducible first | refine zL ?_ | refine zI ?_)
   exact zV hst7 hfr7 rfl (.tmp rfl <| .nil) (by refine congrArg (Value.int _) ?_; simp_all)
  ·try simp only [nqs] at hb16
   refine zR ?_
   refine hK7 _ _ ?_
   refine rp0 hst6 hfr6 (.cons rfl (zy rfl rfl ⟨by omega, by omega⟩) <| .cons rfl (zG rfl) <| .nil) fun a7 w7 m7 hst7 hle7 hk7 => ?_
   have hfr7 := hk7.fr (.o 0 <| .o 1 <| .o 7 <| .n 8 <| .nil)
   clear hst6 hfr6 hk7
   have zq1 := hle6.trans hle7
   have zq2 := hle5.trans zq1
   have hlh7 := hlh4.trans zq2
   exact ⟨y + 1, m7, by show l.length - (y + 1) < l.length - y; omega, ⟨hst7, hlh7, hfr7.sub (.c <| .c <| .c <| .c <| .nil), ⟨by show y + 1 ≤ l.length; omega, by simp_all⟩⟩⟩
 ·try simp only [nqs] at hb9
  have hge : y = l.length := by omega
  rw [List.drop_of_length_le (by omega)] at hrem
  simp only [zBO] at hrem
  refine z7 ?_
  refine hK2 _ _ ?_
  refine zE fun _ hK13 => ?_
  refine rp0 hst4 hfr4 (.cons rfl (zH rfl) <| .nil) fun a5 w5 m5 hst5 hle5 hk5 => ?_
  have hfr5 := hk5.fr (.o 8 <| .n 4 <| .nil)
  clear hst4 hfr4 hk5
  refine hK13 _ _ ?_
  refine zU ?_
  repeat (with_reducible first | refine zL ?_ | refine zI ?_)
  exact zV hst5 hfr5 rfl (.tmp rfl <| .nil) (by refine congrArg (Value.int _) ?_; simp_all)
set_option maxHeartbeats 400000 in
theorem indexI_c {w : World} {m : Mem} {o_l : Option Addr} {c_l : Nat} {l : List Int} {s : Int} (hA : Agree w m) (h_l : Ints m o_l l.length c_l l) : FnV Tryz.prog 96 #[.slice o_l l.length c_l, .int .i64 s] w m (fun _ _ v => v = .int .i64 (zBO 0 l s)) := by
 have hb_l := h_l.big; have hc_l := h_l.cap
 refine zY (vs := [_, _]) func96 rfl rfl rfl fun a0 hfr0 => ?_
 have hst0 := zX hA (zw [] _ w m)
 have hM : MLe m m := MLe.refl m
 refine zE fun _ hK1 => ?_
 refine rp0 hst0 hfr0 (.cons rfl (zH rfl) <| .nil) fun a1 w1 m1 hst1 hle1 hk1 => ?_
 have hfr1 := hk1.fr (.o 0 <| .o 1 <| .nil)
 replace h_l := h_l.mono hle1
 clear hst0 hfr0 hk1
 refine hK1 _ _ ?_
 refine zE fun _ hK2 => ?_
 refine zE fun _ hK3 => ?_
 refine rp0 hst1 hfr1 (.cons rfl (zG rfl) <| .cons rfl (zt rfl underlying32) <| .cons rfl (zG rfl) <| .nil) fun a2 w2 m2 hst2 hle2 hk2 => ?_
 have hfr2 := hk2.fr (.o 0 <| .o 1 <| .n 7 <| .n 8 <| .nil)
 replace h_l := h_l.mono hle2
 clear hst1 hfr1 hk2
 refine hK3 _ _ ?_
 refine zT ?_
 refine z6 (T := [(0, _), (1, _), (7, _)]) (fun (y : Nat) => ([(8, .int .i64 (y : Int))] : List (Nat × Value))) (fun _ => _) (fun (y : Nat) m => (y ≤ l.length) ∧ (zBO 0 l s = zBO y (l.drop y) s)) (fun y => l.length - y) (0) ⟨hst2, MLe.refl _, hfr2.sub (.c <| .c <| .c <| .c <| .nil), ⟨Nat.zero_le _, rfl⟩⟩ fun y a3 w3 m3 hh3 => ?_
 have hst3 := hh3.st; have hle3 := hh3.le; have hfr3 := hh3.fr; have hrel := hh3.rel; clear hh3
 replace h_l := h_l.mono hle3
 clear hst2 hfr2
 obtain ⟨hyn, hrem⟩ := hrel
 have hlh3 := hle3
 refine zE fun _ hK5 => ?_
 refine rp0 hst3 hfr3 (.cons rfl (ZG rfl rfl) <| .nil) fun a4 w4 m4 hst4 hle4 hk4 => ?_
 have hfr4 := hk4.fr (.o 8 <| .o 0 <| .o 1 <| .o 7 <| .n 9 <| .nil)
 replace h_l := h_l.mono hle4
 have hlh4 := hlh3.trans hle4
 clear hst3 hfr3 hk4
 refine hK5 _ _ ?_
 refine zE fun _ hK6 => ?_
 refine zJ hfr4 rfl rfl (fun hb9 => ?_) (fun hb9 => ?_)
 ·try simp only [nqs] at hb9
  refine zR ?_
  refine hK6 _ _ ?_
  refine zE fun _ hK7 => ?_
  refine zT ?_
  refine zE fun _ hK8 => ?_
  refine rp0 hst4 hfr4 (.cons rfl (zG rfl) <| .cons rfl (zH rfl) <| .nil) fun a5 w5 m5 hst5 hle5 hk5 => ?_
  have hfr5 := hk5.fr (.o 8 <| .o 0 <| .o 1 <| .o 7 <| .n 5 <| .nil)
  clear hst4 hfr4 hk5
  refine hK8 _ _ ?_
  refine zE fun _ hK9 => ?_
  replace h_l := h_l.mono hle5
  obtain ⟨p10, vs10, x10, ho10, hd10, hm_x10, ht10, hcv10, hl10, hv10⟩ := h_l.nth (k := y) (by omega)
  cases ho10
  subst hv10
  try rw [hd10] at hrem
  try simp only [zBO] at hrem
  refine rp0 hst5 hfr5 (.cons rfl (zG rfl) <| .cons rfl (zG rfl) <| .cons rfl (zG rfl) <| .cons rfl (zN (k := y) rfl rfl underlying32 sizeOf3 rfl (by omega)) <| .cons rfl (zr rfl hcv10 isAgg3 rfl) <| .cons rfl (zq rfl rfl) <| .nil) fun a6 w6 m6 hst6 hle6 hk6 => ?_
  have hfr6 := hk6.fr (.o 8 <| .o 0 <| .o 1 <| .o 7 <| .o 5 <| .n 16 <| .nil)
  clear hst5 hfr5 hk6
  refine hK9 _ _ ?_
  refine zJ hfr6 rfl rfl (fun hb16 => ?_) (fun hb16 => ?_)
  ·try simp only [nqs] at hb16
   refine zE fun _ hK11 => ?_
   refine rp0 hst6 hfr6 (.cons rfl (zG rfl) <| .cons rfl (zH rfl) <| .nil) fun a7 w7 m7 hst7 hle7 hk7 => ?_
   have hfr7 := hk7.fr (.o 8 <| .n 4 <| .nil)
   clear hst6 hfr6 hk7
   refine hK11 _ _ ?_
   refine zU ?_
   repeat (with_reducible first | refine zL ?_ | refine zI ?_)
   exact zV hst7 hfr7 rfl (.tmp rfl <| .nil) (by refine congrArg (Value.int _) ?_; simp_all)
  ·try simp only [nqs] at hb16
   refine zR ?_
   refine hK7 _ _ ?_
   refine rp0 hst6 hfr6 (.cons rfl (zy rfl rfl ⟨by omega, by omega⟩) <| .cons rfl (zG rfl) <| .nil) fun a7 w7 m7 hst7 hle7 hk7 => ?_
   have hfr7 := hk7.fr (.o 0 <| .o 1 <| .o 7 <| .n 8 <| .nil)
   clear hst6 hfr6 hk7
   have zq1 := hle6.trans hle7
   have zq2 := hle5.trans zq1
   have hlh7 := hlh4.trans zq2
   exact ⟨y + 1, m7, by show l.length - (y + 1) < l.length - y; omega, ⟨hst7, hlh7, hfr7.sub (.c <| .c <| .c <| .c <| .nil), ⟨by show y + 1 ≤ l.length; omega, by simp_all⟩⟩⟩
 ·try simp only [nqs] at hb9
  have hge : y = l.length := by omega
  rw [List.drop_of_length_le (by omega)] at hrem
  simp only [zBO] at hrem
  refine z7 ?_
  refine hK2 _ _ ?_
  refine zE fun _ hK13 => ?_
  refine rp0 hst4 hfr4 (.cons rfl (zH rfl) <| .nil) fun a5 w5 m5 hst5 hle5 hk5 => ?_
  have hfr5 := hk5.fr (.o 8 <| .n 4 <| .nil)
  clear hst4 hfr4 hk5
  refine hK13 _ _ ?_
  refine zU ?_
  repeat (with_reducible first | refine zL ?_ | refine zI ?_)
  exact zV hst5 hfr5 rfl (.tmp rfl <| .nil) (by refine congrArg (Value.int _) ?_; simp_all)
set_option maxHeartbeats 400000 in
theorem zFd {w : World} {m : Mem} {o_l : Option Addr} {c_l : Nat} {l : List Int} {s : Int} (hA : Agree w m) (h_l : Ints m o_l l.length c_l l) : FnV Tryz.prog 79 #[.slice o_l l.length c_l, .int .i64 s] w m (fun _ _ v => v = .bool (decide (s ∈ l))) := by
 have hb_l := h_l.big; have hc_l := h_l.cap
 refine zY (vs := [_, _]) func79 rfl rfl rfl fun a0 hfr0 => ?_
 have hst0 := zX hA (zw [] _ w m)
 have hM : MLe m m := MLe.refl m
 refine zE fun _ hK1 => ?_
 refine rp0 hst0 hfr0 (.cons rfl (zH rfl) <| .nil) fun a1 w1 m1 hst1 hle1 hk1 => ?_
 have hfr1 := hk1.fr (.o 0 <| .o 1 <| .nil)
 replace h_l := h_l.mono hle1
 clear hst0 hfr0 hk1
 refine hK1 _ _ ?_
 refine zE fun _ hK2 => ?_
 refine rp0 hst1 hfr1 (.cons rfl (zG rfl) <| .cons rfl (zG rfl) <| .cons rfl (zp rfl (.cons rfl <| .cons rfl <| .nil) call96 (fun w m hK => by have hle_ := KC.le hK; have hA := KC.agree hK; have h_l := h_l.mono hle_; exact indexI_c hA (by first | assumption | omega | simp_all))) <| .cons rfl (zEW rfl rfl) <| .cons rfl (zH rfl) <| .nil) fun a2 w2 m2 hst2 hle2 hk2 => ?_
 have hfr2 := hk2.fr (.n 4 <| .nil)
 clear hst1 hfr1 hk2
 refine hK2 _ _ ?_
 refine zU ?_
 repeat (with_reducible first | refine zL ?_ | refine zI ?_)
 exact zV hst2 hfr2 rfl (.tmp rfl <| .nil) (by refine congrArg Value.bool ?_; exact decide_eq_decide.2 (idxA_mem s l 0))
set_option maxHeartbeats 400000 in
theorem equalS_c {w : World} {m : Mem} {o_l : Option Addr} {c_l : Nat} {l : List Str} {o_k : Option Addr} {c_k : Nat} {k : List Str} (hA : Agree w m) (h_l : Strs m o_l l.length c_l l) (h_k : Strs m o_k k.length c_k k) : FnV Tryz.prog 94 #[.slice o_l l.length c_l, .slice o_k k.length c_k] w m (fun _ _ v => v = .bool (decide (l = k))) := by
 have hb_l := h_l.big; have hc_l := h_l.cap
 have hb_k := h_k.big; have hc_k := h_k.cap
 refine zY (vs := [_, _]) func94 rfl rfl rfl fun a0 hfr0 => ?_
 have hst0 := zX hA (zw [] _ w m)
 have hM : MLe m m := MLe.refl m
 have hae := all2_eq l k
 refine zE fun _ hK1 => ?_
 refine rp0 hst0 hfr0 (.cons rfl (zH rfl) <| .nil) fun a1 w1 m1 hst1 hle1 hk1 => ?_
 have hfr1 := hk1.fr (.o 0 <| .o 1 <| .nil)
 replace h_l := h_l.mono hle1
 replace h_k := h_k.mono hle1
 clear hst0 hfr0 hk1
 refine hK1 _ _ ?_
 refine zE fun _ hK2 => ?_
 refine zE fun _ hK3 => ?_
 refine rp0 hst1 hfr1 (.cons rfl (zG rfl) <| .cons rfl (zt rfl underlying41) <| .cons rfl (zG rfl) <| .cons rfl (zt rfl underlying41) <| .cons rfl (Z6 rfl rfl) <| .nil) fun a2 w2 m2 hst2 hle2 hk2 => ?_
 have hfr2 := hk2.fr (.o 0 <| .o 1 <| .n 10 <| .nil)
 replace h_l := h_l.mono hle2
 replace h_k := h_k.mono hle2
 clear hst1 hfr1 hk2
 refine hK3 _ _ ?_
 refine zJ hfr2 rfl rfl (fun hb10 => ?_) (fun hb10 => ?_)
 ·try simp only [nqs] at hb10
  have hr : decide (l = k) = false := by rw [← hae]; exact zDZ (by omega)
  refine zE fun _ hK4 => ?_
  refine rp0 hst2 hfr2 (.cons rfl (zH rfl) <| .nil) fun a3 w3 m3 hst3 hle3 hk3 => ?_
  have hfr3 := hk3.fr (.n 4 <| .nil)
  clear hst2 hfr2 hk3
  refine hK4 _ _ ?_
  refine zU ?_
  repeat (with_reducible first | refine zL ?_ | refine zI ?_)
  exact zV hst3 hfr3 rfl (.tmp rfl <| .nil) (by rw [hr]; rfl)
 ·try simp only [nqs] at hb10
  have hln : l.length = k.length := by omega
  refine zR ?_
  refine hK2 _ _ ?_
  refine zE fun _ hK6 => ?_
  refine zE fun _ hK7 => ?_
  refine rp0 hst2 hfr2 (.cons rfl (zG rfl) <| .cons rfl (zt rfl underlying41) <| .cons rfl (zG rfl) <| .nil) fun a3 w3 m3 hst3 hle3 hk3 => ?_
  have hfr3 := hk3.fr (.o 0 <| .o 1 <| .n 12 <| .n 13 <| .nil)
  clear hst2 hfr2 hk3
  refine hK7 _ _ ?_
  refine zT ?_
  refine z6 (T := [(0, _), (1, _), (12, _)]) (fun (y : Nat) => ([(13, .int .i64 (y : Int))] : List (Nat × Value))) (fun _ => _) (fun (y : Nat) m => (y ≤ l.length) ∧ (zAs (fun a b => decide (a = b)) l k = zAs (fun a b => decide (a = b)) (l.drop y) (k.drop y))) (fun y => l.length - y) (0) ⟨hst3, MLe.refl _, hfr3.sub (.c <| .c <| .c <| .c <| .nil), ⟨Nat.zero_le _, rfl⟩⟩ fun y a4 w4 m4 hh4 => ?_
  have hst4 := hh4.st; have hle4 := hh4.le; have hfr4 := hh4.fr; have hrel := hh4.rel; clear hh4
  clear hst3 hfr3
  obtain ⟨hyn, hrem⟩ := hrel
  have hlh4 := hle4
  refine zE fun _ hK9 => ?_
  refine rp0 hst4 hfr4 (.cons rfl (ZG rfl rfl) <| .nil) fun a5 w5 m5 hst5 hle5 hk5 => ?_
  have hfr5 := hk5.fr (.o 13 <| .o 0 <| .o 1 <| .o 12 <| .n 14 <| .nil)
  clear hst4 hfr4 hk5
  refine hK9 _ _ ?_
  refine zE fun _ hK10 => ?_
  refine zJ hfr5 rfl rfl (fun hb14 => ?_) (fun hb14 => ?_)
  ·try simp only [nqs] at hb14
   refine zR ?_
   refine hK10 _ _ ?_
   refine zE fun _ hK11 => ?_
   refine zT ?_
   refine zE fun _ hK12 => ?_
   refine rp0 hst5 hfr5 (.cons rfl (zG rfl) <| .cons rfl (zH rfl) <| .nil) fun a6 w6 m6 hst6 hle6 hk6 => ?_
   have hfr6 := hk6.fr (.o 13 <| .o 0 <| .o 1 <| .o 12 <| .n 5 <| .nil)
   clear hst5 hfr5 hk6
   refine hK12 _ _ ?_
   refine zE fun _ hK13 => ?_
   have zq1 := hle5.trans hle6
   have zq2 := hle4.trans zq1
   have zq3 := hle3.trans zq2
   replace h_l := h_l.mono zq3
   obtain ⟨p14, vs14, x14, ho14, hd14, hm_x14, ht14, hcv14, hl14, hv14⟩ := h_l.nth (k := y) (by omega)
   cases ho14
   subst hv14
   try rw [hd14] at hrem
   try simp only [zAs] at hrem
   replace h_k := h_k.mono zq3
   obtain ⟨p15, vs15, x15, ho15, hd15, hm_x15, ht15, hcv15, hl15, hv15⟩ := h_k.nth (k := y) (by omega)
   cases ho15
   subst hv15
   try rw [hd15] at hrem
   try simp only [zAs] at hrem
   refine Zf (fun _ => mixed) hst6 hfr6 (by kernel_rfl) (by kernel_rfl) (.cons rfl (zG rfl) <| .cons rfl (zG rfl) <| .cons rfl (zN (k := y) rfl rfl underlying41 sizeOf9 rfl (by omega)) <| .cons rfl (zr rfl hcv14 isAgg9 rfl) <| .cons rfl (zG rfl) <| .cons rfl (zG rfl) <| .cons rfl (zN (k := y) rfl rfl underlying41 sizeOf9 rfl (by omega)) <| .cons rfl (zr rfl hcv15 isAgg9 rfl) <| .cons rfl (zEe rfl rfl) <| .nil) fun a7 w7 m7 hst7 hle7 hk7 => ?_
   have hfr7 := hk7.fr (.o 13 <| .o 0 <| .o 1 <| .o 12 <| .n 24 <| .nil)
   clear hst6 hfr6 hk7
   refine hK13 _ _ ?_
   refine zJ hfr7 rfl rfl (fun hb24 => ?_) (fun hb24 => ?_)
   ·try simp only [nqs] at hb24
    refine zE fun _ hK16 => ?_
    refine rp0 hst7 hfr7 (.cons rfl (zH rfl) <| .nil) fun a8 w8 m8 hst8 hle8 hk8 => ?_
    have hfr8 := hk8.fr (.o 13 <| .n 4 <| .nil)
    clear hst7 hfr7 hk8
    refine hK16 _ _ ?_
    refine zU ?_
    repeat (with_reducible first | refine zL ?_ | refine zI ?_)
    exact zV hst8 hfr8 rfl (.tmp rfl <| .nil) (by refine congrArg Value.bool ?_; rw [← hae, hrem]; try simp_all)
   ·try simp only [nqs] at hb24
    refine zR ?_
    refine hK11 _ _ ?_
    refine rp0 hst7 hfr7 (.cons rfl (zy rfl rfl ⟨by omega, by omega⟩) <| .cons rfl (zG rfl) <| .nil) fun a8 w8 m8 hst8 hle8 hk8 => ?_
    have hfr8 := hk8.fr (.o 0 <| .o 1 <| .o 12 <| .n 13 <| .nil)
    clear hst7 hfr7 hk8
    have zq4 := hle7.trans hle8
    have zq5 := zq1.trans zq4
    have hlh8 := hlh4.trans zq5
    exact ⟨y + 1, m8, by show l.length - (y + 1) < l.length - y; omega, ⟨hst8, hlh8, hfr8.sub (.c <| .c <| .c <| .c <| .nil), ⟨by show y + 1 ≤ l.length; omega, by simp_all⟩⟩⟩
  ·try simp only [nqs] at hb14
   have hge : y = l.length := by omega
   rw [List.drop_of_length_le (by omega), List.drop_of_length_le (by omega)] at hrem
   simp only [zAs] at hrem
   refine z7 ?_
   refine hK6 _ _ ?_
   refine zE fun _ hK18 => ?_
   refine rp0 hst5 hfr5 (.cons rfl (zH rfl) <| .nil) fun a6 w6 m6 hst6 hle6 hk6 => ?_
   have hfr6 := hk6.fr (.o 13 <| .n 4 <| .nil)
   clear hst5 hfr5 hk6
   refine hK18 _ _ ?_
   refine zU ?_
   repeat (with_reducible first | refine zL ?_ | refine zI ?_)
   exact zV hst6 hfr6 rfl (.tmp rfl <| .nil) (by refine congrArg Value.bool ?_; rw [← hae, hrem]; try simp_all)
set_option maxHeartbeats 400000 in
theorem equalfT_c {w : World} {m : Mem} {o_l : Option Addr} {c_l : Nat} {l : List Ty} {o_k : Option Addr} {c_k : Nat} {k : List Ty} {cid : Nat} {cap : List Value} {ψ : Ty → Ty → Bool} (hA : Agree w m) (h_l : Tys m o_l l.length c_l l) (h_k : Tys m o_k k.length c_k k) (hc : ∀ args w, (callFunc cid args).run Tryz.prog w = .ok (.enter cid args) w) (hφ : ∀ w m' (t u : Ty) vs us, MLe m m' → Agree w m' → TyR m' t vs → TyR m' u us → t ∈ l → u ∈ k → FnV Tryz.prog cid ([Value.agg vs.toArray, Value.agg us.toArray] ++ cap).toArray w m' (fun _ _ v => v = .bool (ψ t u))) : FnV Tryz.prog 77 #[.slice o_l l.length c_l, .slice o_k k.length c_k, .func (.func cid) #[] cap.toArray] w m (fun _ _ v => v = .bool (zAs ψ l k)) := by
 have hb_l := h_l.big; have hc_l := h_l.cap
 have hb_k := h_k.big; have hc_k := h_k.cap
 refine zY (vs := [_, _, _]) func77 rfl rfl rfl fun a0 hfr0 => ?_
 have hst0 := zX hA (zw [] _ w m)
 have hM : MLe m m := MLe.refl m
 refine zE fun _ hK1 => ?_
 refine rp0 hst0 hfr0 (.cons rfl (zH rfl) <| .nil) fun a1 w1 m1 hst1 hle1 hk1 => ?_
 have hfr1 := hk1.fr (.o 0 <| .o 1 <| .o 2 <| .nil)
 replace h_l := h_l.mono hle1
 replace h_k := h_k.mono hle1
 replace hM := hM.trans hle1
 clear hst0 hfr0 hk1
 refine hK1 _ _ ?_
 refine zE fun _ hK2 => ?_
 refine zE fun _ hK3 => ?_
 refine rp0 hst1 hfr1 (.cons rfl (zG rfl) <| .cons rfl (zt rfl underlying33) <| .cons rfl (zG rfl) <| .cons rfl (zt rfl underlying33) <| .cons rfl (Z6 rfl rfl) <| .nil) fun a2 w2 m2 hst2 hle2 hk2 => ?_
 have hfr2 := hk2.fr (.o 0 <| .o 1 <| .o 2 <| .n 14 <| .nil)
 replace h_l := h_l.mono hle2
 replace h_k := h_k.mono hle2
 replace hM := hM.trans hle2
 clear hst1 hfr1 hk2
 refine hK3 _ _ ?_
 refine zJ hfr2 rfl rfl (fun hb14 => ?_) (fun hb14 => ?_)
 ·try simp only [nqs] at hb14
  have hr : zAs ψ l k = false := zDZ (by omega)
  refine zE fun _ hK4 => ?_
  refine rp0 hst2 hfr2 (.cons rfl (zH rfl) <| .nil) fun a3 w3 m3 hst3 hle3 hk3 => ?_
  have hfr3 := hk3.fr (.n 6 <| .nil)
  clear hst2 hfr2 hk3
  refine hK4 _ _ ?_
  refine zU ?_
  repeat (with_reducible first | refine zL ?_ | refine zI ?_)
  exact zV hst3 hfr3 rfl (.tmp rfl <| .nil) (by rw [hr]; rfl)
 ·try simp only [nqs] at hb14
  have hln : l.length = k.length := by omega
  refine zR ?_
  refine hK2 _ _ ?_
  refine zE fun _ hK6 => ?_
  refine zE fun _ hK7 => ?_
  refine rp0 hst2 hfr2 (.cons rfl (zG rfl) <| .cons rfl (zt rfl underlying33) <| .cons rfl (zG rfl) <| .nil) fun a3 w3 m3 hst3 hle3 hk3 => ?_
  have hfr3 := hk3.fr (.o 1 <| .o 2 <| .n 15 <| .n 16 <| .n 17 <| .nil)
  clear hst2 hfr2 hk3
  refine hK7 _ _ ?_
  refine zT ?_
  refine z6 (T := [(1, _), (2, _), (15, _), (16, _)]) (fun (y : Nat) => ([(17, .int .i64 (y : Int))] : List (Nat × Value))) (fun y => []) (fun (y : Nat) m => (y ≤ l.length) ∧ (zAs ψ l k = zAs ψ (l.drop y) (k.drop y))) (fun y => l.length - y) (0) ⟨hst3, MLe.refl _, hfr3.sub (.c <| .c <| .c <| .c <| .c <| .nil), ⟨Nat.zero_le _, rfl⟩⟩ fun y a4 w4 m4 hh4 => ?_
  have hst4 := hh4.st; have hle4 := hh4.le; have hfr4 := hh4.fr; have hrel := hh4.rel; clear hh4
  clear hst3 hfr3
  obtain ⟨hyn, hrem⟩ := hrel
  have hlh4 := hle4
  refine zE fun _ hK9 => ?_
  refine rp0 hst4 hfr4 (.cons rfl (ZG rfl rfl) <| .nil) fun a5 w5 m5 hst5 hle5 hk5 => ?_
  have hfr5 := hk5.fr (.o 17 <| .o 1 <| .o 2 <| .o 15 <| .o 16 <| .n 18 <| .nil)
  clear hst4 hfr4 hk5
  refine hK9 _ _ ?_
  refine zE fun _ hK10 => ?_
  refine zJ hfr5 rfl rfl (fun hb18 => ?_) (fun hb18 => ?_)
  ·try simp only [nqs] at hb18
   refine zR ?_
   refine hK10 _ _ ?_
   refine zE fun _ hK11 => ?_
   refine zT ?_
   refine zE fun _ hK12 => ?_
   have zq1 := hle4.trans hle5
   have zq2 := hle3.trans zq1
   replace h_l := h_l.mono zq2
   obtain ⟨p13, vs13, x13, ho13, hd13, hm_x13, ht13, hcv13, hl13, hv13⟩ := h_l.nth (k := y) (by omega)
   cases ho13
   obtain ⟨o13, c13, oL13, cL13, rfl, hkd13, hs13, hi13, hj13, hr13⟩ := hv13.open_
   have hbg13 := hkd13.big; have hcp13 := hkd13.cap; have hbs13 := hs13.big; have hcs13 := hs13.cap
   have hrw13 : RwR _ ⟨x13.labels, x13.rv⟩ _ := ⟨_, _, rfl, hs13, hr13⟩
   try rw [hd13] at hrem
   try simp only [zAs] at hrem
   replace hst5 := hst5.more (r := .free) trivial List.nodup_nil (by simp [Res.blocks])
   refine ra0 (tch := [(3, 0, (fun v => .blk v _)), (5, 0, (fun v => .blk v _))]) hst5 hfr5 (.cons rfl (zG rfl) <| .cons rfl (zN (k := y) rfl rfl underlying33 sizeOf45 rfl (by omega)) <| .cons rfl (zS rfl hcv13 isAgg45 sizeOf45 rfl rfl) <| .consT rfl rfl (fun _ => rfl) rfl (zj zeroValue45 rfl) <| .cons rfl (zH rfl) <| .consT rfl rfl (fun _ => rfl) rfl (ze 8 rfl rfl rfl fun y8 => ZD rfl rfl rfl rfl rfl sizeOf45 rfl rfl rfl) <| .nil) fun a6 w6 m6 hst6 hle6 hk6 => ?_
   have hfr6 := hk6.fr (.o 17 <| .o 1 <| .o 2 <| .o 15 <| .o 16 <| .n 7 <| .nil)
   obtain ⟨g14, e14, _⟩ := hk6.ex 8 rfl
   replace hfr6 := hfr6.cons e14
   replace hst6 := hst6.fin (L' := [_]) (.cons e14 <| .cons e14 <| .nil)
   clear hst5 hfr5 hk6
   refine hK12 _ _ ?_
   refine zE fun _ hK15 => ?_
   have zq3 := zq2.trans hle6
   replace h_k := h_k.mono zq3
   obtain ⟨p16, vs16, x16, ho16, hd16, hm_x16, ht16, hcv16, hl16, hv16⟩ := h_k.nth (k := y) (by omega)
   cases ho16
   obtain ⟨o16, c16, oL16, cL16, rfl, hkd16, hs16, hi16, hj16, hr16⟩ := hv16.open_
   have hbg16 := hkd16.big; have hcp16 := hkd16.cap; have hbs16 := hs16.big; have hcs16 := hs16.cap
   have hrw16 : RwR _ ⟨x16.labels, x16.rv⟩ _ := ⟨_, _, rfl, hs16, hr16⟩
   try rw [hd16] at hrem
   try simp only [zAs] at hrem
   replace hst6 := hst6.more (r := .free) trivial List.nodup_nil (by simp [Res.blocks])
   refine ra0 (tch := [(4, 1, (fun v => .blk v _)), (5, 1, (fun v => .blk v _))]) hst6 hfr6 (.cons rfl (zG rfl) <| .cons rfl (zG rfl) <| .cons rfl (zN (k := y) rfl rfl underlying33 sizeOf45 rfl (by omega)) <| .cons rfl (zS rfl hcv16 isAgg45 sizeOf45 rfl rfl) <| .consT rfl rfl (fun _ => rfl) rfl (zj zeroValue45 rfl) <| .consT rfl rfl (fun _ => rfl) rfl (ze 9 rfl rfl rfl fun y9 => ZD rfl rfl rfl rfl rfl sizeOf45 rfl rfl rfl) <| .nil) fun a7 w7 m7 hst7 hle7 hk7 => ?_
   have hfr7 := hk7.fr (.o 17 <| .o 1 <| .o 2 <| .o 15 <| .o 16 <| .o 8 <| .nil)
   obtain ⟨g17, e17, _⟩ := hk7.ex 9 rfl
   replace hfr7 := hfr7.cons e17
   replace hst7 := hst7.fin (L' := [_, _]) (.cons e17 <| .cons e17 <| .nil)
   clear hst6 hfr6 hk7
   refine hK15 _ _ ?_
   refine zE fun _ hK18 => ?_
   have zq4 := zq3.trans hle7
   replace hM := hM.trans zq4
   have zq5 := hle6.trans hle7
   replace h_l := h_l.mono zq5
   replace hcv13 := hcv13.mono zq5
   replace hv13 := hv13.mono zq5
   replace hkd13 := hkd13.mono zq5
   replace hs13 := hs13.mono zq5
   replace hrw13 := hrw13.mono zq5
   replace h_k := h_k.mono hle7
   replace hcv16 := hcv16.mono hle7
   replace hv16 := hv16.mono hle7
   replace hkd16 := hkd16.mono hle7
   replace hs16 := hs16.mono hle7
   replace hrw16 := hrw16.mono hle7
   refine rp0 hst7 hfr7 (.cons rfl (zG rfl) <| .cons rfl (zAw (j := 0) rfl rfl isAgg45 sizeOf45 rfl rfl) <| .cons rfl (zAw (j := 1) rfl rfl isAgg45 sizeOf45 rfl rfl) <| .cons rfl (zp rfl (.cons rfl <| .cons rfl <| .nil) hc (fun w m hK => by have hle_ := KC.le hK; have hA := KC.agree hK; have hM := hM.trans hle_; have h_l := h_l.mono hle_; have h_k := h_k.mono hle_; have hcv13 := hcv13.mono hle_; have hv13 := hv13.mono hle_; have hkd13 := hkd13.mono hle_; have hs13 := hs13.mono hle_; have hrw13 := hrw13.mono hle_; have hcv16 := hcv16.mono hle_; have hv16 := hv16.mono hle_; have hkd16 := hkd16.mono hle_; have hs16 := hs16.mono hle_; have hrw16 := hrw16.mono hle_; exact hφ w m _ _ _ _ hM hA (by assumption) (by assumption) hm_x13 hm_x16)) <| .cons rfl (zBJ rfl) <| .nil) fun a8 w8 m8 hst8 hle8 hk8 => ?_
   have hfr8 := hk8.fr (.o 17 <| .o 1 <| .o 2 <| .o 15 <| .o 16 <| .n 30 <| .nil)
   clear hst7 hfr7 hk8
   refine hK18 _ _ ?_
   refine zJ hfr8 rfl rfl (fun hb30 => ?_) (fun hb30 => ?_)
   ·try simp only [nqs] at hb30
    refine zE fun _ hK19 => ?_
    refine rp0 hst8 hfr8 (.cons rfl (zH rfl) <| .nil) fun a9 w9 m9 hst9 hle9 hk9 => ?_
    have hfr9 := hk9.fr (.o 17 <| .n 6 <| .nil)
    clear hst8 hfr8 hk9
    refine hK19 _ _ ?_
    refine zU ?_
    repeat (with_reducible first | refine zL ?_ | refine zI ?_)
    exact zV hst9 hfr9 rfl (.tmp rfl <| .nil) (by refine congrArg Value.bool ?_; simp_all)
   ·try simp only [nqs] at hb30
    refine zR ?_
    refine hK11 _ _ ?_
    refine rp0 hst8 hfr8 (.cons rfl (zy rfl rfl ⟨by omega, by omega⟩) <| .cons rfl (zG rfl) <| .nil) fun a9 w9 m9 hst9 hle9 hk9 => ?_
    have hfr9 := hk9.fr (.o 1 <| .o 2 <| .o 15 <| .o 16 <| .n 17 <| .nil)
    clear hst8 hfr8 hk9
    have hst9 := hst9.take 0
    have zq6 := hle8.trans hle9
    have zq7 := zq5.trans zq6
    have zq8 := hle5.trans zq7
    have hlh9 := hlh4.trans zq8
    exact ⟨y + 1, m9, by show l.length - (y + 1) < l.length - y; omega, ⟨hst9, hlh9, hfr9.sub (.c <| .c <| .c <| .c <| .c <| .nil), ⟨by show y + 1 ≤ l.length; omega, by rw [hrem, hb30]; rfl⟩⟩⟩
  ·try simp only [nqs] at hb18
   have hge : y = l.length := by omega
   rw [List.drop_of_length_le (by omega), List.drop_of_length_le (by omega)] at hrem
   simp only [zAs] at hrem
   refine z7 ?_
   refine hK6 _ _ ?_
   refine zE fun _ hK21 => ?_
   refine rp0 hst5 hfr5 (.cons rfl (zH rfl) <| .nil) fun a6 w6 m6 hst6 hle6 hk6 => ?_
   have hfr6 := hk6.fr (.o 17 <| .n 6 <| .nil)
   clear hst5 hfr5 hk6
   refine hK21 _ _ ?_
   refine zU ?_
   repeat (with_reducible first | refine zL ?_ | refine zI ?_)
   exact zV hst6 hfr6 rfl (.tmp rfl <| .nil) (by refine congrArg Value.bool ?_; simp_all)
set_option maxHeartbeats 400000 in
theorem with_g {w : World} {m : Mem} {v : Value} {a : List Int} {o_ks : Option Addr} {c_ks : Nat} {ks : List Int} (hA : Agree w m) (hr : (Res.row v (a).length 1 3 ((a).map zAE)).holds w m) (h_ks : Ints m o_ks ks.length c_ks ks) (hbig : a.length + ks.length ≤ 1073741824) : FnG Tryz.prog 113 #[v, .slice o_ks ks.length c_ks] (Res.row v (a).length 1 3 ((a).map zAE)).blocks w m (fun w' m' v' => Loc (Res.row v (a).length 1 3 ((a).map zAE)).blocks w.heap.size [.row v' (ks.foldl ZC a).length 1 3 ((ks.foldl ZC a).map zAE)] w' m' ∧ (MP.sl (ks.foldl ZC a).length ((ks.foldl ZC a).map zAE)).p m' v') := by
 have hrr := hr
 obtain ⟨o0, c0, rfl, hrow0, hcap0, hmx0, hl0⟩ := Res.row_at hrr
 have hb_ks := h_ks.big; have hc_ks := h_ks.cap
 refine zY (vs := [_, _]) func113 rfl rfl rfl fun a0 hfr0 => ?_
 have hst0 := zX hA (zBC hr (row_nodup _ _ _ _ _))
 have hM : MLe m m := MLe.refl m
 have hrow_r := hrow0
 refine zE fun _ hK1 => ?_
 refine rp0 hst0 hfr0 (.cons rfl (zH rfl) <| .nil) fun a1 w1 m1 hst1 hle1 hk1 => ?_
 have hfr1 := hk1.fr (.o 0 <| .o 1 <| .nil)
 replace h_ks := h_ks.mono hle1
 replace hrow_r := hrow_r.mono hle1
 clear hst0 hfr0 hk1
 refine hK1 _ _ ?_
 refine zE fun _ hK2 => ?_
 refine zE fun _ hK3 => ?_
 refine rp0 hst1 hfr1 (.cons rfl (zG rfl) <| .cons rfl (zt rfl underlying32) <| .cons rfl (zG rfl) <| .nil) fun a2 w2 m2 hst2 hle2 hk2 => ?_
 have hfr2 := hk2.fr (.o 0 <| .n 7 <| .n 8 <| .n 9 <| .nil)
 replace h_ks := h_ks.mono hle2
 replace hrow_r := hrow_r.mono hle2
 clear hst1 hfr1 hk2
 refine hK3 _ _ ?_
 refine zT ?_
 refine z6 (T := [(7, _), (8, _)]) (fun (y : Nat × List Int × Option Addr × Nat) => ([(0, .slice y.2.2.1 y.2.1.length y.2.2.2), (9, .int .i64 (y.1 : Int))] : List (Nat × Value))) (fun y => [.row (.slice y.2.2.1 y.2.1.length y.2.2.2) (y.2.1).length 1 3 ((y.2.1).map zAE)]) (fun (y : Nat × List Int × Option Addr × Nat) m => (fun (y : Nat) (aa : List Int) (ro : Option Addr) (rp : Nat) => y ≤ ks.length ∧ ks.foldl ZC a = (ks.drop y).foldl ZC aa ∧ RowAt m ro (aa.map zAE) ∧ aa.length ≤ rp ∧ aa.length ≤ a.length + y) y.1 y.2.1 y.2.2.1 y.2.2.2) (fun y => ks.length - y.1) ((0, a, o0, c0)) ⟨hst2, MLe.refl _, hfr2.sub (.c <| .c <| .c <| .c <| .nil), ⟨Nat.zero_le _, rfl, hrow_r, hcap0, Nat.le_refl _⟩⟩ fun y a3 w3 m3 hh3 => ?_
 have hst3 := hh3.st; have hle3 := hh3.le; have hfr3 := hh3.fr; have hrel := hh3.rel; clear hh3
 replace h_ks := h_ks.mono hle3
 replace hrow_r := hrow_r.mono hle3
 clear hst2 hfr2
 obtain ⟨y, aa, ro, rp⟩ := y
 dsimp only at hrel hfr3 hst3
 obtain ⟨hyn, hrem, hrow_r, hcap_r, haal⟩ := hrel
 have hlh3 := hle3
 refine zE fun _ hK5 => ?_
 refine rp0 hst3 hfr3 (.cons rfl (ZG rfl rfl) <| .nil) fun a4 w4 m4 hst4 hle4 hk4 => ?_
 have hfr4 := hk4.fr (.o 0 <| .o 9 <| .o 7 <| .o 8 <| .n 10 <| .nil)
 replace h_ks := h_ks.mono hle4
 replace hrow_r := hrow_r.mono hle4
 have hlh4 := hlh3.trans hle4
 clear hst3 hfr3 hk4
 refine hK5 _ _ ?_
 refine zE fun _ hK6 => ?_
 refine zJ hfr4 rfl rfl (fun hb10 => ?_) (fun hb10 => ?_)
 ·try simp only [nqs] at hb10
  refine zR ?_
  refine hK6 _ _ ?_
  refine zE fun _ hK7 => ?_
  refine zT ?_
  refine zE fun _ hK8 => ?_
  obtain ⟨p9, vs9, x9, ho9, hd9, hm_x9, ht9, hcv9, hl9, hv9⟩ := h_ks.nth (k := y) (by omega)
  cases ho9
  subst hv9
  refine rp0 hst4 hfr4 (.cons rfl (zN (k := y) rfl rfl underlying32 sizeOf3 rfl (by omega)) <| .cons rfl (zr rfl hcv9 isAgg3 rfl) <| .cons rfl (zH rfl) <| .nil) fun a5 w5 m5 hst5 hle5 hk5 => ?_
  have hfr5 := hk5.fr (.o 0 <| .o 9 <| .o 7 <| .o 8 <| .n 6 <| .nil)
  clear hst4 hfr4 hk5
  refine hK8 _ _ ?_
  refine zE fun _ hK10 => ?_
  replace hrow_r := hrow_r.mono hle5
  have hiA : Ints m5 ro aa.length rp aa := Ints.of_row (by simpa [zAE] using hrow_r) rfl hcap_r (by omega)
  refine rp0 hst5 hfr5 (.cons rfl (zG rfl) <| .cons rfl (zG rfl) <| .cons rfl (zp rfl (.cons rfl <| .cons rfl <| .nil) call79 (fun w m hK => by have hle_ := KC.le hK; have hA := KC.agree hK; have hiA := hiA.mono hle_; exact zFd hA hiA)) <| .cons rfl (zBJ rfl) <| .nil) fun a6 w6 m6 hst6 hle6 hk6 => ?_
  have hfr6 := hk6.fr (.o 0 <| .o 9 <| .o 7 <| .o 8 <| .o 6 <| .n 16 <| .nil)
  clear hst5 hfr5 hk6
  refine hK10 _ _ ?_
  refine zJ hfr6 rfl rfl (fun hb16 => ?_) (fun hb16 => ?_)
  ·try simp only [nqs] at hb16
   have hwi := zCu hb16
   refine ra0 (tch := [(3, 0, (fun v => .row v _ _ _ _))]) hst6 hfr6 (.cons rfl (zG rfl) <| .cons rfl (zG rfl) <| .cons rfl (ZQ (.cons rfl <| .nil) underlying32 sizeOf3 zeroValue3 rfl rfl rfl rfl) <| .consT rfl rfl (fun _ => rfl) rfl (ze 19 rfl rfl rfl fun y19 => ob_append (size := 1) (bytes := 8) rfl rfl underlying32 type3 rfl rfl rfl rfl (fun w m hK => .inr ⟨_, rfl, hK.2⟩) rfl (by decide) rfl (by simp only [maxLen]; omega) (by omega)) <| .consA 20 rfl rfl <| .nil) fun a7 w7 m7 hst7 hle7 hk7 => ?_
   have hfr7 := hk7.fr (.o 9 <| .o 7 <| .o 8 <| .nil)
   obtain ⟨⟨ro2, rp2⟩, e11, hrow2_r, hcap2_r⟩ := hk7.ex 20 rfl
   replace hfr7 := hfr7.cons (hk7.same 0 rfl e11)
   replace hst7 := hst7.fin (L' := [_]) (.cons e11 <| .nil)
   clear hst6 hfr6 hk7
   have hcap9 : (ZC aa x9).length ≤ rp2 := by rw [hwi]; simpa using hcap2_r
   have e9 : aa.map zAE ++ [Value.int .i64 x9] = (ZC aa x9).map zAE := by rw [hwi]; simp
   have e8 : aa.length + 1 = (ZC aa x9).length := by rw [hwi]; simp
   have hrow9 : RowAt m7 ro2 ((ZC aa x9).map zAE) := by rw [← e9]; exact hrow2_r
   change St _ _ _ [.row _ (aa.length + 1) 1 3 (aa.map zAE ++ [Value.int .i64 x9])] _ _ at hst7
   rw [e9, e8] at hst7
   rw [e8] at hfr7
   refine hK7 _ _ ?_
   refine rp0 hst7 hfr7 (.cons rfl (zy rfl rfl ⟨by omega, by omega⟩) <| .cons rfl (zG rfl) <| .nil) fun a8 w8 m8 hst8 hle8 hk8 => ?_
   have hfr8 := hk8.fr (.o 7 <| .o 8 <| .o 0 <| .n 9 <| .nil)
   clear hst7 hfr7 hk8
   replace hrow9 := hrow9.mono hle8
   have zq1 := hle7.trans hle8
   have zq2 := hle6.trans zq1
   have zq3 := hle5.trans zq2
   have hlh8 := hlh4.trans zq3
   exact ⟨(y + 1, ZC aa x9, _, _), m8, by show ks.length - (y + 1) < ks.length - y; omega, ⟨hst8, hlh8, hfr8.sub (.c <| .c <| .c <| .c <| .nil), ⟨by show y + 1 ≤ ks.length; omega, by rw [hrem, hd9]; rfl, hrow9, hcap9, by have := zAC aa x9; show (ZC aa x9).length ≤ a.length + (y + 1); omega⟩⟩⟩
  ·try simp only [nqs] at hb16
   have hwi := zCp (l := aa) (by simpa using hb16)
   have hcap9 : (ZC aa x9).length ≤ rp := by rw [hwi]; exact hcap_r
   replace hrow_r := hrow_r.mono hle6
   have hrow9 : RowAt m6 ro ((ZC aa x9).map zAE) := by rw [hwi]; exact hrow_r
   rw [← hwi] at hst6 hfr6
   refine zR ?_
   refine hK7 _ _ ?_
   refine rp0 hst6 hfr6 (.cons rfl (zy rfl rfl ⟨by omega, by omega⟩) <| .cons rfl (zG rfl) <| .nil) fun a7 w7 m7 hst7 hle7 hk7 => ?_
   have hfr7 := hk7.fr (.o 0 <| .o 7 <| .o 8 <| .n 9 <| .nil)
   clear hst6 hfr6 hk7
   replace hrow9 := hrow9.mono hle7
   have zq4 := hle6.trans hle7
   have zq5 := hle5.trans zq4
   have hlh7 := hlh4.trans zq5
   exact ⟨(y + 1, ZC aa x9, _, _), m7, by show ks.length - (y + 1) < ks.length - y; omega, ⟨hst7, hlh7, hfr7.sub (.c <| .c <| .c <| .c <| .nil), ⟨by show y + 1 ≤ ks.length; omega, by rw [hrem, hd9]; rfl, hrow9, hcap9, by have := zAC aa x9; show (ZC aa x9).length ≤ a.length + (y + 1); omega⟩⟩⟩
 ·try simp only [nqs] at hb10
  have hge : y = ks.length := by omega
  rw [List.drop_of_length_le (by omega)] at hrem
  simp only [List.foldl_nil] at hrem
  refine z7 ?_
  refine hK2 _ _ ?_
  refine zE fun _ hK12 => ?_
  refine rp0 hst4 hfr4 (.cons rfl (zG rfl) <| .cons rfl (zH rfl) <| .nil) fun a5 w5 m5 hst5 hle5 hk5 => ?_
  have hfr5 := hk5.fr (.o 0 <| .o 9 <| .n 4 <| .nil)
  clear hst4 hfr4 hk5
  refine hK12 _ _ ?_
  refine zU ?_
  repeat (with_reducible first | refine zL ?_ | refine zI ?_)
  replace hrow_r := hrow_r.mono hle5
  exact zV hst5 hfr5 rfl (.tmp rfl <| .nil) (⟨by rw [hrem]; exact hst5.loc, (ro, rp), by rw [hrem]; rfl, by rw [hrem]; exact ⟨hrow_r, hcap_r⟩⟩)
theorem with_c {w : World} {m : Mem} {v : Value} {a ks : List Int} {o : Option Addr} {c : Nat} (hA : Agree w m) (hr : (Res.row v (a).length 1 3 ((a).map zAE)).holds w m) (hk : Ints m o ks.length c ks) (hbig : a.length + ks.length ≤ 1073741824) :
  Calls Tryz.prog 113 #[v, .slice o ks.length c] w fun e w' => ∃ v' m', e = .returned v' ∧ Touch (.row v (a).length 1 3 ((a).map zAE)) (.row v' (ks.foldl ZC a).length 1 3 ((ks.foldl ZC a).map zAE)) w m w' m' ∧ (Kn.ex (MP.sl (ks.foldl ZC a).length ((ks.foldl ZC a).map zAE))).holds m' v' :=
 Calls.mono (with_g hA hr hk hbig) fun e w' ⟨v', m', e1, hE, hL, hv⟩ => ⟨v', m', e1, zGB hE hL, hv⟩
abbrev walk_G (t : Ty) : Prop := ∀ {w : World} {m : Mem} {g : Nat} {v1 v2 : Value} {a b : List Int} {vs_t : List Value} (hA : Agree w m) (hL : Loc (([.blk (.pointer (some ⟨g, 0, none⟩)) (.cells #[v1, v2] 124), .row v1 (a).length 1 3 ((a).map zAE), .row v2 (b).length 1 3 ((b).map zAE)]).flatMap Res.blocks) w.heap.size [.blk (.pointer (some ⟨g, 0, none⟩)) (.cells #[v1, v2] 124), .row v1 (a).length 1 3 ((a).map zAE), .row v2 (b).length 1 3 ((b).map zAE)] w m) (h_t : TyR m t vs_t) (hbig : a.length + b.length + 2 * ZH t ≤ 1073741824), FnG Tryz.prog 95 #[.pointer (some ⟨g, 0, none⟩), .agg vs_t.toArray] (([.blk (.pointer (some ⟨g, 0, none⟩)) (.cells #[v1, v2] 124), .row v1 (a).length 1 3 ((a).map zAE), .row v2 (b).length 1 3 ((b).map zAE)]).flatMap Res.blocks) w m (fun w' m' _ => ∃ rs', Loc (([.blk (.pointer (some ⟨g, 0, none⟩)) (.cells #[v1, v2] 124), .row v1 (a).length 1 3 ((a).map zAE), .row v2 (b).length 1 3 ((b).map zAE)]).flatMap Res.blocks) w.heap.size rs' w' m' ∧ ∃ u1 u2, rs' = [.blk (.pointer (some ⟨g, 0, none⟩)) (.cells #[u1, u2] 124), .row u1 ((zi t (a, b)).1).length 1 3 (((zi t (a, b)).1).map zAE), .row u2 ((zi t (a, b)).2).length 1 3 (((zi t (a, b)).2).map zAE)])
set_option maxHeartbeats 400000 in
theorem walk_s {t : Ty} (ih : ∀ u ∈ t.args, walk_G u) {w : World} {m : Mem} {g : Nat} {v1 v2 : Value} {a b : List Int} {vs_t : List Value} (hA : Agree w m) (hL : Loc (([.blk (.pointer (some ⟨g, 0, none⟩)) (.cells #[v1, v2] 124), .row v1 (a).length 1 3 ((a).map zAE), .row v2 (b).length 1 3 ((b).map zAE)]).flatMap Res.blocks) w.heap.size [.blk (.pointer (some ⟨g, 0, none⟩)) (.cells #[v1, v2] 124), .row v1 (a).length 1 3 ((a).map zAE), .row v2 (b).length 1 3 ((b).map zAE)] w m) (h_t : TyR m t vs_t) (hbig : a.length + b.length + 2 * ZH t ≤ 1073741824) : FnG Tryz.prog 95 #[.pointer (some ⟨g, 0, none⟩), .agg vs_t.toArray] (([.blk (.pointer (some ⟨g, 0, none⟩)) (.cells #[v1, v2] 124), .row v1 (a).length 1 3 ((a).map zAE), .row v2 (b).length 1 3 ((b).map zAE)]).flatMap Res.blocks) w m (fun w' m' _ => ∃ rs', Loc (([.blk (.pointer (some ⟨g, 0, none⟩)) (.cells #[v1, v2] 124), .row v1 (a).length 1 3 ((a).map zAE), .row v2 (b).length 1 3 ((b).map zAE)]).flatMap Res.blocks) w.heap.size rs' w' m' ∧ ∃ u1 u2, rs' = [.blk (.pointer (some ⟨g, 0, none⟩)) (.cells #[u1, u2] 124), .row u1 ((zi t (a, b)).1).length 1 3 (((zi t (a, b)).1).map zAE), .row u2 ((zi t (a, b)).2).length 1 3 (((zi t (a, b)).2).map zAE)]) := by
 obtain ⟨o1, c1, rfl, -, -, -, -⟩ := Res.row_at (hL.at_ (k := 1) rfl)
 obtain ⟨o2, c2, rfl, -, -, -, -⟩ := Res.row_at (hL.at_ (k := 2) rfl)
 have hce := Zy t
 obtain ⟨o_t, c_t, oL_t, cL_t, rfl, hk_t, hs_t, hi_t, hj_t, hr_t⟩ := h_t.open_
 have hbg_t := hk_t.big; have hcp_t := hk_t.cap; have hbs_t := hs_t.big; have hcs_t := hs_t.cap
 have hrw_t : RwR _ ⟨t.labels, t.rv⟩ _ := ⟨_, _, rfl, hs_t, hr_t⟩
 refine zY (vs := [_, _]) func95 rfl rfl rfl fun a0 hfr0 => ?_
 have hst0 := zX hA hL
 have hM : MLe m m := MLe.refl m
 refine zE fun _ hK1 => ?_
 refine rp0 hst0 hfr0 (.cons rfl (ZA rfl rfl) <| .nil) fun a1 w1 m1 hst1 hle1 hk1 => ?_
 have hfr1 := hk1.fr (.o 0 <| .nil)
 obtain ⟨g2, e2, hc3⟩ := hk1.ex 3 rfl
 replace hfr1 := hfr1.cons e2
 replace h_t := h_t.mono hle1
 replace hk_t := hk_t.mono hle1
 replace hs_t := hs_t.mono hle1
 replace hrw_t := hrw_t.mono hle1
 replace hM := hM.trans hle1
 clear hst0 hfr0 hk1
 refine hK1 _ _ ?_
 refine zE fun _ hK3 => ?_
 refine zE fun _ hK4 => ?_
 refine rp0 hst1 hfr1 (.cons rfl (zF (off := 0) rfl underlying45 rfl rfl sizeOf3 rfl) <| .cons rfl (zK rfl hc3 isAgg3 rfl) <| .cons rfl (zq rfl rfl) <| .nil) fun a2 w2 m2 hst2 hle2 hk2 => ?_
 have hfr2 := hk2.fr (.o 0 <| .o 3 <| .n 8 <| .nil)
 replace h_t := h_t.mono hle2
 replace hk_t := hk_t.mono hle2
 replace hs_t := hs_t.mono hle2
 replace hrw_t := hrw_t.mono hle2
 replace hc3 := hc3.mono hle2
 replace hM := hM.trans hle2
 clear hst1 hfr1 hk2
 refine hK4 _ _ ?_
 refine zJ hfr2 rfl rfl (fun hb8 => ?_) (fun hb8 => ?_)
 ·try simp only [nqs] at hb8
  refine zn (tch := [(8, 1, (fun v => .row v (ZC a t.var).length 1 3 ((ZC a t.var).map zAE))), (11, 0, (fun u => .blk _ (.cells (_ ++ [u] ++ _).toArray _)))]) (fun _ => mixed) hst2 hfr2 (by kernel_rfl) (by kernel_rfl) (by kernel_rfl) (.cons rfl (zG rfl) <| .cons rfl (zG rfl) <| .cons rfl (zg rfl) <| .cons rfl (zF (off := 0) rfl underlying124 rfl rfl sizeOf32 rfl) <| .cons rfl (zW (j := 0) rfl rfl isAgg32 rfl) <| .cons rfl (zF (off := 2) rfl underlying45 rfl rfl sizeOf3 rfl) <| .cons rfl (zK rfl hc3 isAgg3 rfl) <| .cons rfl (ZQ (.cons rfl <| .nil) underlying32 sizeOf3 zeroValue3 rfl rfl rfl rfl) <| .consT rfl rfl (fun _ => rfl) rfl (ze 16 rfl rfl rfl fun y16 => ZV rfl (.cons rfl <| .cons rfl <| .nil) call113 (κ := .ex (MP.sl (ZC a t.var).length ((ZC a t.var).map zAE))) (fun σ w m hK hr hkn => by have hle_ := KC.le hK; have hA := KC.agree hK; have hM := hM.trans hle_; have hr0_ := hK.2; have h_t := h_t.mono hle_; have hk_t := hk_t.mono hle_; have hs_t := hs_t.mono hle_; have hrw_t := hrw_t.mono hle_; have hc3 := hc3.mono hle_; exact with_c (ks := [t.var]) hA hr (Sl.one hr0_ rfl rfl) (by simp only [List.length_cons, List.length_nil]; omega))) <| .cons rfl (zg rfl) <| .cons rfl (zF (off := 0) rfl underlying124 rfl rfl sizeOf32 rfl) <| .consT rfl rfl (fun _ => rfl) rfl (ze 17 rfl rfl rfl fun y17 => Ze rfl rfl rfl rfl rfl sizeOf32 rfl rfl rfl) <| .nil) fun a3 w3 m3 hst3 hle3 hk3 => ?_
  have hfr3 := hk3.fr (.o 0 <| .o 3 <| .nil)
  obtain ⟨⟨Ao2, Ap2⟩, e5, hrow2_A, hcap2_A⟩ := hk3.ex 17 rfl
  replace hst3 := hst3.fin (L' := [_, _, _]) (.cons e5 <| .cons e5 <| .nil)
  clear hst2 hfr2 hk3
  obtain ⟨aa, haa⟩ : ∃ aa, aa = ZC a t.var := ⟨_, rfl⟩
  rw [← haa] at hst3
  refine hK3 _ _ ?_
  refine zE fun _ hK6 => ?_
  replace hc3 := hc3.mono hle3
  refine rp0 hst3 hfr3 (.cons rfl (zF (off := 3) rfl underlying45 rfl rfl sizeOf33 rfl) <| .cons rfl (zK rfl hc3 isAgg33 rfl) <| .cons rfl (zt rfl underlying33) <| .cons rfl (zG rfl) <| .nil) fun a4 w4 m4 hst4 hle4 hk4 => ?_
  have hfr4 := hk4.fr (.o 0 <| .o 3 <| .n 21 <| .n 22 <| .n 23 <| .nil)
  clear hst3 hfr3 hk4
  refine hK6 _ _ ?_
  refine zT ?_
  refine z6 (T := [(0, _), (3, _), (21, _), (22, _)]) (fun (y : Nat × (List Int × List Int) × (Option Addr × Nat) × (Option Addr × Nat)) => ([(23, .int .i64 (y.1 : Int))] : List (Nat × Value))) (fun y => [.blk (.pointer (some ⟨g, 0, none⟩)) (.cells #[.slice y.2.2.1.1 y.2.1.1.length y.2.2.1.2, .slice y.2.2.2.1 y.2.1.2.length y.2.2.2.2] 124), .row (.slice y.2.2.1.1 y.2.1.1.length y.2.2.1.2) (y.2.1.1).length 1 3 ((y.2.1.1).map zAE), .row (.slice y.2.2.2.1 y.2.1.2.length y.2.2.2.2) (y.2.1.2).length 1 3 ((y.2.1.2).map zAE)]) (fun (y : Nat × (List Int × List Int) × (Option Addr × Nat) × (Option Addr × Nat)) m => (fun (y : Nat) (s : List Int × List Int) => y ≤ t.args.length ∧ zi t (a, b) = Zo t.kind t.rv y (t.args.drop y) s ∧ zBc s + 2 * ZS (t.args.drop y) + (if y = 0 then 1 else 0) ≤ 1073741824) y.1 y.2.1) (fun y => t.args.length - y.1) ((0, (aa, b), (_, _), (_, _))) ⟨hst4, MLe.refl _, hfr4.sub (.c <| .c <| .c <| .c <| .c <| .nil), ⟨Nat.zero_le _, by rw [zBM]; rw [haa]; simp [hb8], by have := zAC a t.var; have h7 : (aa).length ≤ a.length + 1 := (by rw [haa]; omega); simp only [zBc, List.drop_zero, if_true]; omega⟩⟩ fun y a5 w5 m5 hh5 => ?_
  have hst5 := hh5.st; have hle5 := hh5.le; have hfr5 := hh5.fr; have hrel := hh5.rel; clear hh5
  clear hst4 hfr4
  obtain ⟨y, s, ⟨q1, d1⟩, ⟨q2, d2⟩⟩ := y
  dsimp only at hrel hfr5 hst5
  obtain ⟨hyn, hrem, hroom⟩ := hrel
  have hlh5 := hle5
  refine zE fun _ hK8 => ?_
  refine rp0 hst5 hfr5 (.cons rfl (ZG rfl rfl) <| .nil) fun a6 w6 m6 hst6 hle6 hk6 => ?_
  have hfr6 := hk6.fr (.o 23 <| .o 0 <| .o 3 <| .o 21 <| .o 22 <| .n 24 <| .nil)
  clear hst5 hfr5 hk6
  refine hK8 _ _ ?_
  refine zE fun _ hK9 => ?_
  refine zJ hfr6 rfl rfl (fun hb24 => ?_) (fun hb24 => ?_)
  ·try simp only [nqs] at hb24
   refine zR ?_
   refine hK9 _ _ ?_
   refine zE fun _ hK10 => ?_
   refine zT ?_
   refine zE fun _ hK11 => ?_
   have zq1 := hle5.trans hle6
   have zq2 := hle4.trans zq1
   have zq3 := hle3.trans zq2
   replace hk_t := hk_t.mono zq3
   obtain ⟨p12, vs12, x12, ho12, hd12, hm_x12, ht12, hcv12, hl12, hv12⟩ := hk_t.nth (k := y) (by omega)
   cases ho12
   obtain ⟨o12, c12, oL12, cL12, rfl, hkd12, hs12, hi12, hj12, hr12⟩ := hv12.open_
   have hbg12 := hkd12.big; have hcp12 := hkd12.cap; have hbs12 := hs12.big; have hcs12 := hs12.cap
   have hrw12 : RwR _ ⟨x12.labels, x12.rv⟩ _ := ⟨_, _, rfl, hs12, hr12⟩
   replace hst6 := hst6.more (r := .free) trivial List.nodup_nil (by simp [Res.blocks])
   refine ra0 (tch := [(3, 3, (fun v => .blk v _)), (5, 3, (fun v => .blk v _))]) hst6 hfr6 (.cons rfl (zG rfl) <| .cons rfl (zN (k := y) rfl rfl underlying33 sizeOf45 rfl (by omega)) <| .cons rfl (zS rfl hcv12 isAgg45 sizeOf45 rfl rfl) <| .consT rfl rfl (fun _ => rfl) rfl (zj zeroValue45 rfl) <| .cons rfl (zH rfl) <| .consT rfl rfl (fun _ => rfl) rfl (ze 5 rfl rfl rfl fun y5 => ZD rfl rfl rfl rfl rfl sizeOf45 rfl rfl rfl) <| .nil) fun a7 w7 m7 hst7 hle7 hk7 => ?_
   have hfr7 := hk7.fr (.o 23 <| .o 0 <| .o 3 <| .o 21 <| .o 22 <| .n 4 <| .nil)
   obtain ⟨g13, e13, _⟩ := hk7.ex 5 rfl
   replace hfr7 := hfr7.cons e13
   replace hst7 := hst7.fin (L' := [_, _, _, _]) (.cons e13 <| .cons e13 <| .nil)
   clear hst6 hfr6 hk7
   rw [hd12, Zq] at hrem
   rw [hd12, ZS] at hroom
   refine hK11 _ _ ?_
   refine zE fun _ hK14 => ?_
   refine ZE 2 (by kernel_rfl) ?_
   refine ZN (tch := []) hst7 hfr7 (by kernel_rfl) (by kernel_rfl) (by kernel_rfl) (.cons rfl (zG rfl) <| .cons rfl (zAw (j := 3) rfl rfl isAgg45 sizeOf45 rfl rfl) <| .nil) fun a8 w8 m8 hst8 hle8 hk8 => ?_
   have hfr8 := hk8.fr (.o 23 <| .o 0 <| .o 3 <| .o 21 <| .o 22 <| .o 4 <| .o 5 <| .n 28 <| .n 29 <| .nil)
   clear hst7 hfr7 hk8
   have zq4 := hle7.trans hle8
   replace hv12 := hv12.mono zq4
   refine Zi [] [_] [_, _, _] hst8 hfr8 rfl (.cons rfl <| .cons rfl <| .nil) call95 (ih x12 hm_x12 hst8.agree (hst8.sub (A := []) (B := [_]) (rs := [_, _, _])) hv12 (by simp only [zBc] at hroom; omega)) ?_
   intro vr9 w9 m9 rs9 hst9 hle9 hp9
   obtain ⟨u1, u2, rfl⟩ := hp9
   simp only [List.nil_append, List.cons_append] at hst9
   obtain ⟨q3, d3, rfl, -, -, -, -⟩ := Res.row_at (hst9.loc.at_ (k := 1) rfl)
   obtain ⟨q4, d4, rfl, -, -, -, -⟩ := Res.row_at (hst9.loc.at_ (k := 2) rfl)
   have h9 := Zu x12 s
   have h9b : (zi x12 (s.1, s.2)).1.length + (zi x12 (s.1, s.2)).2.length ≤ zBc s + 2 * ZH x12 := Zu x12 s
   have hfr9 := (hfr8.sub (T' := [(23, _), (0, _), (3, _), (21, _), (22, _), (4, _), (5, _), (28, _), (29, _)]) (.cons rfl <| .cons rfl <| .cons rfl <| .cons rfl <| .cons rfl <| .cons rfl <| .cons rfl <| .cons rfl <| .cons rfl <| .nil)).put (d := 30) (v := vr9) (by kernel_rfl) rfl
   clear hst8 hfr8
   refine hK14 _ _ ?_
   refine zE fun _ hK15 => ?_
   have zq5 := zq4.trans hle9
   have zq6 := zq2.trans zq5
   replace hc3 := hc3.mono zq6
   refine rp0 hst9 hfr9 (.cons rfl (zG rfl) <| .cons rfl (zq rfl rfl) <| .cons rfl (zG rfl) <| .cons rfl (zF (off := 0) rfl underlying45 rfl rfl sizeOf3 rfl) <| .cons rfl (zK rfl hc3 isAgg3 rfl) <| .cons rfl (zq rfl rfl) <| .cons rfl (z8 rfl rfl rfl) <| .cons rfl (zG rfl) <| .cons rfl (zF (off := 4) rfl underlying45 rfl rfl sizeOf43 rfl) <| .cons rfl (zF (off := 1) rfl underlying43 rfl rfl sizeOf3 rfl) <| .cons rfl (zK rfl (hc3.drop 4) isAgg3 rfl) <| .cons rfl (zAU rfl rfl) <| .cons rfl (z8 rfl rfl rfl) <| .nil) fun a10 w10 m10 hst10 hle10 hk10 => ?_
   have hfr10 := hk10.fr (.o 23 <| .o 0 <| .o 3 <| .o 21 <| .o 22 <| .n 43 <| .nil)
   clear hst9 hfr9 hk10
   refine hK15 _ _ ?_
   refine zJ hfr10 rfl rfl (fun hb43 => ?_) (fun hb43 => ?_)
   ·try simp only [nqs] at hb43
    rw [if_pos (show y = 0 by omega)] at hroom
    have zq7 := zq5.trans hle10
    have zq8 := zq3.trans zq7
    replace h_t := h_t.mono zq8
    replace hs_t := hs_t.mono zq8
    replace hrw_t := hrw_t.mono zq8
    replace hM := hM.trans zq8
    have zq9 := zq6.trans hle10
    replace hrow2_A := hrow2_A.mono zq9
    replace hk_t := hk_t.mono zq7
    replace hcv12 := hcv12.mono zq7
    replace hkd12 := hkd12.mono zq7
    replace hs12 := hs12.mono zq7
    replace hrw12 := hrw12.mono zq7
    have zq10 := hle9.trans hle10
    replace hv12 := hv12.mono zq10
    replace hc3 := hc3.mono hle10
    refine zn (tch := [(9, 2, (fun v => .row v (ZC (zi x12 s).2 t.rv).length 1 3 ((ZC (zi x12 s).2 t.rv).map zAE))), (12, 0, (fun u => .blk _ (.cells (_ ++ [u] ++ _).toArray _)))]) (fun _ => mixed) hst10 hfr10 (by kernel_rfl) (by kernel_rfl) (by kernel_rfl) (.cons rfl (zG rfl) <| .cons rfl (zG rfl) <| .cons rfl (zg rfl) <| .cons rfl (zF (off := 1) rfl underlying124 rfl rfl sizeOf32 rfl) <| .cons rfl (zW (j := 0) rfl rfl isAgg32 rfl) <| .cons rfl (zF (off := 4) rfl underlying45 rfl rfl sizeOf43 rfl) <| .cons rfl (zF (off := 1) rfl underlying43 rfl rfl sizeOf3 rfl) <| .cons rfl (zK rfl (hc3.drop 4) isAgg3 rfl) <| .cons rfl (ZQ (.cons rfl <| .nil) underlying32 sizeOf3 zeroValue3 rfl rfl rfl rfl) <| .consT rfl rfl (fun _ => rfl) rfl (ze 52 rfl rfl rfl fun y52 => ZV rfl (.cons rfl <| .cons rfl <| .nil) call113 (κ := .ex (MP.sl (ZC (zi x12 s).2 t.rv).length ((ZC (zi x12 s).2 t.rv).map zAE))) (fun σ w m hK hr hkn => by have hle_ := KC.le hK; have hA := KC.agree hK; have hM := hM.trans hle_; have hr0_ := hK.2; have h_t := h_t.mono hle_; have hk_t := hk_t.mono hle_; have hs_t := hs_t.mono hle_; have hrw_t := hrw_t.mono hle_; have hc3 := hc3.mono hle_; have hrow2_A := hrow2_A.mono hle_; have hcv12 := hcv12.mono hle_; have hv12 := hv12.mono hle_; have hkd12 := hkd12.mono hle_; have hs12 := hs12.mono hle_; have hrw12 := hrw12.mono hle_; exact with_c (ks := [t.rv]) hA hr (Sl.one hr0_ rfl rfl) (by have h9 : (zi x12 s).1.length + (zi x12 s).2.length ≤ zBc s + 2 * ZH x12 := Zu x12 s; simp only [List.length_cons, List.length_nil]; omega))) <| .cons rfl (zg rfl) <| .cons rfl (zF (off := 1) rfl underlying124 rfl rfl sizeOf32 rfl) <| .consT rfl rfl (fun _ => rfl) rfl (ze 53 rfl rfl rfl fun y53 => Ze rfl rfl rfl rfl rfl sizeOf32 rfl rfl rfl) <| .nil) fun a11 w11 m11 hst11 hle11 hk11 => ?_
    have hfr11 := hk11.fr (.o 23 <| .o 0 <| .o 3 <| .o 21 <| .o 22 <| .nil)
    obtain ⟨⟨Bo2, Bp2⟩, e16, hrow2_B, hcap2_B⟩ := hk11.ex 53 rfl
    replace hst11 := hst11.fin (L' := [_, _, _, _]) (.cons e16 <| .cons e16 <| .nil)
    clear hst10 hfr10 hk11
    refine hK10 _ _ ?_
    refine rp0 hst11 hfr11 (.cons rfl (zy rfl rfl ⟨by omega, by omega⟩) <| .cons rfl (zG rfl) <| .nil) fun a12 w12 m12 hst12 hle12 hk12 => ?_
    have hfr12 := hk12.fr (.o 0 <| .o 3 <| .o 21 <| .o 22 <| .n 23 <| .nil)
    clear hst11 hfr11 hk12
    have hst12 := hst12.take 3
    have zq11 := hle11.trans hle12
    have zq12 := zq7.trans zq11
    have zq13 := hle6.trans zq12
    have hlh12 := hlh5.trans zq13
    exact ⟨(y + 1, ((zi x12 s).1, ZC (zi x12 s).2 t.rv), (q3, d3), (Bo2, Bp2)), m12, by show t.args.length - (y + 1) < t.args.length - y; omega, ⟨hst12, hlh12, hfr12.sub (.c <| .c <| .c <| .c <| .c <| .nil), ⟨by show y + 1 ≤ t.args.length; omega, by rw [hrem]; first | rw [if_pos (show y = 0 ∧ t.kind = 5 ∧ 0 < t.rv by omega)] | rw [if_neg (show ¬ (y = 0 ∧ t.kind = 5 ∧ 0 < t.rv) by omega)], by have h9 : (zi x12 s).1.length + (zi x12 s).2.length ≤ zBc s + 2 * ZH x12 := Zu x12 s; have h8 := zAC (zi x12 s).2 t.rv; show (zi x12 s).1.length + (ZC (zi x12 s).2 t.rv).length + 2 * ZS (t.args.drop (y + 1)) + (if y + 1 = 0 then 1 else 0) ≤ 1073741824; rw [if_neg (Nat.succ_ne_zero y)]; omega⟩⟩⟩
   ·try simp only [nqs] at hb43
    refine zR ?_
    refine hK10 _ _ ?_
    refine rp0 hst10 hfr10 (.cons rfl (zy rfl rfl ⟨by omega, by omega⟩) <| .cons rfl (zG rfl) <| .nil) fun a11 w11 m11 hst11 hle11 hk11 => ?_
    have hfr11 := hk11.fr (.o 0 <| .o 3 <| .o 21 <| .o 22 <| .n 23 <| .nil)
    clear hst10 hfr10 hk11
    have hst11 := hst11.take 3
    have zq14 := hle10.trans hle11
    have zq15 := zq5.trans zq14
    have zq16 := hle6.trans zq15
    have hlh11 := hlh5.trans zq16
    exact ⟨(y + 1, ((zi x12 s).1, (zi x12 s).2), (q3, d3), (q4, d4)), m11, by show t.args.length - (y + 1) < t.args.length - y; omega, ⟨hst11, hlh11, hfr11.sub (.c <| .c <| .c <| .c <| .c <| .nil), ⟨by show y + 1 ≤ t.args.length; omega, by rw [hrem]; first | rw [if_pos (show y = 0 ∧ t.kind = 5 ∧ 0 < t.rv by omega)] | rw [if_neg (show ¬ (y = 0 ∧ t.kind = 5 ∧ 0 < t.rv) by omega)], by have h9 : (zi x12 s).1.length + (zi x12 s).2.length ≤ zBc s + 2 * ZH x12 := Zu x12 s; have h8 := zAC (zi x12 s).2 t.rv; show (zi x12 s).1.length + ((zi x12 s).2).length + 2 * ZS (t.args.drop (y + 1)) + (if y + 1 = 0 then 1 else 0) ≤ 1073741824; rw [if_neg (Nat.succ_ne_zero y)]; omega⟩⟩⟩
  ·try simp only [nqs] at hb24
   have hge : y = t.args.length := by omega
   rw [List.drop_of_length_le (by omega), Zo] at hrem
   refine z7 ?_
   repeat (with_reducible first | refine Zx ?_ | refine Zk ?_ | refine Zc ?_)
   exact zEJ hst6 hfr6 rfl (.nil) (⟨_, hst6.loc, _, _, by rw [hrem]⟩)
 ·try simp only [nqs] at hb8
  refine zR ?_
  refine hK3 _ _ ?_
  refine zE fun _ hK18 => ?_
  refine rp0 hst2 hfr2 (.cons rfl (zF (off := 3) rfl underlying45 rfl rfl sizeOf33 rfl) <| .cons rfl (zK rfl hc3 isAgg33 rfl) <| .cons rfl (zt rfl underlying33) <| .cons rfl (zG rfl) <| .nil) fun a3 w3 m3 hst3 hle3 hk3 => ?_
  have hfr3 := hk3.fr (.o 0 <| .o 3 <| .n 21 <| .n 22 <| .n 23 <| .nil)
  clear hst2 hfr2 hk3
  refine hK18 _ _ ?_
  refine zT ?_
  refine z6 (T := [(0, _), (3, _), (21, _), (22, _)]) (fun (y : Nat × (List Int × List Int) × (Option Addr × Nat) × (Option Addr × Nat)) => ([(23, .int .i64 (y.1 : Int))] : List (Nat × Value))) (fun y => [.blk (.pointer (some ⟨g, 0, none⟩)) (.cells #[.slice y.2.2.1.1 y.2.1.1.length y.2.2.1.2, .slice y.2.2.2.1 y.2.1.2.length y.2.2.2.2] 124), .row (.slice y.2.2.1.1 y.2.1.1.length y.2.2.1.2) (y.2.1.1).length 1 3 ((y.2.1.1).map zAE), .row (.slice y.2.2.2.1 y.2.1.2.length y.2.2.2.2) (y.2.1.2).length 1 3 ((y.2.1.2).map zAE)]) (fun (y : Nat × (List Int × List Int) × (Option Addr × Nat) × (Option Addr × Nat)) m => (fun (y : Nat) (s : List Int × List Int) => y ≤ t.args.length ∧ zi t (a, b) = Zo t.kind t.rv y (t.args.drop y) s ∧ zBc s + 2 * ZS (t.args.drop y) + (if y = 0 then 1 else 0) ≤ 1073741824) y.1 y.2.1) (fun y => t.args.length - y.1) ((0, (a, b), (_, _), (_, _))) ⟨hst3, MLe.refl _, hfr3.sub (.c <| .c <| .c <| .c <| .c <| .nil), ⟨Nat.zero_le _, by rw [zBM]; simp [hb8], by have := zAC a t.var; have h7 : (a).length ≤ a.length + 1 := (by omega); simp only [zBc, List.drop_zero, if_true]; omega⟩⟩ fun y a4 w4 m4 hh4 => ?_
  have hst4 := hh4.st; have hle4 := hh4.le; have hfr4 := hh4.fr; have hrel := hh4.rel; clear hh4
  clear hst3 hfr3
  obtain ⟨y, s, ⟨q1, d1⟩, ⟨q2, d2⟩⟩ := y
  dsimp only at hrel hfr4 hst4
  obtain ⟨hyn, hrem, hroom⟩ := hrel
  have hlh4 := hle4
  refine zE fun _ hK20 => ?_
  refine rp0 hst4 hfr4 (.cons rfl (ZG rfl rfl) <| .nil) fun a5 w5 m5 hst5 hle5 hk5 => ?_
  have hfr5 := hk5.fr (.o 23 <| .o 0 <| .o 3 <| .o 21 <| .o 22 <| .n 24 <| .nil)
  clear hst4 hfr4 hk5
  refine hK20 _ _ ?_
  refine zE fun _ hK21 => ?_
  refine zJ hfr5 rfl rfl (fun hb24 => ?_) (fun hb24 => ?_)
  ·try simp only [nqs] at hb24
   refine zR ?_
   refine hK21 _ _ ?_
   refine zE fun _ hK22 => ?_
   refine zT ?_
   refine zE fun _ hK23 => ?_
   have zq17 := hle4.trans hle5
   have zq18 := hle3.trans zq17
   replace hk_t := hk_t.mono zq18
   obtain ⟨p24, vs24, x24, ho24, hd24, hm_x24, ht24, hcv24, hl24, hv24⟩ := hk_t.nth (k := y) (by omega)
   cases ho24
   obtain ⟨o24, c24, oL24, cL24, rfl, hkd24, hs24, hi24, hj24, hr24⟩ := hv24.open_
   have hbg24 := hkd24.big; have hcp24 := hkd24.cap; have hbs24 := hs24.big; have hcs24 := hs24.cap
   have hrw24 : RwR _ ⟨x24.labels, x24.rv⟩ _ := ⟨_, _, rfl, hs24, hr24⟩
   replace hst5 := hst5.more (r := .free) trivial List.nodup_nil (by simp [Res.blocks])
   refine ra0 (tch := [(3, 3, (fun v => .blk v _)), (5, 3, (fun v => .blk v _))]) hst5 hfr5 (.cons rfl (zG rfl) <| .cons rfl (zN (k := y) rfl rfl underlying33 sizeOf45 rfl (by omega)) <| .cons rfl (zS rfl hcv24 isAgg45 sizeOf45 rfl rfl) <| .consT rfl rfl (fun _ => rfl) rfl (zj zeroValue45 rfl) <| .cons rfl (zH rfl) <| .consT rfl rfl (fun _ => rfl) rfl (ze 5 rfl rfl rfl fun y5 => ZD rfl rfl rfl rfl rfl sizeOf45 rfl rfl rfl) <| .nil) fun a6 w6 m6 hst6 hle6 hk6 => ?_
   have hfr6 := hk6.fr (.o 23 <| .o 0 <| .o 3 <| .o 21 <| .o 22 <| .n 4 <| .nil)
   obtain ⟨g25, e25, _⟩ := hk6.ex 5 rfl
   replace hfr6 := hfr6.cons e25
   replace hst6 := hst6.fin (L' := [_, _, _, _]) (.cons e25 <| .cons e25 <| .nil)
   clear hst5 hfr5 hk6
   rw [hd24, Zq] at hrem
   rw [hd24, ZS] at hroom
   refine hK23 _ _ ?_
   refine zE fun _ hK26 => ?_
   refine ZE 2 (by kernel_rfl) ?_
   refine ZN (tch := []) hst6 hfr6 (by kernel_rfl) (by kernel_rfl) (by kernel_rfl) (.cons rfl (zG rfl) <| .cons rfl (zAw (j := 3) rfl rfl isAgg45 sizeOf45 rfl rfl) <| .nil) fun a7 w7 m7 hst7 hle7 hk7 => ?_
   have hfr7 := hk7.fr (.o 23 <| .o 0 <| .o 3 <| .o 21 <| .o 22 <| .o 4 <| .o 5 <| .n 28 <| .n 29 <| .nil)
   clear hst6 hfr6 hk7
   have zq19 := hle6.trans hle7
   replace hv24 := hv24.mono zq19
   refine Zi [] [_] [_, _, _] hst7 hfr7 rfl (.cons rfl <| .cons rfl <| .nil) call95 (ih x24 hm_x24 hst7.agree (hst7.sub (A := []) (B := [_]) (rs := [_, _, _])) hv24 (by simp only [zBc] at hroom; omega)) ?_
   intro vr8 w8 m8 rs8 hst8 hle8 hp8
   obtain ⟨u1, u2, rfl⟩ := hp8
   simp only [List.nil_append, List.cons_append] at hst8
   obtain ⟨q3, d3, rfl, -, -, -, -⟩ := Res.row_at (hst8.loc.at_ (k := 1) rfl)
   obtain ⟨q4, d4, rfl, -, -, -, -⟩ := Res.row_at (hst8.loc.at_ (k := 2) rfl)
   have h9 := Zu x24 s
   have h9b : (zi x24 (s.1, s.2)).1.length + (zi x24 (s.1, s.2)).2.length ≤ zBc s + 2 * ZH x24 := Zu x24 s
   have hfr8 := (hfr7.sub (T' := [(23, _), (0, _), (3, _), (21, _), (22, _), (4, _), (5, _), (28, _), (29, _)]) (.cons rfl <| .cons rfl <| .cons rfl <| .cons rfl <| .cons rfl <| .cons rfl <| .cons rfl <| .cons rfl <| .cons rfl <| .nil)).put (d := 30) (v := vr8) (by kernel_rfl) rfl
   clear hst7 hfr7
   refine hK26 _ _ ?_
   refine zE fun _ hK27 => ?_
   have zq20 := zq19.trans hle8
   have zq21 := zq18.trans zq20
   replace hc3 := hc3.mono zq21
   refine rp0 hst8 hfr8 (.cons rfl (zG rfl) <| .cons rfl (zq rfl rfl) <| .cons rfl (zG rfl) <| .cons rfl (zF (off := 0) rfl underlying45 rfl rfl sizeOf3 rfl) <| .cons rfl (zK rfl hc3 isAgg3 rfl) <| .cons rfl (zq rfl rfl) <| .cons rfl (z8 rfl rfl rfl) <| .cons rfl (zG rfl) <| .cons rfl (zF (off := 4) rfl underlying45 rfl rfl sizeOf43 rfl) <| .cons rfl (zF (off := 1) rfl underlying43 rfl rfl sizeOf3 rfl) <| .cons rfl (zK rfl (hc3.drop 4) isAgg3 rfl) <| .cons rfl (zAU rfl rfl) <| .cons rfl (z8 rfl rfl rfl) <| .nil) fun a9 w9 m9 hst9 hle9 hk9 => ?_
   have hfr9 := hk9.fr (.o 23 <| .o 0 <| .o 3 <| .o 21 <| .o 22 <| .n 43 <| .nil)
   clear hst8 hfr8 hk9
   refine hK27 _ _ ?_
   refine zJ hfr9 rfl rfl (fun hb43 => ?_) (fun hb43 => ?_)
   ·try simp only [nqs] at hb43
    rw [if_pos (show y = 0 by omega)] at hroom
    have zq22 := zq21.trans hle9
    replace h_t := h_t.mono zq22
    replace hs_t := hs_t.mono zq22
    replace hrw_t := hrw_t.mono zq22
    replace hM := hM.trans zq22
    have zq23 := zq20.trans hle9
    replace hk_t := hk_t.mono zq23
    replace hcv24 := hcv24.mono zq23
    replace hkd24 := hkd24.mono zq23
    replace hs24 := hs24.mono zq23
    replace hrw24 := hrw24.mono zq23
    have zq24 := hle8.trans hle9
    replace hv24 := hv24.mono zq24
    replace hc3 := hc3.mono hle9
    refine zn (tch := [(9, 2, (fun v => .row v (ZC (zi x24 s).2 t.rv).length 1 3 ((ZC (zi x24 s).2 t.rv).map zAE))), (12, 0, (fun u => .blk _ (.cells (_ ++ [u] ++ _).toArray _)))]) (fun _ => mixed) hst9 hfr9 (by kernel_rfl) (by kernel_rfl) (by kernel_rfl) (.cons rfl (zG rfl) <| .cons rfl (zG rfl) <| .cons rfl (zg rfl) <| .cons rfl (zF (off := 1) rfl underlying124 rfl rfl sizeOf32 rfl) <| .cons rfl (zW (j := 0) rfl rfl isAgg32 rfl) <| .cons rfl (zF (off := 4) rfl underlying45 rfl rfl sizeOf43 rfl) <| .cons rfl (zF (off := 1) rfl underlying43 rfl rfl sizeOf3 rfl) <| .cons rfl (zK rfl (hc3.drop 4) isAgg3 rfl) <| .cons rfl (ZQ (.cons rfl <| .nil) underlying32 sizeOf3 zeroValue3 rfl rfl rfl rfl) <| .consT rfl rfl (fun _ => rfl) rfl (ze 52 rfl rfl rfl fun y52 => ZV rfl (.cons rfl <| .cons rfl <| .nil) call113 (κ := .ex (MP.sl (ZC (zi x24 s).2 t.rv).length ((ZC (zi x24 s).2 t.rv).map zAE))) (fun σ w m hK hr hkn => by have hle_ := KC.le hK; have hA := KC.agree hK; have hM := hM.trans hle_; have hr0_ := hK.2; have h_t := h_t.mono hle_; have hk_t := hk_t.mono hle_; have hs_t := hs_t.mono hle_; have hrw_t := hrw_t.mono hle_; have hc3 := hc3.mono hle_; have hcv24 := hcv24.mono hle_; have hv24 := hv24.mono hle_; have hkd24 := hkd24.mono hle_; have hs24 := hs24.mono hle_; have hrw24 := hrw24.mono hle_; exact with_c (ks := [t.rv]) hA hr (Sl.one hr0_ rfl rfl) (by have h9 : (zi x24 s).1.length + (zi x24 s).2.length ≤ zBc s + 2 * ZH x24 := Zu x24 s; simp only [List.length_cons, List.length_nil]; omega))) <| .cons rfl (zg rfl) <| .cons rfl (zF (off := 1) rfl underlying124 rfl rfl sizeOf32 rfl) <| .consT rfl rfl (fun _ => rfl) rfl (ze 53 rfl rfl rfl fun y53 => Ze rfl rfl rfl rfl rfl sizeOf32 rfl rfl rfl) <| .nil) fun a10 w10 m10 hst10 hle10 hk10 => ?_
    have hfr10 := hk10.fr (.o 23 <| .o 0 <| .o 3 <| .o 21 <| .o 22 <| .nil)
    obtain ⟨⟨Bo2, Bp2⟩, e28, hrow2_B, hcap2_B⟩ := hk10.ex 53 rfl
    replace hst10 := hst10.fin (L' := [_, _, _, _]) (.cons e28 <| .cons e28 <| .nil)
    clear hst9 hfr9 hk10
    refine hK22 _ _ ?_
    refine rp0 hst10 hfr10 (.cons rfl (zy rfl rfl ⟨by omega, by omega⟩) <| .cons rfl (zG rfl) <| .nil) fun a11 w11 m11 hst11 hle11 hk11 => ?_
    have hfr11 := hk11.fr (.o 0 <| .o 3 <| .o 21 <| .o 22 <| .n 23 <| .nil)
    clear hst10 hfr10 hk11
    have hst11 := hst11.take 3
    have zq25 := hle10.trans hle11
    have zq26 := zq23.trans zq25
    have zq27 := hle5.trans zq26
    have hlh11 := hlh4.trans zq27
    exact ⟨(y + 1, ((zi x24 s).1, ZC (zi x24 s).2 t.rv), (q3, d3), (Bo2, Bp2)), m11, by show t.args.length - (y + 1) < t.args.length - y; omega, ⟨hst11, hlh11, hfr11.sub (.c <| .c <| .c <| .c <| .c <| .nil), ⟨by show y + 1 ≤ t.args.length; omega, by rw [hrem]; first | rw [if_pos (show y = 0 ∧ t.kind = 5 ∧ 0 < t.rv by omega)] | rw [if_neg (show ¬ (y = 0 ∧ t.kind = 5 ∧ 0 < t.rv) by omega)], by have h9 : (zi x24 s).1.length + (zi x24 s).2.length ≤ zBc s + 2 * ZH x24 := Zu x24 s; have h8 := zAC (zi x24 s).2 t.rv; show (zi x24 s).1.length + (ZC (zi x24 s).2 t.rv).length + 2 * ZS (t.args.drop (y + 1)) + (if y + 1 = 0 then 1 else 0) ≤ 1073741824; rw [if_neg (Nat.succ_ne_zero y)]; omega⟩⟩⟩
   ·try simp only [nqs] at hb43
    refine zR ?_
    refine hK22 _ _ ?_
    refine rp0 hst9 hfr9 (.cons rfl (zy rfl rfl ⟨by omega, by omega⟩) <| .cons rfl (zG rfl) <| .nil) fun a10 w10 m10 hst10 hle10 hk10 => ?_
    have hfr10 := hk10.fr (.o 0 <| .o 3 <| .o 21 <| .o 22 <| .n 23 <| .nil)
    clear hst9 hfr9 hk10
    have hst10 := hst10.take 3
    have zq28 := hle9.trans hle10
    have zq29 := zq20.trans zq28
    have zq30 := hle5.trans zq29
    have hlh10 := hlh4.trans zq30
    exact ⟨(y + 1, ((zi x24 s).1, (zi x24 s).2), (q3, d3), (q4, d4)), m10, by show t.args.length - (y + 1) < t.args.length - y; omega, ⟨hst10, hlh10, hfr10.sub (.c <| .c <| .c <| .c <| .c <| .nil), ⟨by show y + 1 ≤ t.args.length; omega, by rw [hrem]; first | rw [if_pos (show y = 0 ∧ t.kind = 5 ∧ 0 < t.rv by omega)] | rw [if_neg (show ¬ (y = 0 ∧ t.kind = 5 ∧ 0 < t.rv) by omega)], by have h9 : (zi x24 s).1.length + (zi x24 s).2.length ≤ zBc s + 2 * ZH x24 := Zu x24 s; have h8 := zAC (zi x24 s).2 t.rv; show (zi x24 s).1.length + ((zi x24 s).2).length + 2 * ZS (t.args.drop (y + 1)) + (if y + 1 = 0 then 1 else 0) ≤ 1073741824; rw [if_neg (Nat.succ_ne_zero y)]; omega⟩⟩⟩
  ·try simp only [nqs] at hb24
   have hge : y = t.args.length := by omega
   rw [List.drop_of_length_le (by omega), Zo] at hrem
   refine z7 ?_
   repeat (with_reducible first | refine Zx ?_ | refine Zk ?_ | refine Zc ?_)
   exact zEJ hst5 hfr5 rfl (.nil) (⟨_, hst5.loc, _, _, by rw [hrem]⟩)
theorem walk_c (t : Ty) : walk_G t := Ty.rec_ (p := walk_G) (fun t ih => walk_s ih) t
set_option maxHeartbeats 400000 in
theorem samerow_c {w : World} {m : Mem} {a : Rw} {vs_a : List Value} {b : Rw} {vs_b : List Value} (hA : Agree w m) (h_a : RwR m a vs_a) (h_b : RwR m b vs_b) : FnV Tryz.prog 76 #[.agg vs_a.toArray, .agg vs_b.toArray] w m (fun _ _ v => v = .bool (decide (a.var = b.var) && decide (a.labels = b.labels))) := by
 obtain ⟨o_a, c_a, rfl, hs_a, hr_a⟩ := h_a.open_
 have hbs_a := hs_a.big; have hcs_a := hs_a.cap
 obtain ⟨o_b, c_b, rfl, hs_b, hr_b⟩ := h_b.open_
 have hbs_b := hs_b.big; have hcs_b := hs_b.cap
 refine zY (vs := [_, _]) func76 rfl rfl rfl fun a0 hfr0 => ?_
 have hst0 := zX hA (zw [] _ w m)
 have hM : MLe m m := MLe.refl m
 refine zE fun _ hK1 => ?_
 refine rp0 hst0 hfr0 (.cons rfl (ZA rfl rfl) <| .cons rfl (ZA rfl rfl) <| .cons rfl (zH rfl) <| .nil) fun a1 w1 m1 hst1 hle1 hk1 => ?_
 have hfr1 := hk1.fr (.nil)
 obtain ⟨g2, e2, hc2⟩ := hk1.ex 2 rfl
 replace hfr1 := hfr1.cons e2
 obtain ⟨g3, e3, hc3⟩ := hk1.ex 3 rfl
 replace hfr1 := hfr1.cons e3
 replace h_a := h_a.mono hle1
 replace hs_a := hs_a.mono hle1
 replace h_b := h_b.mono hle1
 replace hs_b := hs_b.mono hle1
 clear hst0 hfr0 hk1
 refine hK1 _ _ ?_
 refine zE fun _ hK4 => ?_
 refine rp0 hst1 hfr1 (.cons rfl (zF (off := 1) rfl underlying43 rfl rfl sizeOf3 rfl) <| .cons rfl (zK rfl hc2 isAgg3 rfl) <| .cons rfl (zF (off := 1) rfl underlying43 rfl rfl sizeOf3 rfl) <| .cons rfl (zK rfl hc3 isAgg3 rfl) <| .cons rfl (zq rfl rfl) <| .cons rfl (zG rfl) <| .cons rfl (zF (off := 0) rfl underlying43 rfl rfl sizeOf41 rfl) <| .cons rfl (zK rfl hc2 isAgg41 rfl) <| .cons rfl (zF (off := 0) rfl underlying43 rfl rfl sizeOf41 rfl) <| .cons rfl (zK rfl hc3 isAgg41 rfl) <| .cons rfl (zp rfl (.cons rfl <| .cons rfl <| .nil) call94 (fun w m hK => by have hle_ := KC.le hK; have hA := KC.agree hK; have h_a := h_a.mono hle_; have hs_a := hs_a.mono hle_; have h_b := h_b.mono hle_; have hs_b := hs_b.mono hle_; have hc2 := hc2.mono hle_; have hc3 := hc3.mono hle_; exact equalS_c hA (by first | assumption | omega | simp_all) (by first | assumption | omega | simp_all))) <| .cons rfl (z8 rfl rfl rfl) <| .cons rfl (zH rfl) <| .nil) fun a2 w2 m2 hst2 hle2 hk2 => ?_
 have hfr2 := hk2.fr (.n 4 <| .nil)
 clear hst1 hfr1 hk2
 refine hK4 _ _ ?_
 refine zU ?_
 repeat (with_reducible first | refine zL ?_ | refine zI ?_)
 exact zV hst2 hfr2 rfl (.tmp rfl <| .nil) (rfl)
abbrev same_G (t : Ty) : Prop := ∀ {w : World} {m : Mem} {vs_t : List Value} {u : Ty} {vs_u : List Value} (hA : Agree w m) (h_t : TyR m t vs_t) (h_u : TyR m u vs_u), FnV Tryz.prog 54 #[.agg vs_t.toArray, .agg vs_u.toArray] w m (fun _ _ v => v = .bool (zCD t u))
set_option maxHeartbeats 400000 in
theorem same_s {t : Ty} (ih : ∀ u ∈ t.args, same_G u) {w : World} {m : Mem} {vs_t : List Value} {u : Ty} {vs_u : List Value} (hA : Agree w m) (h_t : TyR m t vs_t) (h_u : TyR m u vs_u) : FnV Tryz.prog 54 #[.agg vs_t.toArray, .agg vs_u.toArray] w m (fun _ _ v => v = .bool (zCD t u)) := by
 obtain ⟨o_t, c_t, oL_t, cL_t, rfl, hk_t, hs_t, hi_t, hj_t, hr_t⟩ := h_t.open_
 have hbg_t := hk_t.big; have hcp_t := hk_t.cap; have hbs_t := hs_t.big; have hcs_t := hs_t.cap
 have hrw_t : RwR _ ⟨t.labels, t.rv⟩ _ := ⟨_, _, rfl, hs_t, hr_t⟩
 obtain ⟨o_u, c_u, oL_u, cL_u, rfl, hk_u, hs_u, hi_u, hj_u, hr_u⟩ := h_u.open_
 have hbg_u := hk_u.big; have hcp_u := hk_u.cap; have hbs_u := hs_u.big; have hcs_u := hs_u.cap
 have hrw_u : RwR _ ⟨u.labels, u.rv⟩ _ := ⟨_, _, rfl, hs_u, hr_u⟩
 refine zY (vs := [_, _]) func54 rfl rfl rfl fun a0 hfr0 => ?_
 have hst0 := zX hA (zw [] _ w m)
 have hM : MLe m m := MLe.refl m
 refine zE fun _ hK1 => ?_
 refine rp0 hst0 hfr0 (.cons rfl (ZA rfl rfl) <| .cons rfl (ZA rfl rfl) <| .cons rfl (zH rfl) <| .nil) fun a1 w1 m1 hst1 hle1 hk1 => ?_
 have hfr1 := hk1.fr (.nil)
 obtain ⟨g2, e2, hc2⟩ := hk1.ex 2 rfl
 replace hfr1 := hfr1.cons e2
 obtain ⟨g3, e3, hc3⟩ := hk1.ex 3 rfl
 replace hfr1 := hfr1.cons e3
 replace hk_t := hk_t.mono hle1
 replace hrw_t := hrw_t.mono hle1
 replace hk_u := hk_u.mono hle1
 replace hrw_u := hrw_u.mono hle1
 clear hst0 hfr0 hk1
 refine hK1 _ _ ?_
 refine zE fun _ hK4 => ?_
 refine rp0 hst1 hfr1 (.cons rfl (zF (off := 0) rfl underlying45 rfl rfl sizeOf3 rfl) <| .cons rfl (zK rfl hc2 isAgg3 rfl) <| .cons rfl (zF (off := 0) rfl underlying45 rfl rfl sizeOf3 rfl) <| .cons rfl (zK rfl hc3 isAgg3 rfl) <| .cons rfl (zq rfl rfl) <| .cons rfl (zG rfl) <| .cons rfl (zF (off := 1) rfl underlying45 rfl rfl sizeOf9 rfl) <| .cons rfl (zK rfl hc2 isAgg9 rfl) <| .cons rfl (zF (off := 1) rfl underlying45 rfl rfl sizeOf9 rfl) <| .cons rfl (zK rfl hc3 isAgg9 rfl) <| .cons rfl (zBg rfl rfl) <| .cons rfl (z8 rfl rfl rfl) <| .cons rfl (zG rfl) <| .cons rfl (zF (off := 2) rfl underlying45 rfl rfl sizeOf3 rfl) <| .cons rfl (zK rfl hc2 isAgg3 rfl) <| .cons rfl (zF (off := 2) rfl underlying45 rfl rfl sizeOf3 rfl) <| .cons rfl (zK rfl hc3 isAgg3 rfl) <| .cons rfl (zq rfl rfl) <| .cons rfl (z8 rfl rfl rfl) <| .cons rfl (zG rfl) <| .cons rfl (zF (off := 4) rfl underlying45 rfl rfl sizeOf43 rfl) <| .cons rfl (Zs rfl hc2 isAgg43 sizeOf43 rfl rfl) <| .cons rfl (zF (off := 4) rfl underlying45 rfl rfl sizeOf43 rfl) <| .cons rfl (Zs rfl hc3 isAgg43 sizeOf43 rfl rfl) <| .cons rfl (zp rfl (.cons rfl <| .cons rfl <| .nil) call76 (fun w m hK => by have hle_ := KC.le hK; have hA := KC.agree hK; have hrw_t := hrw_t.mono hle_; have hrw_u := hrw_u.mono hle_; exact samerow_c (a := ⟨t.labels, t.rv⟩) (b := ⟨u.labels, u.rv⟩) hA hrw_t hrw_u)) <| .cons rfl (z8 rfl rfl rfl) <| .cons rfl (zG rfl) <| .cons rfl (zF (off := 3) rfl underlying45 rfl rfl sizeOf33 rfl) <| .cons rfl (zK rfl hc2 isAgg33 rfl) <| .cons rfl (zF (off := 3) rfl underlying45 rfl rfl sizeOf33 rfl) <| .cons rfl (zK rfl hc3 isAgg33 rfl) <| .cons rfl (zp rfl (.cons rfl <| .cons rfl <| .cons rfl <| .nil) call77 (fun w m hK => by have hle_ := KC.le hK; have hA := KC.agree hK; have hk_t := hk_t.mono hle_; have hk_u := hk_u.mono hle_; exact equalfT_c (ψ := zCD) (cap := []) hA hk_t hk_u call54 (fun w m2 u1 u2 vs us hm ha hv hu h1 h2 => ih u1 h1 ha hv hu))) <| .cons rfl (z8 rfl rfl rfl) <| .cons rfl (zH rfl) <| .nil) fun a2 w2 m2 hst2 hle2 hk2 => ?_
 have hfr2 := hk2.fr (.n 4 <| .nil)
 clear hst1 hfr1 hk2
 refine hK4 _ _ ?_
 refine zU ?_
 repeat (with_reducible first | refine zL ?_ | refine zI ?_)
 exact zV hst2 hfr2 rfl (.tmp rfl <| .nil) (by refine congrArg Value.bool ?_; rw [zGO, zDm])
theorem same_c (t : Ty) : same_G t := Ty.rec_ (p := same_G) (fun t ih => same_s ih) t
set_option maxHeartbeats 400000 in
theorem vars_c {w : World} {m : Mem} {t : Ty} {vs_t : List Value} (hA : Agree w m) (h_t : TyR m t vs_t) (hb : ZH t ≤ 100000000) : FnV Tryz.prog 78 #[.agg vs_t.toArray] w m (fun _ m v => (MP.two (zi t ([], [])).1 (zi t ([], [])).2).p m v) := by
 obtain ⟨o_t, c_t, oL_t, cL_t, rfl, hk_t, hs_t, hi_t, hj_t, hr_t⟩ := h_t.open_
 have hbg_t := hk_t.big; have hcp_t := hk_t.cap; have hbs_t := hs_t.big; have hcs_t := hs_t.cap
 have hrw_t : RwR _ ⟨t.labels, t.rv⟩ _ := ⟨_, _, rfl, hs_t, hr_t⟩
 refine zY (vs := [_]) func78 rfl rfl rfl fun a0 hfr0 => ?_
 have hst0 := zX hA (zw [] _ w m)
 have hM : MLe m m := MLe.refl m
 refine zE fun _ hK1 => ?_
 refine rp0 hst0 hfr0 (.cons rfl (ZA rfl rfl) <| .cons rfl (zH rfl) <| .cons rfl (zH rfl) <| .nil) fun a1 w1 m1 hst1 hle1 hk1 => ?_
 have hfr1 := hk1.fr (.nil)
 obtain ⟨g2, e2, hc1⟩ := hk1.ex 1 rfl
 replace hfr1 := hfr1.cons e2
 replace h_t := h_t.mono hle1
 clear hst0 hfr0 hk1
 refine hK1 _ _ ?_
 refine zE fun _ hK3 => ?_
 replace hst1 := hst1.more (r := .free) trivial List.nodup_nil (by simp [Res.blocks])
 refine ra0 (tch := [(0, 0, (fun v => .blk v _))]) hst1 hfr1 (.consT rfl rfl (fun _ => rfl) rfl (zj zeroValue124 rfl) <| .nil) fun a2 w2 m2 hst2 hle2 hk2 => ?_
 have hfr2 := hk2.fr (.o 1 <| .nil)
 obtain ⟨gv, e4, _⟩ := hk2.ex 4 rfl
 replace hfr2 := hfr2.cons e4
 replace hst2 := hst2.fin (L' := [_]) (.cons e4 <| .nil)
 replace h_t := h_t.mono hle2
 replace hc1 := hc1.mono hle2
 clear hst1 hfr1 hk2
 have hst2 := (hst2.more (r := .row (.slice none 0 0) 0 1 3 []) ⟨rfl, .inl ⟨rfl, rfl⟩⟩ List.nodup_nil (by simp [Res.blocks, Zd])).more (r := .row (.slice none 0 0) 0 1 3 []) ⟨rfl, .inl ⟨rfl, rfl⟩⟩ List.nodup_nil (by simp [Res.blocks, Zd])
 refine hK3 _ _ ?_
 refine zE fun _ hK5 => ?_
 refine ZE 1 (by kernel_rfl) ?_
 refine ZN (tch := []) hst2 hfr2 (by kernel_rfl) (by kernel_rfl) (by kernel_rfl) (.cons rfl (zS rfl hc1 isAgg45 sizeOf45 rfl rfl) <| .nil) fun a3 w3 m3 hst3 hle3 hk3 => ?_
 have hfr3 := hk3.fr (.o 1 <| .o 4 <| .n 5 <| .nil)
 replace h_t := h_t.mono hle3
 clear hst2 hfr2 hk3
 refine Zi [] [] [_, _, _] hst3 hfr3 rfl (.cons rfl <| .cons rfl <| .nil) call95 (walk_c t (v1 := .slice none 0 0) (v2 := .slice none 0 0) (a := []) (b := []) hst3.agree (hst3.sub (A := []) (B := []) (rs := [_, _, _])) h_t (by simp only [List.length_nil]; omega)) ?_
 intro vr4 w4 m4 rs4 hst4 hle4 hp4
 obtain ⟨u1, u2, rfl⟩ := hp4
 simp only [List.nil_append, List.cons_append] at hst4
 obtain ⟨q3, d3, rfl, hq3, hd3, he3, -⟩ := Res.row_at (hst4.loc.at_ (k := 1) rfl)
 obtain ⟨q4, d4, rfl, hq4, hd4, he4, -⟩ := Res.row_at (hst4.loc.at_ (k := 2) rfl)
 have hfr4 := (hfr3.sub (T' := [(1, _), (4, _), (5, _)]) (.cons rfl <| .cons rfl <| .cons rfl <| .nil)).put (d := 6) (v := vr4) (by kernel_rfl) rfl
 clear hst3 hfr3
 refine hK5 _ _ ?_
 refine zE fun _ hK6 => ?_
 refine Zf (fun _ => mixed) hst4 hfr4 (by kernel_rfl) (by kernel_rfl) (.cons rfl (zF (off := 0) rfl underlying124 rfl rfl sizeOf32 rfl) <| .cons rfl (zW (j := 0) rfl rfl isAgg32 rfl) <| .cons rfl (zF (off := 1) rfl underlying124 rfl rfl sizeOf32 rfl) <| .cons rfl (zW (j := 0) rfl rfl isAgg32 rfl) <| .cons rfl (zH rfl) <| .cons rfl (zH rfl) <| .nil) fun a5 w5 m5 hst5 hle5 hk5 => ?_
 have hfr5 := hk5.fr (.n 2 <| .n 3 <| .nil)
 replace hq3 := hq3.mono hle5
 replace hq4 := hq4.mono hle5
 clear hst4 hfr4 hk5
 refine hK6 _ _ ?_
 refine zU ?_
 repeat (with_reducible first | refine zL ?_ | refine zI ?_)
 exact zV hst5 hfr5 rfl (.tmp rfl <| .tmp rfl <| .nil) (⟨((q3, d3), (q4, d4)), rfl, Ints.of_rowI hq3 hd3 he3, Ints.of_rowI hq4 hd4 he4⟩)
end Go.Proofs.YtlidonjpgigocaaGreat
namespace Go.Proofs.YtlidonjpgigocaaGreat
set_option linter.all false
open Go.RowKit
theorem pack_at {bs : List Nat} {ψ : World → Mem → Prop} {w : World} {m : Mem} (h : (Res.pack bs ψ).holds w m) (ha : Agree w m) : ψ w m := h.2 [] w m (ExtG.refl _ ha) (by simp)
theorem pack_of {α : Type} {bs : List Nat} {Ly : α → List Res} {J : α → Mem → Prop} (hJ : ∀ y m m', MLe m m' → J y m → J y m') {y : α} {w : World} {m : Mem} (hb : (Ly y).flatMap Res.blocks = bs)
  (h : ∀ r ∈ Ly y, r.holds w m) (hj : J y m) : (Res.pack bs fun w m => ∃ y, (Ly y).flatMap Res.blocks = bs ∧ (∀ r ∈ Ly y, r.holds w m) ∧ J y m).holds w m := by
 subst hb
 refine ⟨fun g hg => ?_, fun G w' m' hE hd => ⟨y, rfl, fun r hr => Res.keep (h r hr) hE fun g hg => hd g (List.mem_flatMap.2 ⟨r, hr, hg⟩), hJ y _ _ hE.le hj⟩⟩
 obtain ⟨r, hr, hgr⟩ := List.mem_flatMap.1 hg
 exact Res.lt (h r hr) g hgr
theorem St.weaken {G0 : List Nat} {W : World} {mE : Mem} {L : List Res} {k : Nat} {r r' : Res} {w : World} {m : Mem} (h : St G0 W mE L w m) (hk : L[k]? = some r) (hb : r'.blocks = r.blocks) (hh : r.holds w m → r'.holds w m) : St G0 W mE (L.set k r') w m := by
 have hnd : r.blocks.Nodup := by
  have := h.loc.apart
  have hm := List.mem_of_getElem? hk
  have hs : List.Sublist r.blocks (L.flatMap Res.blocks) := by
   obtain ⟨a, b, e⟩ := List.append_of_mem hm
   rw [e]; simp only [List.flatMap_append, List.flatMap_cons]
   exact (List.sublist_append_left _ _).trans (List.sublist_append_right _ _)
  exact this.sublist hs
 exact h.touch hk ⟨ExtG.refl _ h.agree, hh (h.loc.at_ hk), by rw [hb]; exact hnd, fun g hg => .inl (by rw [← hb]; exact hg)⟩
section
variable {P : Program} {rd : Option Nat} {K : World → Mem → Prop} {m0 : Mem} {L : List Res} {us : List Nat} {ch : List (Nat × Bool)} {pre : List Ent} {T : List (Nat × Value)}
variable {dst : Option Nat} {ty : TypeId} {pos : String} {af : Array Edge} {gd : Option (Nat × Bool)}
end
section
variable {P : Program}
end
end Go.Proofs.YtlidonjpgigocaaGreat
namespace Go.Proofs.YtlidonjpgigocaaGreat
open Go.Proofs.Tryz
set_option linter.all false
set_option maxRecDepth 4000
open Go.RowKit
abbrev QQ := Option Nat × Option Nat
theorem zBV {α : Type} (k n : Int) (x : α) : ∀ l : List (Int × α), zP k (zBF n x l) = if k = n then some x else zP k l
 | [] => by simp [zBF, zP]
 | (a, u) :: l => by
  simp only [zBF]
  by_cases h : n = a
  ·subst h; rw [if_pos rfl]; simp only [zP]; by_cases hk : k = n <;> simp [hk]
  ·rw [if_neg h]; simp only [zP, zBV k n x l]
   by_cases hk : k = a
   ·subst hk; rw [if_pos rfl, if_pos rfl, if_neg (fun e => h e.symm)]
   ·rw [if_neg hk, if_neg hk]
theorem zGL (t : Ty) : zCD t t = true := (zFC t t).2 rfl
theorem zDp {α : Type} (k : Int) (d : List (Int × α)) : ∀ l : List (Int × α), zP k (l ++ d) = (zP k l).or (zP k d)
 | [] => by simp [zP]
 | (a, u) :: l => by
  simp only [List.cons_append, zP, zDp k d l]
  split <;> simp
theorem zBr {α : Type} {k : Int} {x : α} : ∀ {l : List (Int × α)}, zP k l = some x → (k, x) ∈ l
 | (a, u) :: l, h => by
  simp only [zP] at h
  split at h
  ·rename_i e; injection h with h; subst h; subst e; exact .head _
  ·exact .tail _ (zBr h)
theorem zAX {α : Type} {k : Int} : ∀ {l : List (Int × α)}, zP k l = none ↔ ¬ k ∈ l.map Prod.fst
 | [] => by simp [zP]
 | (a, u) :: l => by
  simp only [zP, List.map_cons, List.mem_cons]
  by_cases e : k = a
  ·simp [e]
  ·simp [e, zAX (l := l)]
theorem Z7 {α : Type} {k : Int} {x : α} {l : List (Int × α)} (hn : (l.map Prod.fst).Nodup) (h : (k, x) ∈ l) : zP k l = some x := by
 induction l with
 | nil => cases h
 | cons p l ih =>
  obtain ⟨a, u⟩ := p
  rw [List.map_cons, List.nodup_cons] at hn
  simp only [zP]
  rcases List.mem_cons.1 h with h | h
  ·injection h with h1 h2; subst h1; subst h2; rw [if_pos rfl]
  ·have hne : ¬ k = a := fun e => hn.1 (e ▸ List.mem_map.2 ⟨(k, x), h, rfl⟩)
   rw [if_neg hne]; exact ih hn.2 h
theorem alook_perm {α : Type} {l l' : List (Int × α)} (hp : l.Perm l') (hn : (l.map Prod.fst).Nodup) (k : Int) : zP k l = zP k l' := by
 have hn' : (l'.map Prod.fst).Nodup := (hp.map _).nodup_iff.1 hn
 cases h : zP k l with
 | none => exact (zAX.2 fun hm => zAX.1 h ((hp.map Prod.fst).mem_iff.2 hm)).symm
 | some x => exact (Z7 hn' (hp.mem_iff.1 (zBr h))).symm
def Over {α : Type} (f : α → α) (l b o : List (Int × α)) : Prop := ∀ k, zP k o = ((zP k l).map f).or (zP k b)
theorem Over.nil {α : Type} (f : α → α) (b : List (Int × α)) : Over f [] b b := fun k => by simp [zP]
theorem Over.snoc {α : Type} {f : α → α} {l b o : List (Int × α)} (h : Over f l b o) {k : Int} (x : α) (hk : zP k l = none) : Over f (l ++ [(k, x)]) b (zBF k (f x) o) := fun j => by
 rw [zBV, zDp, h j]
 by_cases e : j = k
 ·subst e; rw [if_pos rfl, hk]; simp [zP]
 ·rw [if_neg e]; simp [zP, e]
theorem Over.perm {α : Type} {f : α → α} {l l' b o : List (Int × α)} (h : Over f l b o) (hp : l.Perm l') (hn : (l.map Prod.fst).Nodup) : Over f l' b o := fun k => by rw [h k, alook_perm hp hn]
theorem zBa {B : Nat} {s : Sub} (h : SubW B s) (t : Ty) : wdT (zM s t) ≤ wdT t + B := by
 induction t using Ty.rec_ with
 | h t ih =>
  by_cases h7 : t.kind = 7
  ·rw [ZP h7]
   cases hq : zP t.var s.ts with
   | none => show wdT t ≤ _; omega
   | some x => have := h.1 _ _ hq; show wdT x ≤ _; omega
  ·rw [Zb h7, zAt, zAt t]
   have hl : (zQ s ⟨t.labels, t.rv⟩).labels.length ≤ t.labels.length + B := zAr h ⟨t.labels, t.rv⟩
   have key : ∀ l : List Ty, (∀ u ∈ l, u ∈ t.args) → zCG (zo s l) ≤ zCG l + B := by
    intro l
    induction l with
    | nil => intro _; rw [zo]; simp only [zCG]; omega
    | cons x l ihl =>
     intro hl
     have h1 := ih x (hl x (.head _)); have h2 := ihl fun u hu => hl u (.tail _ hu)
     rw [zo]; simp only [zCG]; omega
   have hk := key t.args fun u hu => hu
   have ha := zBZ s t.args
   show max (if t.kind = 5 then (zQ s ⟨t.labels, t.rv⟩).labels else t.labels).length (max (zo s t.args).length (zCG (zo s t.args))) ≤ max t.labels.length (max t.args.length (zCG t.args)) + B
   split <;> omega
def ThenS (a b o : Sub) : Prop := Over (zM b) a.ts b.ts o.ts ∧ Over (zQ b) a.rs b.rs o.rs
theorem ThenS.w {a b o : Sub} {A B : Nat} (h : ThenS a b o) (ha : SubW A a) (hb : SubW B b) : SubW (A + B) o := ⟨fun n t ht => by
 rw [h.1 n] at ht
 cases hq : zP n a.ts with
 | none => rw [hq] at ht; have := hb.1 n t (by simpa using ht); omega
 | some x => rw [hq] at ht; simp at ht; subst ht; have h1 := zBa hb x; have h2 := ha.1 n x hq; omega, fun n t ht => by
 rw [h.2 n] at ht
 cases hq : zP n a.rs with
 | none => rw [hq] at ht; have := hb.2 n t (by simpa using ht); omega
 | some x => rw [hq] at ht; simp at ht; subst ht; have h1 := zAr hb x; have h2 := ha.2 n x hq; omega⟩
theorem zGN {κ α : Type} {k : κ} {x : α} {d l : List (κ × α)} {L : List (κ × α)} (hp : (d ++ (k, x) :: l).Perm L) (hn : (L.map Prod.fst).Nodup) : ¬ k ∈ d.map Prod.fst := by
 have h := (hp.map Prod.fst).nodup_iff.2 hn
 rw [List.map_append, List.map_cons] at h
 exact fun hk => (List.nodup_append.1 h).2.2 k hk k (.head _) rfl
def zAZ (s : Sub) : Prop := (s.ts.map Prod.fst).Nodup ∧ (s.rs.map Prod.fst).Nodup
theorem aset_keys {α : Type} (n : Int) (x : α) : ∀ l : List (Int × α), (zBF n x l).map Prod.fst = if n ∈ l.map Prod.fst then l.map Prod.fst else l.map Prod.fst ++ [n]
 | [] => by simp [zBF]
 | (a, u) :: l => by
  simp only [zBF]
  by_cases h : n = a
  ·subst h; simp
  ·rw [if_neg h, List.map_cons, aset_keys n x l]
   by_cases h2 : n ∈ l.map Prod.fst
   ·rw [if_pos h2, if_pos (by simp only [List.map_cons]; exact .tail _ h2)]; rfl
   ·rw [if_neg h2, if_neg (by simp only [List.map_cons, List.mem_cons, not_or]; exact ⟨h, h2⟩)]; rfl
theorem zBp {α : Type} {n : Int} {x : α} {l : List (Int × α)} (h : (l.map Prod.fst).Nodup) : ((zBF n x l).map Prod.fst).Nodup := by
 rw [aset_keys]
 split
 ·exact h
 ·rename_i hn
  exact List.nodup_append.2 ⟨h, by simp, fun a ha b hb e => by rw [List.mem_singleton] at hb; subst hb; subst e; exact hn ha⟩
def MP.thenA (a b : Sub) : MP := MP.mem (fun y : Sub × QQ => .agg (zAJ y.2).toArray) (fun y m => SubR m y.1 (zAJ y.2) ∧ ThenS a b y.1 ∧ zAZ y.1) fun hm h => ⟨h.1.mono hm, h.2⟩
set_option maxHeartbeats 3200000 in
theorem then_c {w : World} {m : Mem} {a : Sub} {vs_a : List Value} {b : Sub} {vs_b : List Value} (hA : Agree w m) (h_a : SubR m a vs_a) (h_b : SubR m b vs_b) (hn_ts : (a.ts.map Prod.fst).Nodup) (hn_rs : (a.rs.map Prod.fst).Nodup) (hwa : SubW 300000000 a) (hwb : SubW 300000000 b) (hnb : zAZ b) : FnV Tryz.prog 85 #[.agg vs_a.toArray, .agg vs_b.toArray] w m (fun _ m v => (MP.thenA a b).p m v) := by
 obtain ⟨oT_a, oR_a, rfl, hst_a, hsr_a⟩ := id h_a
 obtain ⟨oT_b, oR_b, rfl, hst_b, hsr_b⟩ := id h_b
 refine zY (vs := [_, _]) func85 rfl rfl rfl fun a0 hfr0 => ?_
 have hst0 := zX hA (zw [] _ w m)
 have hM : MLe m m := MLe.refl m
 refine zE fun _ hK1 => ?_
 replace hst0 := hst0.more (r := .free) trivial List.nodup_nil (by simp [Res.blocks])
 refine ra0 (tch := [(2, 0, (fun v => .blk v _))]) hst0 hfr0 (.cons rfl (ZA rfl rfl) <| .cons rfl (ZA rfl rfl) <| .consT rfl rfl (fun _ => rfl) rfl (zj zeroValue29 rfl) <| .nil) fun a1 w1 m1 hst1 hle1 hk1 => ?_
 have hfr1 := hk1.fr (.nil)
 obtain ⟨g2, e2, hc2⟩ := hk1.ex 2 rfl
 replace hfr1 := hfr1.cons e2
 obtain ⟨g3, e3, hc3⟩ := hk1.ex 3 rfl
 replace hfr1 := hfr1.cons e3
 obtain ⟨g4, e4, _⟩ := hk1.ex 4 rfl
 replace hfr1 := hfr1.cons e4
 replace hst1 := hst1.fin (L' := [_]) (.cons e4 <| .nil)
 replace hst_a := hst_a.mono hle1
 replace hsr_a := hsr_a.mono hle1
 replace h_b := h_b.mono hle1
 clear hst0 hfr0 hk1
 refine hK1 _ _ ?_
 refine zE fun _ hK5 => ?_
 replace hst1 := hst1.more (r := .free) trivial List.nodup_nil (by simp [Res.blocks])
 refine ra0 (tch := [(1, 1, (fun v => .blk v _)), (2, 1, (fun v => .blk v _))]) hst1 hfr1 (.cons rfl (zS rfl hc3 isAgg29 sizeOf29 rfl rfl) <| .consT rfl rfl (fun _ => rfl) rfl (zj zeroValue29 rfl) <| .consT rfl rfl (fun _ => rfl) rfl (ze 5 rfl rfl rfl fun y5 => ZD rfl rfl rfl rfl rfl sizeOf29 rfl rfl rfl) <| .nil) fun a2 w2 m2 hst2 hle2 hk2 => ?_
 have hfr2 := hk2.fr (.o 2 <| .o 3 <| .o 4 <| .nil)
 obtain ⟨g5, e6, _⟩ := hk2.ex 5 rfl
 replace hfr2 := hfr2.cons e6
 replace hst2 := hst2.fin (L' := [_, _]) (.cons e6 <| .cons e6 <| .nil)
 try simp only [List.take_succ_cons, List.take_zero, List.drop_succ_cons, List.drop_zero, List.cons_append, List.nil_append, List.append_nil, List.length_cons, List.length_nil, Nat.zero_add, Nat.reduceAdd] at hst2
 replace hst_a := hst_a.mono hle2
 replace hsr_a := hsr_a.mono hle2
 replace h_b := h_b.mono hle2
 replace hc2 := hc2.mono hle2
 replace hc3 := hc3.mono hle2
 clear hst1 hfr1 hk2
 refine hK5 _ _ ?_
 refine zE fun _ hK7 => ?_
 refine zE fun _ hK8 => ?_
 obtain ⟨es9, hrv9, hes9⟩ := id hst_a
 replace hst2 := hst2.more (r := .free) trivial List.nodup_nil (by simp [Res.blocks])
 refine ra0 (tch := [(2, 2, (fun v => .iter v _ none))]) hst2 hfr2 (.cons rfl (zF (off := 0) rfl underlying29 rfl rfl sizeOf25 rfl) <| .cons rfl (zK rfl hc2 isAgg25 rfl) <| .consT rfl rfl (fun _ => rfl) rfl (ob_range rfl underlying25 (fun w m hK => hrv9.mono (KC.le hK))) <| .nil) fun a3 w3 m3 hst3 hle3 hk3 => ?_
 have hfr3 := hk3.fr (.o 2 <| .o 3 <| .o 4 <| .o 5 <| .nil)
 obtain ⟨gr9, e10, _⟩ := hk3.ex 13 rfl
 replace hfr3 := hfr3.cons e10
 replace hst3 := hst3.fin (L' := [_, _, _]) (.cons e10 <| .nil)
 replace hsr_a := hsr_a.mono hle3
 replace h_b := h_b.mono hle3
 replace hc2 := hc2.mono hle3
 replace hc3 := hc3.mono hle3
 replace hes9 := hes9.mono hle3
 clear hst2 hfr2 hk3
 refine hK8 _ _ ?_
 refine zT ?_
 refine z6 (T := [(2, _), (3, _), (4, _), (5, _), (13, _)]) (fun (y : (List (Int × Value)) × (List (Int × Ty)) × (List (Int × Ty)) × (Option (Value × Value)) × (Sub) × (QQ)) => ([] : List (Nat × Value))) (fun y => [_, .blk (.pointer (some ⟨g5, 0, none⟩)) (.cells (zAJ y.2.2.2.2.2).toArray 29), .iter (.pointer (some ⟨gr9, 0, none⟩)) (zBR KI y.1) y.2.2.2.1]) (fun (y : (List (Int × Value)) × (List (Int × Ty)) × (List (Int × Ty)) × (Option (Value × Value)) × (Sub) × (QQ)) m => (fun (es : List (Int × Value)) (l : List (Int × Ty)) (dn : List (Int × Ty)) (la : Option (Value × Value)) (o : Sub) (q : QQ) => (EntsR RTy m es l) ∧ ((dn ++ l).Perm a.ts) ∧ (SubR m o (zAJ q)) ∧ (Over (zM b) dn b.ts o.ts) ∧ (o.rs = b.rs) ∧ (zAZ o)) y.1 y.2.1 y.2.2.1 y.2.2.2.1 y.2.2.2.2.1 y.2.2.2.2.2) (fun y => y.2.1.length) ((es9, a.ts, [], none, b, (oT_b, oR_b))) ⟨hst3, MLe.refl _, hfr3.sub (.c <| .c <| .c <| .c <| .c <| .nil), ⟨hes9, by simp, h_b, Over.nil _ _, rfl, hnb⟩⟩ fun y a4 w4 m4 hh4 => ?_
 have hst4 := hh4.st; have hle4 := hh4.le; have hfr4 := hh4.fr; have hrel := hh4.rel; clear hh4
 replace hsr_a := hsr_a.mono hle4
 replace h_b := h_b.mono hle4
 replace hc2 := hc2.mono hle4
 replace hc3 := hc3.mono hle4
 replace hes9 := hes9.mono hle4
 clear hst3 hfr3
 obtain ⟨es, l, dn, la, o, q⟩ := y
 dsimp only at hrel hfr4 hst4
 obtain ⟨hes9, hpm, hO, hov, hot, hap9⟩ := hrel
 have hlh4 := hle4
 refine zE fun _ hK12 => ?_
 refine ZE 1 (by kernel_rfl) ?_
 refine ZN (tch := [(0, 2, (zBE _ _))]) hst4 hfr4 (by kernel_rfl) (by kernel_rfl) (by kernel_rfl) (.consT rfl rfl (fun _ => rfl) rfl (ob_next rfl) <| .nil) fun a5 w5 m5 hst5 hle5 hk5 => ?_
 have hfr5 := hk5.fr (.o 2 <| .o 3 <| .o 4 <| .o 5 <| .o 13 <| .nil)
 obtain ⟨yn9, e14, hyn9⟩ := hk5.ex 14 rfl
 replace hfr5 := hfr5.cons e14
 replace hst5 := hst5.fin (L' := [_, _, _]) (.cons e14 <| .nil)
 replace hsr_a := hsr_a.mono hle5
 replace h_b := h_b.mono hle5
 replace hc2 := hc2.mono hle5
 replace hc3 := hc3.mono hle5
 replace hes9 := hes9.mono hle5
 replace hO := hO.mono hle5
 have hlh5 := hlh4.trans hle5
 clear hst4 hfr4 hk5
 rcases yn9 with _ | e9
 ·skip
  have hl0 := EntsR.nil_iff hes9 hyn9
  subst hl0
  dsimp only [MP.next, MP.mem, nextV, zBE] at hst5 hfr5
  refine ZN (tch := []) hst5 hfr5 (by kernel_rfl) (by kernel_rfl) (by kernel_rfl) (.cons rfl (zk rfl rfl) <| .nil) fun a6 w6 m6 hst6 hle6 hk6 => ?_
  have hfr6 := hk6.fr (.o 2 <| .o 3 <| .o 4 <| .o 5 <| .o 13 <| .o 14 <| .n 15 <| .nil)
  clear hst5 hfr5 hk6
  refine hK12 _ _ ?_
  refine zE fun _ hK15 => ?_
  refine zJ hfr6 rfl rfl (fun hb15 => ?_) (fun hb15 => ?_)
  ·exact absurd hb15 (by simp)
  ·try simp only [nqs] at hb15
   refine z7 ?_
   refine hK7 _ _ ?_
   refine zE fun _ hK16 => ?_
   refine zE fun _ hK17 => ?_
   have hovT := hov.perm (by simpa using hpm) (by have h9 := (List.append_nil dn) ▸ hpm; exact (h9.map Prod.fst).nodup_iff.2 hn_ts)
   have hrs9 := hot
   replace hsr_a := hsr_a.mono hle6
   obtain ⟨es18, hrv18, hes18⟩ := id hsr_a
   replace hst6 := hst6.more (r := .free) trivial List.nodup_nil (by simp [Res.blocks])
   replace hc2 := hc2.mono hle6
   refine ra0 (tch := [(2, 3, (fun v => .iter v _ none))]) hst6 hfr6 (.cons rfl (zF (off := 1) rfl underlying29 rfl rfl sizeOf27 rfl) <| .cons rfl (zK rfl hc2 isAgg27 rfl) <| .consT rfl rfl (fun _ => rfl) rfl (ob_range rfl underlying27 (fun w m hK => hrv18.mono (KC.le hK))) <| .nil) fun a7 w7 m7 hst7 hle7 hk7 => ?_
   have hfr7 := hk7.fr (.o 3 <| .o 4 <| .o 5 <| .nil)
   obtain ⟨gr18, e19, _⟩ := hk7.ex 27 rfl
   replace hfr7 := hfr7.cons e19
   replace hst7 := hst7.fin (L' := [_, _, _, _]) (.cons e19 <| .nil)
   clear hst6 hfr6 hk7
   refine hK17 _ _ ?_
   refine zT ?_
   have zq1 := hle6.trans hle7
   have hlh7 := hlh5.trans zq1
   have hlq20 := hlh7
   replace hO := hO.mono zq1
   replace hes18 := hes18.mono hle7
   refine z6 (T := [(3, _), (4, _), (5, _), (27, _)]) (fun (y : (List (Int × Value)) × (List (Int × Rw)) × (List (Int × Rw)) × (Option (Value × Value)) × (Sub) × (QQ)) => ([] : List (Nat × Value))) (fun y => [_, .blk (.pointer (some ⟨g5, 0, none⟩)) (.cells (zAJ y.2.2.2.2.2).toArray 29), _, .iter (.pointer (some ⟨gr18, 0, none⟩)) (zBR KI y.1) y.2.2.2.1]) (fun (y : (List (Int × Value)) × (List (Int × Rw)) × (List (Int × Rw)) × (Option (Value × Value)) × (Sub) × (QQ)) m => (fun (es : List (Int × Value)) (l : List (Int × Rw)) (dn : List (Int × Rw)) (la : Option (Value × Value)) (o : Sub) (q : QQ) => (EntsR RRw m es l) ∧ ((dn ++ l).Perm a.rs) ∧ (SubR m o (zAJ q)) ∧ (Over (zQ b) dn b.rs o.rs) ∧ (Over (zM b) a.ts b.ts o.ts) ∧ (zAZ o)) y.1 y.2.1 y.2.2.1 y.2.2.2.1 y.2.2.2.2.1 y.2.2.2.2.2) (fun y => y.2.1.length) ((es18, a.rs, [], none, o, q)) ⟨hst7, MLe.refl _, hfr7.sub (.c <| .c <| .c <| .c <| .nil), ⟨hes18, by simp, hO, by show Over _ [] b.rs o.rs; rw [hrs9]; exact Over.nil _ _, hovT, hap9⟩⟩ fun y a8 w8 m8 hh8 => ?_
   have hst8 := hh8.st; have hle8 := hh8.le; have hfr8 := hh8.fr; have hrel := hh8.rel; clear hh8
   clear hst7 hfr7
   obtain ⟨es, l, dn, la, o, q⟩ := y
   dsimp only at hrel hfr8 hst8
   have zq2 := zq1.trans hle8
   replace hes9 := hes9.mono zq2
   replace hO := hO.mono hle8
   obtain ⟨hes9, hpm, hO, hov, hot, hap9⟩ := hrel
   have hlh8 := hle8
   refine zE fun _ hK21 => ?_
   refine ZE 1 (by kernel_rfl) ?_
   refine ZN (tch := [(0, 3, (zBE _ _))]) hst8 hfr8 (by kernel_rfl) (by kernel_rfl) (by kernel_rfl) (.consT rfl rfl (fun _ => rfl) rfl (ob_next rfl) <| .nil) fun a9 w9 m9 hst9 hle9 hk9 => ?_
   have hfr9 := hk9.fr (.o 3 <| .o 4 <| .o 5 <| .o 27 <| .nil)
   obtain ⟨yn18, e23, hyn18⟩ := hk9.ex 28 rfl
   replace hfr9 := hfr9.cons e23
   replace hst9 := hst9.fin (L' := [_, _, _, _]) (.cons e23 <| .nil)
   clear hst8 hfr8 hk9
   rcases yn18 with _ | e9
   ·skip
    replace hes9 := hes9.mono hle9
    have hl0 := EntsR.nil_iff hes9 hyn18
    subst hl0
    dsimp only [MP.next, MP.mem, nextV, zBE] at hst9 hfr9
    refine ZN (tch := []) hst9 hfr9 (by kernel_rfl) (by kernel_rfl) (by kernel_rfl) (.cons rfl (zk rfl rfl) <| .nil) fun a10 w10 m10 hst10 hle10 hk10 => ?_
    have hfr10 := hk10.fr (.o 3 <| .o 4 <| .o 5 <| .o 27 <| .o 28 <| .n 29 <| .nil)
    clear hst9 hfr9 hk10
    refine hK21 _ _ ?_
    refine zE fun _ hK24 => ?_
    refine zJ hfr10 rfl rfl (fun hb29 => ?_) (fun hb29 => ?_)
    ·exact absurd hb29 (by simp)
    ·try simp only [nqs] at hb29
     refine z7 ?_
     refine hK16 _ _ ?_
     refine zE fun _ hK25 => ?_
     refine ra0 (tch := [(1, 0, (fun _ => .blk _ _))]) hst10 hfr10 (.cons rfl (zh (j := 1) rfl rfl isAgg29 sizeOf29 rfl) <| .consT rfl rfl (fun _ => rfl) rfl (zm rfl rfl rfl sizeOf29 rfl rfl rfl) <| .nil) fun a11 w11 m11 hst11 hle11 hk11 => ?_
     have hfr11 := hk11.fr (.o 4 <| .nil)
     replace hst11 := hst11.fin (L' := [_, _, _, _]) (.cons rfl <| .nil)
     try simp only [List.take_succ_cons, List.take_zero, List.drop_succ_cons, List.drop_zero, List.cons_append, List.nil_append, List.append_nil, List.length_cons, List.length_nil, Nat.zero_add, Nat.reduceAdd] at hst11
     clear hst10 hfr10 hk11
     refine hK25 _ _ ?_
     refine zU ?_
     repeat (with_reducible first | refine zL ?_ | refine zI ?_)
     have zq3 := hle10.trans hle11
     have zq4 := hle9.trans zq3
     replace hO := hO.mono zq4
     exact zV hst11 hfr11 rfl (.cell rfl (ZO (ZJ (hst11.loc.at_ (k := 0) rfl)) isAgg29 sizeOf29) <| .nil) (⟨(o, q), rfl, hO, ⟨hot, hov.perm (by simpa using hpm) (by have h9 := (List.append_nil dn) ▸ hpm; exact (h9.map Prod.fst).nodup_iff.2 hn_rs)⟩, hap9⟩)
   ·skip
    replace hes9 := hes9.mono hle9
    obtain ⟨k9, x9, vs9, es8, l8, rfl, hx9, hp9, he9, hes8, hl8⟩ := EntsR.next hes9 hyn18
    dsimp only [MP.next, MP.mem, nextV, zBE] at hst9 hfr9
    rw [he9] at hst9
    obtain ⟨o9, c9, rfl, hs9, hr9⟩ := hx9.open_
    have hbs9 := hs9.big; have hcs9 := hs9.cap
    refine ZN (tch := []) hst9 hfr9 (by kernel_rfl) (by kernel_rfl) (by kernel_rfl) (.cons rfl (zk rfl rfl) <| .nil) fun a10 w10 m10 hst10 hle10 hk10 => ?_
    have hfr10 := hk10.fr (.o 3 <| .o 4 <| .o 5 <| .o 27 <| .o 28 <| .n 29 <| .nil)
    clear hst9 hfr9 hk10
    refine hK21 _ _ ?_
    refine zE fun _ hK27 => ?_
    refine zJ hfr10 rfl rfl (fun hb29 => ?_) (fun hb29 => ?_)
    ·try simp only [nqs] at hb29
     refine zR ?_
     refine hK27 _ _ ?_
     refine zT ?_
     refine zE fun _ hK28 => ?_
     replace hst10 := hst10.more (r := .free) trivial List.nodup_nil (by simp [Res.blocks])
     refine ra0 (tch := [(3, 4, (fun v => .blk v _)), (5, 4, (fun v => .blk v _))]) hst10 hfr10 (.cons rfl (ob_entry (j := 3) rfl rfl) <| .cons rfl (zk rfl rfl) <| .cons rfl (zk rfl rfl) <| .consT rfl rfl (fun _ => rfl) rfl (zj zeroValue43 rfl) <| .cons rfl (zH rfl) <| .consT rfl rfl (fun _ => rfl) rfl (ze 9 rfl rfl rfl fun y9 => ZD rfl rfl rfl rfl rfl sizeOf43 rfl rfl rfl) <| .nil) fun a11 w11 m11 hst11 hle11 hk11 => ?_
     have hfr11 := hk11.fr (.o 3 <| .o 4 <| .o 5 <| .o 27 <| .n 8 <| .nil)
     obtain ⟨g29, e29, _⟩ := hk11.ex 9 rfl
     replace hfr11 := hfr11.cons e29
     replace hst11 := hst11.fin (L' := [_, _, _, _, _]) (.cons e29 <| .cons e29 <| .nil)
     try simp only [List.take_succ_cons, List.take_zero, List.drop_succ_cons, List.drop_zero, List.cons_append, List.nil_append, List.append_nil, List.length_cons, List.length_nil, Nat.zero_add, Nat.reduceAdd] at hst11
     clear hst10 hfr10 hk11
     have hwb9 : SubW 400000000 b := ⟨fun n t h => Nat.le_trans (hwb.1 n t h) (by omega), fun n t h => Nat.le_trans (hwb.2 n t h) (by omega)⟩
     have hm9 : (k9, x9) ∈ a.rs := hpm.mem_iff.1 (List.mem_append_right _ (hp9.mem_iff.2 (.head _)))
     have hn9 := zGN ((hp9.symm.append_left dn).trans hpm) hn_rs
     have hk9 : zP k9 dn = none := zAX.2 hn9
     have hwx : x9.labels.length ≤ 300000000 := hwa.2 k9 x9 (Z7 hn_rs hm9)
     have hwy := zAr hwb x9
     refine hK28 _ _ ?_
     have zq5 := hle10.trans hle11
     have zq6 := hle9.trans zq5
     have zq7 := zq2.trans zq6
     replace h_b := h_b.mono zq7
     replace hc3 := hc3.mono zq7
     replace hO := hO.mono zq6
     replace hx9 := hx9.mono zq5
     refine zn (tch := [(6, 1, (fun _ => .blkx _ _ _))]) (fun _ => mixed) hst11 hfr11 (by kernel_rfl) (by kernel_rfl) (by kernel_rfl) (.cons rfl (zh (j := 1) rfl rfl isAgg29 sizeOf29 rfl) <| .cons rfl (zG rfl) <| .cons rfl (zS rfl hc3 isAgg29 sizeOf29 rfl rfl) <| .cons rfl (zh (j := 4) rfl rfl isAgg43 sizeOf43 rfl) <| .cons rfl (zZ (φ := MP.rw (zQ b x9)) rfl (.cons rfl <| .cons rfl <| .nil) call21 (fun w m hK => by have hle_ := KC.le hK; have hA := KC.agree hK; have h_b := h_b.mono hle_; have hx9 := hx9.mono hle_; exact FnG.mono (zFx (r := x9) hA h_b hx9 hwb9 (by omega)) fun _ _ _ _ h => h)) <| .cons rfl (ZI 37 rfl rfl rfl fun y37 => zZ (φ := MP.sub ⟨o.ts, zBF k9 (zQ b x9) o.rs⟩) rfl (.cons rfl <| .cons rfl <| .cons rfl <| .nil) call24 (fun w m hK => by have hle_ := KC.le hK; have hA := KC.agree hK; have hr0_ := hK.2; have hO := hO.mono hle_; exact FnG.mono (setRow_c (n := k9) (r := zQ b x9) hA hO hr0_ (by omega)) fun _ _ _ _ h => h)) <| .consT rfl rfl (fun _ => rfl) rfl (ZL 38 rfl rfl rfl fun y38 => zm rfl rfl rfl sizeOf29 rfl rfl rfl) <| .nil) fun a12 w12 m12 hst12 hle12 hk12 => ?_
     have hfr12 := hk12.fr (.o 3 <| .o 4 <| .o 5 <| .o 27 <| .nil)
     replace hst12 := hst12.fin (L' := [_, _, _, _, _]) (.cons rfl <| .nil)
     try simp only [List.take_succ_cons, List.take_zero, List.drop_succ_cons, List.drop_zero, List.cons_append, List.nil_append, List.append_nil, List.length_cons, List.length_nil, Nat.zero_add, Nat.reduceAdd] at hst12
     obtain ⟨⟨q3, q4⟩, hS1, hst12⟩ := hst12.unx (k := 1) rfl (fun _ => rfl)
     clear hst11 hfr11 hk12
     have hst12 := hst12.take 4
     have zq8 := zq5.trans hle12
     replace hes8 := hes8.mono zq8
     have zq9 := zq6.trans hle12
     have hlh12 := hlh8.trans zq9
     exact ⟨(es8, l8, (dn ++ [(k9, x9)]), _, ⟨o.ts, zBF k9 (zQ b x9) o.rs⟩, (q3, q4)), m12, by show l8.length < l.length; omega, ⟨hst12, hlh12, hfr12.sub (.c <| .c <| .c <| .c <| .nil), ⟨hes8, by rw [List.append_assoc]; exact (hp9.symm.append_left dn).trans hpm, hS1, hov.snoc x9 hk9, hot, ⟨hap9.1, zBp hap9.2⟩⟩⟩⟩
    ·exact absurd hb29 (by simp)
 ·skip
  obtain ⟨k9, x9, vs9, es8, l8, rfl, hx9, hp9, he9, hes8, hl8⟩ := EntsR.next hes9 hyn9
  dsimp only [MP.next, MP.mem, nextV, zBE] at hst5 hfr5
  rw [he9] at hst5
  obtain ⟨o9, c9, oL9, cL9, rfl, hkd9, hs9, hi9, hj9, hr9⟩ := hx9.open_
  have hbg9 := hkd9.big; have hcp9 := hkd9.cap; have hbs9 := hs9.big; have hcs9 := hs9.cap
  have hrw9 : RwR _ ⟨x9.labels, x9.rv⟩ _ := ⟨_, _, rfl, hs9, hr9⟩
  refine ZN (tch := []) hst5 hfr5 (by kernel_rfl) (by kernel_rfl) (by kernel_rfl) (.cons rfl (zk rfl rfl) <| .nil) fun a6 w6 m6 hst6 hle6 hk6 => ?_
  have hfr6 := hk6.fr (.o 2 <| .o 3 <| .o 4 <| .o 5 <| .o 13 <| .o 14 <| .n 15 <| .nil)
  clear hst5 hfr5 hk6
  refine hK12 _ _ ?_
  refine zE fun _ hK31 => ?_
  refine zJ hfr6 rfl rfl (fun hb15 => ?_) (fun hb15 => ?_)
  ·try simp only [nqs] at hb15
   refine zR ?_
   refine hK31 _ _ ?_
   refine zT ?_
   refine zE fun _ hK32 => ?_
   replace hst6 := hst6.more (r := .free) trivial List.nodup_nil (by simp [Res.blocks])
   refine ra0 (tch := [(3, 3, (fun v => .blk v _)), (5, 3, (fun v => .blk v _))]) hst6 hfr6 (.cons rfl (ob_entry (j := 2) rfl rfl) <| .cons rfl (zk rfl rfl) <| .cons rfl (zk rfl rfl) <| .consT rfl rfl (fun _ => rfl) rfl (zj zeroValue45 rfl) <| .cons rfl (zH rfl) <| .consT rfl rfl (fun _ => rfl) rfl (ze 7 rfl rfl rfl fun y7 => ZD rfl rfl rfl rfl rfl sizeOf45 rfl rfl rfl) <| .nil) fun a7 w7 m7 hst7 hle7 hk7 => ?_
   have hfr7 := hk7.fr (.o 2 <| .o 3 <| .o 4 <| .o 5 <| .o 13 <| .n 6 <| .nil)
   obtain ⟨g33, e33, _⟩ := hk7.ex 7 rfl
   replace hfr7 := hfr7.cons e33
   replace hst7 := hst7.fin (L' := [_, _, _, _]) (.cons e33 <| .cons e33 <| .nil)
   try simp only [List.take_succ_cons, List.take_zero, List.drop_succ_cons, List.drop_zero, List.cons_append, List.nil_append, List.append_nil, List.length_cons, List.length_nil, Nat.zero_add, Nat.reduceAdd] at hst7
   clear hst6 hfr6 hk7
   have hwb9 : SubW 400000000 b := ⟨fun n t h => Nat.le_trans (hwb.1 n t h) (by omega), fun n t h => Nat.le_trans (hwb.2 n t h) (by omega)⟩
   have hm9 : (k9, x9) ∈ a.ts := hpm.mem_iff.1 (List.mem_append_right _ (hp9.mem_iff.2 (.head _)))
   have hn9 := zGN ((hp9.symm.append_left dn).trans hpm) hn_ts
   have hk9 : zP k9 dn = none := zAX.2 hn9
   have hwx : wdT x9 ≤ 300000000 := hwa.1 k9 x9 (Z7 hn_ts hm9)
   have hwy := zBa hwb x9
   refine hK32 _ _ ?_
   have zq10 := hle6.trans hle7
   replace h_b := h_b.mono zq10
   replace hc3 := hc3.mono zq10
   replace hO := hO.mono zq10
   replace hx9 := hx9.mono zq10
   refine zn (tch := [(6, 1, (fun _ => .blkx _ _ _))]) (fun _ => mixed) hst7 hfr7 (by kernel_rfl) (by kernel_rfl) (by kernel_rfl) (.cons rfl (zh (j := 1) rfl rfl isAgg29 sizeOf29 rfl) <| .cons rfl (zG rfl) <| .cons rfl (zS rfl hc3 isAgg29 sizeOf29 rfl rfl) <| .cons rfl (zh (j := 3) rfl rfl isAgg45 sizeOf45 rfl) <| .cons rfl (zZ (φ := MP.ty (zM b x9)) rfl (.cons rfl <| .cons rfl <| .nil) call17 (fun w m hK => by have hle_ := KC.le hK; have hA := KC.agree hK; have h_b := h_b.mono hle_; have hx9 := hx9.mono hle_; exact FnG.mono (apply_c x9 hA h_b hx9 hwb9 (by omega)) fun _ _ _ _ h => h)) <| .cons rfl (ZI 23 rfl rfl rfl fun y23 => zZ (φ := MP.sub ⟨zBF k9 (zM b x9) o.ts, o.rs⟩) rfl (.cons rfl <| .cons rfl <| .cons rfl <| .nil) call26 (fun w m hK => by have hle_ := KC.le hK; have hA := KC.agree hK; have hr0_ := hK.2; have hO := hO.mono hle_; exact FnG.mono (setType_c (n := k9) (t := zM b x9) hA hO hr0_ (by omega)) fun _ _ _ _ h => h)) <| .consT rfl rfl (fun _ => rfl) rfl (ZL 24 rfl rfl rfl fun y24 => zm rfl rfl rfl sizeOf29 rfl rfl rfl) <| .nil) fun a8 w8 m8 hst8 hle8 hk8 => ?_
   have hfr8 := hk8.fr (.o 2 <| .o 3 <| .o 4 <| .o 5 <| .o 13 <| .nil)
   replace hst8 := hst8.fin (L' := [_, _, _, _]) (.cons rfl <| .nil)
   try simp only [List.take_succ_cons, List.take_zero, List.drop_succ_cons, List.drop_zero, List.cons_append, List.nil_append, List.append_nil, List.length_cons, List.length_nil, Nat.zero_add, Nat.reduceAdd] at hst8
   obtain ⟨⟨q3, q4⟩, hS1, hst8⟩ := hst8.unx (k := 1) rfl (fun _ => rfl)
   clear hst7 hfr7 hk8
   have hst8 := hst8.take 3
   have zq11 := zq10.trans hle8
   replace hes8 := hes8.mono zq11
   have hlh8 := hlh5.trans zq11
   exact ⟨(es8, l8, (dn ++ [(k9, x9)]), _, ⟨zBF k9 (zM b x9) o.ts, o.rs⟩, (q3, q4)), m8, by show l8.length < l.length; omega, ⟨hst8, hlh8, hfr8.sub (.c <| .c <| .c <| .c <| .c <| .nil), ⟨hes8, by rw [List.append_assoc]; exact (hp9.symm.append_left dn).trans hpm, hS1, hov.snoc x9 hk9, hot, ⟨zBp hap9.1, hap9.2⟩⟩⟩⟩
  ·exact absurd hb15 (by simp)
def SameL (a b : Sub) : Prop := (∀ k, zP k a.ts = zP k b.ts) ∧ ∀ k, zP k a.rs = zP k b.rs
theorem zDh {a b : Sub} (h : SameL a b) (r : Rw) : zQ a r = zQ b r := by unfold zQ; rw [h.2]
theorem zFg {a b : Sub} (h : SameL a b) (t : Ty) : zM a t = zM b t := by
 induction t using Ty.rec_ with
 | h t ih =>
  by_cases h7 : t.kind = 7
  ·rw [ZP h7, ZP h7, h.1]
  ·rw [Zb h7, Zb h7, zDh h]
   have key : ∀ l : List Ty, (∀ u ∈ l, u ∈ t.args) → zo a l = zo b l := by
    intro l
    induction l with
    | nil => intro _; rfl
    | cons x l ihl => intro hl; rw [zo, zo, ih x (hl x (.head _)), ihl fun u hu => hl u (.tail _ hu)]
   rw [key t.args fun u hu => hu]
theorem SameL.w {a b : Sub} {B : Nat} (h : SameL a b) (hb : SubW B b) : SubW B a := ⟨fun n t ht => hb.1 n t (by rw [← h.1]; exact ht), fun n t ht => hb.2 n t (by rw [← h.2]; exact ht)⟩
def zAB : Sub := ⟨[], []⟩
def zAY {α : Type} (n : Int) (x : α) (l : List (Int × α)) : List (Int × α) := (l.filter fun p => !decide (p.1 = n)) ++ [(n, x)]
def zDO (b : Sub) (l : List (Int × Ty)) : List (Int × Ty) := l.foldl (fun o p => zAY p.1 (zM b p.2) o) b.ts
def zCX (b : Sub) (l : List (Int × Rw)) : List (Int × Rw) := l.foldl (fun o p => zAY p.1 (zQ b p.2) o) b.rs
def zAx (a b : Sub) : Sub := ⟨zDO b a.ts, zCX b a.rs⟩
theorem take_at {α : Type} {l : List α} {y : Nat} {p : α} (h : l[y]? = some p) : l.take (y + 1) = l.take y ++ [p] := by rw [List.take_succ, h]; rfl
theorem zGZ {b : Sub} {l : List (Int × Ty)} {y : Nat} {p : Int × Ty} (h : l[y]? = some p) : zDO b (l.take (y + 1)) = zAY p.1 (zM b p.2) (zDO b (l.take y)) := by rw [take_at h]; unfold zDO; rw [List.foldl_append]; rfl
theorem zFb {b : Sub} {l : List (Int × Rw)} {y : Nat} {p : Int × Rw} (h : l[y]? = some p) : zCX b (l.take (y + 1)) = zAY p.1 (zQ b p.2) (zCX b (l.take y)) := by rw [take_at h]; unfold zCX; rw [List.foldl_append]; rfl
theorem zEs {α : Type} (k n : Int) : ∀ l : List (Int × α), zP k (l.filter fun p => !decide (p.1 = n)) = if k = n then none else zP k l
 | [] => by simp [zP]
 | (a, u) :: l => by
  have ih := zEs k n l
  by_cases h : a = n
  ·subst h
   rw [List.filter_cons_of_neg (by simp), ih]
   split
   ·rfl
   ·rename_i hk; simp only [zP]; rw [if_neg hk]
  ·rw [List.filter_cons_of_pos (by simp [h])]
   simp only [zP, ih]
   by_cases hk : k = a
   ·subst hk; simp [h]
   ·rw [if_neg hk]; split <;> rfl
theorem alook_rset {α : Type} (k n : Int) (x : α) (l : List (Int × α)) : zP k (zAY n x l) = if k = n then some x else zP k l := by
 unfold zAY; rw [zDp, zEs]
 by_cases h : k = n
 ·rw [if_pos h, if_pos h]; simp [zP, h]
 ·rw [if_neg h, if_neg h]; simp [zP, h]
theorem rset_apart {α : Type} {n : Int} {x : α} {l : List (Int × α)} (h : (l.map Prod.fst).Nodup) : ((zAY n x l).map Prod.fst).Nodup := by
 unfold zAY; rw [List.map_append]
 refine List.nodup_append.2 ⟨h.sublist (List.filter_sublist.map _), by simp, fun a ha b hb e => ?_⟩
 simp at hb; subst hb; subst e
 obtain ⟨p, hp, e⟩ := List.mem_map.1 ha
 have := (List.mem_filter.1 hp).2
 simp [e] at this
theorem Over.snocR {α : Type} {f : α → α} {l b o : List (Int × α)} (h : Over f l b o) {k : Int} (x : α) (hk : zP k l = none) : Over f (l ++ [(k, x)]) b (zAY k (f x) o) := fun j => by
 rw [alook_rset, zDp, h j]
 by_cases e : j = k
 ·subst e; rw [if_pos rfl, hk]; simp [zP]
 ·rw [if_neg e]; simp [zP, e]
theorem zFG {α : Type} (f : α → α) (b : List (Int × α)) : ∀ (l dn o : List (Int × α)), Over f dn b o → ((dn ++ l).map Prod.fst).Nodup → Over f (dn ++ l) b (l.foldl (fun o p => zAY p.1 (f p.2) o) o)
 | [], dn, o, h, _ => by rw [List.append_nil]; exact h
 | (k, x) :: l, dn, o, h, hn => by
  have e : dn ++ (k, x) :: l = (dn ++ [(k, x)]) ++ l := by simp
  rw [e] at hn ⊢
  refine zFG f b l _ _ (h.snocR x (zAX.2 ?_)) hn
  rw [List.map_append, List.map_append] at hn
  intro hk
  exact (List.nodup_append.1 (List.nodup_append.1 hn).1).2.2 k hk k (by simp) rfl
theorem Zl {a b : Sub} (h : zAZ a) : ThenS a b (zAx a b) := ⟨by have := zFG (zM b) b.ts a.ts [] b.ts (Over.nil _ _) (by simpa using h.1); rw [List.nil_append] at this; exact this, by have := zFG (zQ b) b.rs a.rs [] b.rs (Over.nil _ _) (by simpa using h.2); rw [List.nil_append] at this; exact this⟩
theorem then_same {a b x y o p : Sub} (h : ThenS a b o) (k : ThenS x y p) (hax : SameL a x) (hby : SameL b y) : SameL o p := by
 have e1 : zM b = zM y := funext fun t => zFg hby t
 have e2 : zQ b = zQ y := funext fun t => zDh hby t
 exact ⟨fun n => by rw [h.1 n, k.1 n, hax.1 n, hby.1 n, e1], fun n => by rw [h.2 n, k.2 n, hax.2 n, hby.2 n, e2]⟩
end Go.Proofs.YtlidonjpgigocaaGreat
namespace Go.Proofs.YtlidonjpgigocaaGreat
open Go.Proofs.Tryz
set_option linter.all false
set_option maxRecDepth 4000
open Go.RowKit
open Go.Shelf Go.Lib Go.Sort Go.Maps Go.WideElems Go.MapKept
theorem EntsR.fsts {κ α : Type} {R : Mem → List Value → α → Prop} {m : Mem} {es : List (κ × Value)} {l : List (κ × α)} (h : EntsR R m es l) : es.map Prod.fst = l.map Prod.fst := by
 induction h with
 | nil => rfl
 | cons h hs ih => simp only [List.map_cons, ih]
theorem zFf {H : Type} (x : Lit × DataW H) : ∀ l, (DataW.insert x l).Perm (x :: l)
 | [] => List.Perm.refl _
 | y :: r => by
  unfold DataW.insert; split
  ·exact List.Perm.refl _
  ·exact ((zFf x r).cons y).trans (List.Perm.swap _ _ _)
theorem zEY {H : Type} : ∀ l : List (Lit × DataW H), (l.foldr DataW.insert []).Perm l
 | [] => List.Perm.refl _
 | x :: l => (zFf x _).trans ((zEY l).cons x)
theorem owns_of {P : Program} {k : TypeId} {α : Type} {R : Mem → List Value → α → Prop} {w : World} {m : Mem} {g : Nat} {l : List (Int × α)} (hA : Agree w m) (h : MapO KI R m (some g) l) (hn : (l.map Prod.fst).Nodup) (hi : ∀ p ∈ l, Zg p.1)
  (hl : l.length ≤ 1000000000) (hk : P.underlying k = some (.int .i64)) :
  ∃ D : DataW Unit, w.ownsMap P k (fun _ => some (.nil, [])) g l.length D ∧ Maps.size D = l.length ∧ (intKeys D).Perm (l.map Prod.fst) := by
 obtain ⟨es, ⟨ents, clock, hmp, hents, hst⟩, hE⟩ := h.at_
 have hf := hE.fsts
 have hlen := hE.len
 have hkeys : ents.toList.map (·.key) = (l.map Prod.fst).map KI := by
  have h1 := congrArg (List.map Prod.fst) hents
  simp only [zAD, zBR, List.map_map] at h1
  rw [← hf, List.map_map]; exact h1
 have hsz : ents.size = l.length := by
  have h1 := congrArg List.length hkeys
  simpa using h1
 have hx : ∀ x ∈ ents.toList, ∃ n, x.key = KI n ∧ keyOf P k x.key = some (.int .i64 n) := fun x hx => by
  have h1 : x.key ∈ ents.toList.map (·.key) := List.mem_map.2 ⟨x, hx, rfl⟩
  rw [hkeys] at h1
  obtain ⟨n, hn1, e1⟩ := List.mem_map.1 h1
  obtain ⟨p, hp, e2⟩ := List.mem_map.1 hn1
  refine ⟨n, e1.symm, ?_⟩
  rw [← e1]
  refine keyOf_int_mk hk ?_
  have := hi p hp
  rw [e2] at this
  simp only [Lit.wf, Bool.and_eq_true, decide_eq_true_eq]
  exact this
 have hrg : ∀ x ∈ ents.toList, ∀ n, x.key = KI n → rg (H := Unit) P k (fun _ => some (.nil, [])) x = (.int .i64 n, .nil) := fun x hx' n e => by
  obtain ⟨n', e1, e2⟩ := hx x hx'
  rw [e] at e1
  have e3 : n = n' := by simpa [KI] using e1
  subst e3
  exact rg_of (by obtain ⟨a, b, c⟩ := x; exact rd_mk (R := fun _ => some (DataW.nil, [])) (yv := (DataW.nil, [])) (by exact e2) rfl)
 refine ⟨_, ⟨ents, clock, hA.map _ _ hmp, ⟨by rw [hsz]; simp only [maxLen]; omega, ⟨hst.1, hst.2, ?_⟩, fun x hx' => ?_⟩, by omega, rfl⟩, ?_, ?_⟩
 ·rw [hkeys]
  exact List.Pairwise.map KI (fun a b hab e => hab (by simpa [KI] using e)) hn
 ·obtain ⟨n, e1, e2⟩ := hx x hx'
  exact ⟨_, by obtain ⟨a, b, c⟩ := x; exact rd_mk (R := fun _ => some (DataW.nil, [])) (yv := (DataW.nil, [])) (by exact e2) rfl⟩
 ·rw [Maps.size_eq, (zEY _).length_eq, List.length_map]; simpa using hsz
 ·show (((ents.toList.map (rg (H := Unit) P k (fun _ => some (.nil, [])))).foldr DataW.insert []).map fun p => Go.intOf p.1).Perm _
  refine ((zEY _).map _).trans ?_
  rw [List.map_map]
  have h2 : ents.toList.map ((fun p => Go.intOf p.1) ∘ rg (H := Unit) P k (fun _ => some (.nil, []))) = l.map Prod.fst := by
   have h3 : ents.toList.map (fun x => KI (Go.intOf (rg (H := Unit) P k (fun _ => some (.nil, [])) x).1)) = ents.toList.map (·.key) := List.map_congr_left fun x hx' => by
    obtain ⟨n, e1, _⟩ := hx x hx'
    rw [hrg x hx' n e1, e1]; rfl
   have h4 : (ents.toList.map fun x => Go.intOf (rg (H := Unit) P k (fun _ => some (.nil, [])) x).1).map KI = (l.map Prod.fst).map KI := by rw [← hkeys, ← h3, List.map_map]; rfl
   have inj : Function.Injective KI := fun a b e => by simpa [KI] using e
   exact (List.map_inj_right (fun a b e => inj e)).1 h4
  rw [h2]
def MP.keysF (f : Nat) (o : Option Nat) : MP := MP.mem (fun g : Nat => .func (.func f) #[] #[.pointer (some ⟨g, 0, none⟩)]) (fun g m => CellsAt m ⟨g, 0, none⟩ [.map o]) fun hm h => h.mono hm
def MP.keysI (l : List Int) : MP := MP.mem (fun y : List Int × Option Addr × Nat => .slice y.2.1 y.1.length y.2.2) (fun y m => Ints m y.2.1 y.1.length y.2.2 y.1 ∧ y.1.Perm l) fun hm h => ⟨h.1.mono hm, h.2⟩
theorem add_cells {w : World} {m : Mem} (hA : Agree w m) (cs : List Value) : CellsAt (m.add w.heap.size cs.toArray) ⟨w.heap.size, 0, none⟩ cs := ⟨rfl, fun i v e => by
 show (if w.heap.size = w.heap.size then cs.toArray[0 + i]? else _) = _
 rw [if_pos rfl, Nat.zero_add]; simpa using e⟩
theorem keysT_c {w : World} {m : Mem} {o : Option Nat} (hA : Agree w m) : FnV Tryz.prog 98 #[.map o] w m fun _ m v => (MP.keysF 116 o).p m v :=
 Calls.mono ((callsIn_wide (n := 5)).1 (AnyZI.keys_in Tryz.keysT Fence.wide 5 trivial rfl o w)) fun e w' ⟨e1, e2⟩ => ⟨_, m.add w.heap.size [Value.map o].toArray, e1, by subst e2; exact zEx hA _ _, w.heap.size, rfl, add_cells hA _⟩
theorem keysR_c {w : World} {m : Mem} {o : Option Nat} (hA : Agree w m) : FnV Tryz.prog 99 #[.map o] w m fun _ m v => (MP.keysF 117 o).p m v :=
 Calls.mono ((callsIn_wide (n := 5)).1 (AnyZI.keys_in Tryz.keysR Fence.wide 5 trivial rfl o w)) fun e w' ⟨e1, e2⟩ => ⟨_, m.add w.heap.size [Value.map o].toArray, e1, by subst e2; exact zEx hA _ _, w.heap.size, rfl, add_cells hA _⟩
theorem sortsI (m : Nat) : AnyZI.SortsIn Tryz.prog Tryz.sortedI_ren Fence.wide m :=
 ⟨fun blk off cap ss W hH hblk hsz => callsIn_wide.2 (Tryz.slices_Sort_int blk off cap ss W hH hblk hsz), fun p cap W => callsIn_wide.2 (Tryz.slices_Sort_int_none p cap W)⟩
theorem zDK {f : Nat} {w : World} {m : Mem} {g : Nat} {l : List Int} {N : Nat} (hA : Agree w m) (hf : ∀ args w, (callFunc f args).run Tryz.prog w = .ok (.enter f args) w) (hN : N ≤ 1000000000)
  (hs : SeqGives Fence.wide 2 Tryz.prog f #[.pointer (some ⟨g, 0, none⟩)] encZ (fun ss : List Int => ss.Perm l) N w) :
  FnV Tryz.prog 97 #[.func (.func f) #[] #[.pointer (some ⟨g, 0, none⟩)]] w m fun _ m v => (MP.keysI l).p m v := by
 have cS := AnyZI.sorted_in Tryz.sortedI Fence.wide 5 trivial trivial trivial trivial rfl (by omega) (sortsI _) call115 f #[.pointer (some ⟨g, 0, none⟩)] trivial hf _ N (by simp only [maxLen]; omega) (by omega) w hs
 refine Calls.mono ((callsIn_wide (n := 5)).1 cS) fun e w' ⟨v, ss, e1, hS, hrow, _, hb⟩ => ?_
 have ht := zCL hA hrow hb
 obtain ⟨m2, ht2, o', c', e2, h1, h3, h2⟩ := zBz ht.ext.agree ht.now
 subst e2
 have hl : ((ss.mergeSort fun x y => decide (x ≤ y))).length = ss.length := by simp
 refine ⟨_, m2, e1, ?_, (ss.mergeSort fun x y => decide (x ≤ y), o', c'), by show Value.slice o' ss.length c' = .slice o' (ss.mergeSort fun x y => decide (x ≤ y)).length c'; rw [hl], ?_, (List.mergeSort_perm _ _).trans hS⟩
 ·exact (ht.trans ht2).ext
 ·exact Ints.of_row h2 rfl (by rw [hl]; exact h1) (by simp only [maxLen] at h3; rw [hl]; omega)
theorem sortedT_c {w : World} {m : Mem} {g : Nat} {o : Option Nat} {l : List (Int × Ty)} (hA : Agree w m) (hc : CellsAt m ⟨g, 0, none⟩ [.map o]) (hM : MapO KI RTy m o l) (hn : (l.map Prod.fst).Nodup) (hi : ∀ p ∈ l, Zg p.1) (hl : l.length ≤ 1000000000) :
  FnV Tryz.prog 97 #[.func (.func 116) #[] #[.pointer (some ⟨g, 0, none⟩)]] w m fun _ m v => (MP.keysI (l.map Prod.fst)).p m v := by
 have h1 := hA.cell _ _ _ (hc.2 0 _ rfl)
 cases o with
 | none =>
  have h0 := hM.none_nil; subst h0
  exact zDK (N := 0) hA call116 (by omega) (fun l J W hW hJ hY h0 => (AnyZI.keys_gives_nil (ρ := Tryz.keysT_ren) { Tryz.keysT with } Fence.wide 2 trivial rfl g w (zAv h1) h1 l J W hW hJ hY h0).mono fun e w' ⟨a, ss, b, c⟩ => ⟨a, ss, by subst b; exact List.Perm.refl _, c⟩)
 | some b =>
  obtain ⟨D, hD, hs, hp⟩ := owns_of (k := 3) hA hM hn hi hl underlying3
  refine zDK (N := l.length) hA call116 hl (fun l' J W hW hJ hY h0 => ((hs ▸ AnyZI.keys_gives (ρ := Tryz.keysT_ren) { Tryz.keysT with } Fence.wide 2 trivial rfl (by omega) g b _ D w (zAv h1) h1 hD) l' J W hW hJ hY h0).mono fun e w' ⟨a, ss, b, c⟩ => ⟨a, ss, b.trans hp, c⟩)
theorem sortedR_c {w : World} {m : Mem} {g : Nat} {o : Option Nat} {l : List (Int × Rw)} (hA : Agree w m) (hc : CellsAt m ⟨g, 0, none⟩ [.map o]) (hM : MapO KI RRw m o l) (hn : (l.map Prod.fst).Nodup) (hi : ∀ p ∈ l, Zg p.1) (hl : l.length ≤ 1000000000) :
  FnV Tryz.prog 97 #[.func (.func 117) #[] #[.pointer (some ⟨g, 0, none⟩)]] w m fun _ m v => (MP.keysI (l.map Prod.fst)).p m v := by
 have h1 := hA.cell _ _ _ (hc.2 0 _ rfl)
 cases o with
 | none =>
  have h0 := hM.none_nil; subst h0
  exact zDK (N := 0) hA call117 (by omega) (fun l J W hW hJ hY h0 => (AnyZI.keys_gives_nil (ρ := Tryz.keysR_ren) { Tryz.keysR with } Fence.wide 2 trivial rfl g w (zAv h1) h1 l J W hW hJ hY h0).mono fun e w' ⟨a, ss, b, c⟩ => ⟨a, ss, by subst b; exact List.Perm.refl _, c⟩)
 | some b =>
  obtain ⟨D, hD, hs, hp⟩ := owns_of (k := 3) hA hM hn hi hl underlying3
  refine zDK (N := l.length) hA call117 hl (fun l' J W hW hJ hY h0 => ((hs ▸ AnyZI.keys_gives (ρ := Tryz.keysR_ren) { Tryz.keysR with } Fence.wide 2 trivial rfl (by omega) g b _ D w (zAv h1) h1 hD) l' J W hW hJ hY h0).mono fun e w' ⟨a, ss, b, c⟩ => ⟨a, ss, b.trans hp, c⟩)
end Go.Proofs.YtlidonjpgigocaaGreat
namespace Go.Proofs.YtlidonjpgigocaaGreat
open Go.Proofs.Tryz
set_option linter.all false
set_option maxRecDepth 4000
open Go.RowKit
theorem zDk {α : Type} (f : α → α) : ∀ (l o : List (Int × α)), (o.map Prod.fst).Nodup → ((l.foldl (fun o p => zAY p.1 (f p.2) o) o).map Prod.fst).Nodup
 | [], _, h => h
 | p :: l, o, h => zDk f l _ (rset_apart h)
theorem zAQ {a b : Sub} (h : zAZ b) : zAZ (zAx a b) := ⟨zDk _ _ _ h.1, zDk _ _ _ h.2⟩
def SubQ (m : Mem) (U : Sub) (vs : List Value) : Prop := ∃ u, SubR m u vs ∧ SameL u U ∧ zAZ u ∧ zAZ U
theorem SubQ.mono {m m' : Mem} {U : Sub} {vs : List Value} (h : SubQ m U vs) (hm : MLe m m') : SubQ m' U vs := by obtain ⟨u, h1, h2⟩ := h; exact ⟨u, h1.mono hm, h2⟩
theorem SubQ.val {m : Mem} {U : Sub} {vs : List Value} (h : SubQ m U vs) : ∃ q, vs = zAJ q := by obtain ⟨u, ⟨o1, o2, e, _⟩, _⟩ := h; exact ⟨(o1, o2), e⟩
theorem SubQ.apart {m : Mem} {U : Sub} {vs : List Value} (h : SubQ m U vs) : zAZ U := by obtain ⟨u, _, _, _, h⟩ := h; exact h
def MP.subQ (U : Sub) : MP := MP.mem (fun q : QQ => .agg (zAJ q).toArray) (fun q m => SubQ m U (zAJ q)) fun hm h => h.mono hm
theorem SameL.refl (a : Sub) : SameL a a := ⟨fun _ => rfl, fun _ => rfl⟩
theorem zEf {w : World} {m : Mem} (hA : Agree w m) : FnV Tryz.prog 10 #[] w m fun _ m v => (MP.subQ zAB).p m v :=
 FnG.mono (none_c hA) fun _ _ _ _ ⟨q, e, h⟩ => ⟨q, e, _, h, SameL.refl _, ⟨List.nodup_nil, List.nodup_nil⟩, ⟨List.nodup_nil, List.nodup_nil⟩⟩
theorem setTypeU_c {w : World} {m : Mem} {U : Sub} {n : Int} {t : Ty} {vs vt : List Value} (hA : Agree w m) (hs : SubQ m U vs) (ht : TyR m t vt) (hb : wdT t ≤ 1000000000) :
  FnV Tryz.prog 26 #[.agg vs.toArray, .int .i64 n, .agg vt.toArray] w m fun _ m v => (MP.subQ ⟨zBF n t U.ts, U.rs⟩).p m v := by
 obtain ⟨u, h1, h2, h3, h4⟩ := hs
 exact FnG.mono (setType_c (n := n) hA h1 ht (by omega)) fun _ _ _ _ ⟨q, e, h⟩ => ⟨q, e, _, h, ⟨fun k => by dsimp only; rw [zBV, zBV, h2.1], h2.2⟩, ⟨zBp h3.1, h3.2⟩, ⟨zBp h4.1, h4.2⟩⟩
theorem setRowU_c {w : World} {m : Mem} {U : Sub} {n : Int} {r : Rw} {vs vt : List Value} (hA : Agree w m) (hs : SubQ m U vs) (ht : RwR m r vt) (hb : r.labels.length ≤ 1000000000) :
  FnV Tryz.prog 24 #[.agg vs.toArray, .int .i64 n, .agg vt.toArray] w m fun _ m v => (MP.subQ ⟨U.ts, zBF n r U.rs⟩).p m v := by
 obtain ⟨u, h1, h2, h3, h4⟩ := hs
 exact FnG.mono (setRow_c (n := n) hA h1 ht (by omega)) fun _ _ _ _ ⟨q, e, h⟩ => ⟨q, e, _, h, ⟨h2.1, fun k => by dsimp only; rw [zBV, zBV, h2.2]⟩, ⟨h3.1, zBp h3.2⟩, ⟨h4.1, zBp h4.2⟩⟩
theorem thenU_c {w : World} {m : Mem} {U V : Sub} {vs vt : List Value} (hA : Agree w m) (hs : SubQ m U vs) (ht : SubQ m V vt) (hu : SubW 300000000 U) (hv : SubW 300000000 V) :
  FnV Tryz.prog 85 #[.agg vs.toArray, .agg vt.toArray] w m fun _ m v => (MP.subQ (zAx U V)).p m v := by
 obtain ⟨u, h1, h2, h3, h4⟩ := hs; obtain ⟨v, k1, k2, k3, k4⟩ := ht
 exact FnG.mono (then_c hA h1 k1 h3.1 h3.2 (h2.w hu) (k2.w hv) k3) fun _ _ _ _ ⟨y, e, h, hT, hP⟩ => ⟨y.2, e, y.1, h, then_same hT (Zl h4) h2 k2, hP, zAQ k4⟩
theorem zDi {w : World} {m : Mem} {U : Sub} {vs vt : List Value} (t : Ty) (hA : Agree w m) (hs : SubQ m U vs) (ht : TyR m t vt) (hw : SubW 400000000 U) (hb : wdT t ≤ 400000000) :
  FnV Tryz.prog 17 #[.agg vs.toArray, .agg vt.toArray] w m fun _ m v => (MP.ty (zM U t)).p m v := by
 obtain ⟨u, h1, h2, _⟩ := hs
 have := apply_c t hA h1 ht (h2.w hw) hb
 rw [zFg h2] at this; exact this
theorem zDx {w : World} {m : Mem} {U : Sub} {r : Rw} {vs vt : List Value} (hA : Agree w m) (hs : SubQ m U vs) (ht : RwR m r vt) (hw : SubW 400000000 U) (hb : r.labels.length ≤ 400000000) :
  FnV Tryz.prog 21 #[.agg vs.toArray, .agg vt.toArray] w m fun _ m v => (MP.rw (zQ U r)).p m v := by
 obtain ⟨u, h1, h2, _⟩ := hs
 have := zFx (r := r) hA h1 ht (h2.w hw) hb
 rw [zDh h2] at this; exact this
theorem typeU_c {w : World} {m : Mem} {U : Sub} {n : Int} {vs : List Value} {x : Ty} {b : Bool} (hA : Agree w m) (hs : SubQ m U vs) (hx : x = (zP n U.ts).getD zAu) (hb : b = (zP n U.ts).isSome) (hw : SubW 400000000 U) :
  FnV Tryz.prog 83 #[.agg vs.toArray, .int .i64 n] w m fun _ m v => (MP.tyb x b).p m v := by
 obtain ⟨u, h1, h2, _⟩ := hs
 subst hx; subst hb; rw [← h2.1]; exact type_c hA h1 fun t h => Nat.le_trans ((h2.w hw).1 _ _ h) (by omega)
theorem rowU_c {w : World} {m : Mem} {U : Sub} {n : Int} {vs : List Value} {x : Rw} {b : Bool} (hA : Agree w m) (hs : SubQ m U vs) (hx : x = (zP n U.rs).getD zDM) (hb : b = (zP n U.rs).isSome) (hw : SubW 400000000 U) :
  FnV Tryz.prog 31 #[.agg vs.toArray, .int .i64 n] w m fun _ m v => (MP.rwb x b).p m v := by
 obtain ⟨u, h1, h2, _⟩ := hs
 subst hx; subst hb; rw [← h2.2]; exact row_c hA h1 fun t h => Nat.le_trans ((h2.w hw).2 _ _ h) (by omega)
theorem SameL.mem {a b : Sub} (h : SameL a b) (v : Int) : (v ∈ a.ts.map Prod.fst ↔ v ∈ b.ts.map Prod.fst) ∧ (v ∈ a.rs.map Prod.fst ↔ v ∈ b.rs.map Prod.fst) := by
 have h1 := zAX (k := v) (l := a.ts); have h2 := zAX (k := v) (l := b.ts); have h3 := zAX (k := v) (l := a.rs); have h4 := zAX (k := v) (l := b.rs)
 rw [h.1 v] at h1; rw [h.2 v] at h3
 exact ⟨⟨fun x => Decidable.byContradiction fun y => h1.1 (h2.2 y) x, fun x => Decidable.byContradiction fun y => h2.1 (h1.2 y) x⟩, ⟨fun x => Decidable.byContradiction fun y => h3.1 (h4.2 y) x, fun x => Decidable.byContradiction fun y => h4.1 (h3.2 y) x⟩⟩
theorem SameL.perm {a b : Sub} (h : SameL a b) (ha : zAZ a) (hb : zAZ b) : (a.ts.map Prod.fst).Perm (b.ts.map Prod.fst) ∧ (a.rs.map Prod.fst).Perm (b.rs.map Prod.fst) :=
 ⟨(List.perm_ext_iff_of_nodup ha.1 hb.1).2 fun v => (h.mem v).1, (List.perm_ext_iff_of_nodup ha.2 hb.2).2 fun v => (h.mem v).2⟩
def MP.keys2 (a b : List Int) : MP := MP.mem (fun y : (List Int × Option Addr × Nat) × (List Int × Option Addr × Nat) => .tuple #[.slice y.1.2.1 y.1.1.length y.1.2.2, .slice y.2.2.1 y.2.1.length y.2.2.2]) (fun y m => (Ints m y.1.2.1 y.1.1.length y.1.2.2 y.1.1 ∧ y.1.1.Perm a) ∧ (Ints m y.2.2.1 y.2.1.length y.2.2.2 y.2.1 ∧ y.2.1.Perm b)) fun hm h => ⟨⟨h.1.1.mono hm, h.1.2⟩, ⟨h.2.1.mono hm, h.2.2⟩⟩
set_option maxHeartbeats 400000 in
theorem vars7_c {w : World} {m : Mem} {s : Sub} {vs_s : List Value} (hA : Agree w m) (h_s : SubR m s vs_s) (hn : zAZ s) (hi : ∀ p ∈ s.ts, Zg p.1) (hj : ∀ p ∈ s.rs, Zg p.1) (hl : s.ts.length ≤ 1000000000 ∧ s.rs.length ≤ 1000000000) : FnV Tryz.prog 80 #[.agg vs_s.toArray] w m (fun _ m v => (MP.keys2 (s.ts.map Prod.fst) (s.rs.map Prod.fst)).p m v) := by
 obtain ⟨oT_s, oR_s, rfl, hst_s, hsr_s⟩ := id h_s
 refine zY (vs := [_]) func80 rfl rfl rfl fun a0 hfr0 => ?_
 have hst0 := zX hA (zw [] _ w m)
 have hM : MLe m m := MLe.refl m
 refine zE fun _ hK1 => ?_
 refine rp0 hst0 hfr0 (.cons rfl (ZA rfl rfl) <| .cons rfl (zH rfl) <| .cons rfl (zH rfl) <| .nil) fun a1 w1 m1 hst1 hle1 hk1 => ?_
 have hfr1 := hk1.fr (.nil)
 obtain ⟨g2, e2, hc1⟩ := hk1.ex 1 rfl
 replace hfr1 := hfr1.cons e2
 replace hst_s := hst_s.mono hle1
 replace hsr_s := hsr_s.mono hle1
 clear hst0 hfr0 hk1
 refine hK1 _ _ ?_
 refine zE fun _ hK3 => ?_
 refine zn (tch := []) (fun _ => mixed) hst1 hfr1 (by kernel_rfl) (by kernel_rfl) (by kernel_rfl) (.cons rfl (zF (off := 0) rfl underlying29 rfl rfl sizeOf25 rfl) <| .cons rfl (zK rfl hc1 isAgg25 rfl) <| .cons rfl (zZ (φ := MP.keysF 116 oT_s) rfl (.cons rfl <| .nil) call98 (fun w m hK => by have hle_ := KC.le hK; have hA := KC.agree hK; exact FnG.mono (keysT_c hA) fun _ _ _ _ h => h)) <| .cons rfl (ZI 6 rfl rfl rfl fun y6 => zZ (φ := MP.keysI (s.ts.map Prod.fst)) rfl (.cons rfl <| .nil) call97 (fun w m hK => by have hle_ := KC.le hK; have hA := KC.agree hK; have hr0_ := hK.2; have hst_s := hst_s.mono hle_; exact FnG.mono (sortedT_c hA hr0_ hst_s hn.1 hi hl.1) fun _ _ _ _ h => h)) <| .cons rfl (zF (off := 1) rfl underlying29 rfl rfl sizeOf27 rfl) <| .cons rfl (zK rfl hc1 isAgg27 rfl) <| .cons rfl (zZ (φ := MP.keysF 117 oR_s) rfl (.cons rfl <| .nil) call99 (fun w m hK => by have hle_ := KC.le hK; have hA := KC.agree hK; exact FnG.mono (keysR_c hA) fun _ _ _ _ h => h)) <| .cons rfl (ZI 10 rfl rfl rfl fun y10 => zZ (φ := MP.keysI (s.rs.map Prod.fst)) rfl (.cons rfl <| .nil) call97 (fun w m hK => by have hle_ := KC.le hK; have hA := KC.agree hK; have hr0_ := hK.2; have hsr_s := hsr_s.mono hle_; exact FnG.mono (sortedR_c hA hr0_ hsr_s hn.2 hj hl.2) fun _ _ _ _ h => h)) <| .consA 7 rfl rfl <| .consA 11 rfl rfl <| .nil) fun a2 w2 m2 hst2 hle2 hk2 => ?_
 have hfr2 := hk2.fr (.nil)
 obtain ⟨⟨k1, o1, c1⟩, e4, hI1, hp1⟩ := hk2.ex 7 rfl
 obtain ⟨⟨k2, o2, c2⟩, e5, hI2, hp2⟩ := hk2.ex 11 rfl
 replace hfr2 := hfr2.cons (hk2.same 2 rfl e4)
 replace hfr2 := hfr2.cons (hk2.same 3 rfl e5)
 clear hst1 hfr1 hk2
 refine hK3 _ _ ?_
 refine zU ?_
 repeat (with_reducible first | refine zL ?_ | refine zI ?_)
 exact zV hst2 hfr2 rfl (.tmp rfl <| .tmp rfl <| .nil) (⟨((k1, o1, c1), (k2, o2, c2)), rfl, ⟨hI1, hp1⟩, ⟨hI2, hp2⟩⟩)
theorem varsU_c {w : World} {m : Mem} {U : Sub} {vs : List Value} (hA : Agree w m) (hs : SubQ m U vs) (hi : ∀ p ∈ U.ts, Zg p.1) (hj : ∀ p ∈ U.rs, Zg p.1) (hl : U.ts.length ≤ 1000000000 ∧ U.rs.length ≤ 1000000000) :
  FnV Tryz.prog 80 #[.agg vs.toArray] w m fun _ m v => (MP.keys2 (U.ts.map Prod.fst) (U.rs.map Prod.fst)).p m v := by
 obtain ⟨u, h1, h2, h3, h4⟩ := hs
 obtain ⟨p1, p2⟩ := h2.perm h3 h4
 have k : ∀ {α : Type} {a b : List (Int × α)}, (a.map Prod.fst).Perm (b.map Prod.fst) → (∀ p ∈ b, Zg p.1) → ∀ p ∈ a, Zg p.1 := fun hp hb p hpa => by
  obtain ⟨q, hq, e⟩ := List.mem_map.1 (hp.mem_iff.1 (List.mem_map.2 ⟨p, hpa, rfl⟩)); rw [← e]; exact hb q hq
 have e1 := p1.length_eq; have e2 := p2.length_eq
 simp only [List.length_map] at e1 e2
 exact FnG.mono (vars7_c hA h1 h3 (k p1 hi) (k p2 hj) ⟨by omega, by omega⟩) fun _ _ _ _ ⟨y, e, ⟨a, b⟩, c, d⟩ => ⟨y, e, ⟨a, b.trans p1⟩, c, d.trans p2⟩
end Go.Proofs.YtlidonjpgigocaaGreat
namespace Go.Proofs.YtlidonjpgigocaaGreat
open Go.Proofs.Tryz
set_option linter.all false
set_option maxRecDepth 4000
open Go.RowKit
mutual
/-- How often a variable stands in a type. -/
def zAI (n : Int) : Ty → Nat
 | ⟨k, _, v, ts, _, _⟩ => if k = 7 ∧ v = n then 1 else zAa n ts
def zAa (n : Int) : List Ty → Nat
 | [] => 0
 | t :: ts => zAI n t + zAa n ts
end
theorem zGY (n : Int) (t : Ty) : zAI n t = if t.kind = 7 ∧ t.var = n then 1 else zAa n t.args := by obtain ⟨k, nm, v, ts, ls, r⟩ := t; rw [zAI]; rfl
theorem zBq (n : Int) (t : Ty) : zAI n t ≤ ZH t := by
 induction t using Ty.rec_ with
 | h t ih =>
  have hk := zDW t ih (fun l => zAa n l ≤ ZS l) (by simp [zAa, ZS]) (fun x l hx hl => by simp only [zAa, ZS]; omega)
  rw [zGY, Zy]; split <;> omega
def zBI (t : Ty) : Bool := decide (1000 < ZH t) || decide (200 < zBj t)
abbrev zGb (t : Ty) : Prop := ∀ {w : World} {m : Mem} {vs_t : List Value} (hA : Agree w m) (h_t : TyR m t vs_t) (hb : ZH t ≤ 1000000000000000000), FnV Tryz.prog 34 #[.agg vs_t.toArray] w m (fun _ _ v => v = .int .i64 (ZH t : Int))
set_option maxHeartbeats 400000 in
theorem pieces_s {t : Ty} (ih : ∀ u ∈ t.args, zGb u) {w : World} {m : Mem} {vs_t : List Value} (hA : Agree w m) (h_t : TyR m t vs_t) (hb : ZH t ≤ 1000000000000000000) : FnV Tryz.prog 34 #[.agg vs_t.toArray] w m (fun _ _ v => v = .int .i64 (ZH t : Int)) := by
 obtain ⟨o_t, c_t, oL_t, cL_t, rfl, hk_t, hs_t, hi_t, hj_t, hr_t⟩ := h_t.open_
 have hbg_t := hk_t.big; have hcp_t := hk_t.cap; have hbs_t := hs_t.big; have hcs_t := hs_t.cap
 have hrw_t : RwR _ ⟨t.labels, t.rv⟩ _ := ⟨_, _, rfl, hs_t, hr_t⟩
 refine zY (vs := [_]) func34 rfl rfl rfl fun a0 hfr0 => ?_
 have hst0 := zX hA (zw [] _ w m)
 have hM : MLe m m := MLe.refl m
 have hce := Zy t
 have hbk := fun u (hu : u ∈ t.args) => zBX hu
 refine zE fun _ hK1 => ?_
 refine rp0 hst0 hfr0 (.cons rfl (ZA rfl rfl) <| .cons rfl (zH rfl) <| .nil) fun a1 w1 m1 hst1 hle1 hk1 => ?_
 have hfr1 := hk1.fr (.nil)
 obtain ⟨g2, e2, hc1⟩ := hk1.ex 1 rfl
 replace hfr1 := hfr1.cons e2
 replace h_t := h_t.mono hle1
 replace hk_t := hk_t.mono hle1
 replace hs_t := hs_t.mono hle1
 replace hrw_t := hrw_t.mono hle1
 clear hst0 hfr0 hk1
 refine hK1 _ _ ?_
 refine zE fun _ hK3 => ?_
 refine rp0 hst1 hfr1 (.cons rfl (zH rfl) <| .nil) fun a2 w2 m2 hst2 hle2 hk2 => ?_
 have hfr2 := hk2.fr (.o 1 <| .n 3 <| .nil)
 replace h_t := h_t.mono hle2
 replace hk_t := hk_t.mono hle2
 replace hs_t := hs_t.mono hle2
 replace hrw_t := hrw_t.mono hle2
 replace hc1 := hc1.mono hle2
 clear hst1 hfr1 hk2
 refine hK3 _ _ ?_
 refine zE fun _ hK4 => ?_
 refine zE fun _ hK5 => ?_
 refine rp0 hst2 hfr2 (.cons rfl (zF (off := 3) rfl underlying45 rfl rfl sizeOf33 rfl) <| .cons rfl (zK rfl hc1 isAgg33 rfl) <| .cons rfl (zt rfl underlying33) <| .cons rfl (zG rfl) <| .nil) fun a3 w3 m3 hst3 hle3 hk3 => ?_
 have hfr3 := hk3.fr (.o 3 <| .n 7 <| .n 8 <| .n 9 <| .nil)
 replace h_t := h_t.mono hle3
 replace hk_t := hk_t.mono hle3
 replace hs_t := hs_t.mono hle3
 replace hrw_t := hrw_t.mono hle3
 replace hc1 := hc1.mono hle3
 clear hst2 hfr2 hk3
 refine hK5 _ _ ?_
 refine zT ?_
 refine z6 (T := [(7, _), (8, _)]) (fun (y : Nat × Int) => ([(3, .int .i64 y.2), (9, .int .i64 (y.1 : Int))] : List (Nat × Value))) (fun _ => _) (fun (y : Nat × Int) m => (fun (y : Nat) (a : Int) => (y ≤ t.args.length) ∧ (a + ZS (t.args.drop y) = (ZH t : Int)) ∧ (0 ≤ a)) y.1 y.2) (fun y => t.args.length - y.1) ((0, 1)) ⟨hst3, MLe.refl _, hfr3.sub (.c <| .c <| .c <| .c <| .nil), ⟨Nat.zero_le _, by rw [List.drop_zero]; omega, by omega⟩⟩ fun y a4 w4 m4 hh4 => ?_
 have hst4 := hh4.st; have hle4 := hh4.le; have hfr4 := hh4.fr; have hrel := hh4.rel; clear hh4
 replace h_t := h_t.mono hle4
 replace hk_t := hk_t.mono hle4
 replace hs_t := hs_t.mono hle4
 replace hrw_t := hrw_t.mono hle4
 replace hc1 := hc1.mono hle4
 clear hst3 hfr3
 obtain ⟨y, a⟩ := y
 dsimp only at hrel hfr4 hst4
 obtain ⟨hyn, ha, ha0⟩ := hrel
 have hlh4 := hle4
 refine zE fun _ hK7 => ?_
 refine rp0 hst4 hfr4 (.cons rfl (ZG rfl rfl) <| .nil) fun a5 w5 m5 hst5 hle5 hk5 => ?_
 have hfr5 := hk5.fr (.o 3 <| .o 9 <| .o 7 <| .o 8 <| .n 10 <| .nil)
 replace h_t := h_t.mono hle5
 replace hk_t := hk_t.mono hle5
 replace hs_t := hs_t.mono hle5
 replace hrw_t := hrw_t.mono hle5
 replace hc1 := hc1.mono hle5
 have hlh5 := hlh4.trans hle5
 clear hst4 hfr4 hk5
 refine hK7 _ _ ?_
 refine zE fun _ hK8 => ?_
 refine zJ hfr5 rfl rfl (fun hb10 => ?_) (fun hb10 => ?_)
 ·try simp only [nqs] at hb10
  refine zR ?_
  refine hK8 _ _ ?_
  refine zE fun _ hK9 => ?_
  refine zT ?_
  refine zE fun _ hK10 => ?_
  obtain ⟨p11, vs11, x11, ho11, hd11, hm_x11, ht11, hcv11, hl11, hv11⟩ := hk_t.nth (k := y) (by omega)
  cases ho11
  obtain ⟨o11, c11, oL11, cL11, rfl, hkd11, hs11, hi11, hj11, hr11⟩ := hv11.open_
  have hbg11 := hkd11.big; have hcp11 := hkd11.cap; have hbs11 := hs11.big; have hcs11 := hs11.cap
  have hrw11 : RwR _ ⟨x11.labels, x11.rv⟩ _ := ⟨_, _, rfl, hs11, hr11⟩
  have hbx11 := hbk _ hm_x11
  replace hst5 := hst5.more (r := .free) trivial List.nodup_nil (by simp [Res.blocks])
  refine ra0 (tch := [(2, 0, (fun v => .blk v _)), (3, 0, (fun v => .blk v _))]) hst5 hfr5 (.cons rfl (zN (k := y) rfl rfl underlying33 sizeOf45 rfl (by omega)) <| .cons rfl (zS rfl hcv11 isAgg45 sizeOf45 rfl rfl) <| .consT rfl rfl (fun _ => rfl) rfl (zj zeroValue45 rfl) <| .consT rfl rfl (fun _ => rfl) rfl (ze 5 rfl rfl rfl fun y5 => ZD rfl rfl rfl rfl rfl sizeOf45 rfl rfl rfl) <| .nil) fun a6 w6 m6 hst6 hle6 hk6 => ?_
  have hfr6 := hk6.fr (.o 3 <| .o 9 <| .o 7 <| .o 8 <| .nil)
  obtain ⟨g12, e12, _⟩ := hk6.ex 5 rfl
  replace hfr6 := hfr6.cons e12
  replace hst6 := hst6.fin (L' := [_]) (.cons e12 <| .cons e12 <| .nil)
  clear hst5 hfr5 hk6
  refine hK10 _ _ ?_
  replace h_t := h_t.mono hle6
  replace hk_t := hk_t.mono hle6
  replace hs_t := hs_t.mono hle6
  replace hrw_t := hrw_t.mono hle6
  replace hc1 := hc1.mono hle6
  replace hcv11 := hcv11.mono hle6
  replace hv11 := hv11.mono hle6
  replace hkd11 := hkd11.mono hle6
  replace hs11 := hs11.mono hle6
  replace hrw11 := hrw11.mono hle6
  refine rp0 hst6 hfr6 (.cons rfl (zG rfl) <| .cons rfl (zAw (j := 0) rfl rfl isAgg45 sizeOf45 rfl rfl) <| .cons rfl (zp rfl (.cons rfl <| .nil) call34 (fun w m hK => by have hle_ := KC.le hK; have hA := KC.agree hK; have h_t := h_t.mono hle_; have hk_t := hk_t.mono hle_; have hs_t := hs_t.mono hle_; have hrw_t := hrw_t.mono hle_; have hc1 := hc1.mono hle_; have hcv11 := hcv11.mono hle_; have hv11 := hv11.mono hle_; have hkd11 := hkd11.mono hle_; have hs11 := hs11.mono hle_; have hrw11 := hrw11.mono hle_; exact ih _ (by assumption) hA (by assumption) (by have := hbk _ (by assumption); omega))) <| .cons rfl (zy rfl rfl ⟨by omega, by omega⟩) <| .cons rfl (zH rfl) <| .nil) fun a7 w7 m7 hst7 hle7 hk7 => ?_
  have hfr7 := hk7.fr (.o 9 <| .o 7 <| .o 8 <| .n 3 <| .nil)
  clear hst6 hfr6 hk7
  refine hK9 _ _ ?_
  refine rp0 hst7 hfr7 (.cons rfl (zy rfl rfl ⟨by omega, by omega⟩) <| .cons rfl (zG rfl) <| .nil) fun a8 w8 m8 hst8 hle8 hk8 => ?_
  have hfr8 := hk8.fr (.o 7 <| .o 8 <| .o 3 <| .n 9 <| .nil)
  clear hst7 hfr7 hk8
  have hst8 := hst8.take 0
  have zq1 := hle7.trans hle8
  have zq2 := hle6.trans zq1
  have hlh8 := hlh5.trans zq2
  exact ⟨(y + 1, (a + (ZH x11 : Int))), m8, by show t.args.length - (y + 1) < t.args.length - y; omega, ⟨hst8, hlh8, hfr8.sub (.c <| .c <| .c <| .c <| .nil), ⟨by show y + 1 ≤ t.args.length; omega, by rw [hd11, ZS] at ha; show a + (ZH x11 : Int) + ((ZS (t.args.drop (y + 1)) : Nat) : Int) = ((ZH t : Nat) : Int); omega, by show 0 ≤ a + (ZH x11 : Int); omega⟩⟩⟩
 ·try simp only [nqs] at hb10
  have hge : y = t.args.length := by omega
  rw [List.drop_of_length_le (by omega), ZS] at ha
  refine z7 ?_
  refine hK4 _ _ ?_
  refine zE fun _ hK13 => ?_
  refine rp0 hst5 hfr5 (.cons rfl (zG rfl) <| .cons rfl (zH rfl) <| .nil) fun a6 w6 m6 hst6 hle6 hk6 => ?_
  have hfr6 := hk6.fr (.o 3 <| .o 9 <| .n 2 <| .nil)
  clear hst5 hfr5 hk6
  refine hK13 _ _ ?_
  refine zU ?_
  repeat (with_reducible first | refine zL ?_ | refine zI ?_)
  exact zV hst6 hfr6 rfl (.tmp rfl <| .nil) (by refine congrArg (Value.int _) ?_; omega)
theorem zGc (t : Ty) : zGb t := Ty.rec_ (p := zGb) (fun t ih => pieces_s ih) t
abbrev uses_G (t : Ty) : Prop := ∀ {w : World} {m : Mem} {vs_t : List Value} {n : Int} (hA : Agree w m) (h_t : TyR m t vs_t) (hb : ZH t ≤ 1000000000000000000), FnV Tryz.prog 84 #[.agg vs_t.toArray, .int .i64 n] w m (fun _ _ v => v = .int .i64 (zAI n t : Int))
set_option maxHeartbeats 400000 in
theorem uses_s {t : Ty} (ih : ∀ u ∈ t.args, uses_G u) {w : World} {m : Mem} {vs_t : List Value} {n : Int} (hA : Agree w m) (h_t : TyR m t vs_t) (hb : ZH t ≤ 1000000000000000000) : FnV Tryz.prog 84 #[.agg vs_t.toArray, .int .i64 n] w m (fun _ _ v => v = .int .i64 (zAI n t : Int)) := by
 obtain ⟨o_t, c_t, oL_t, cL_t, rfl, hk_t, hs_t, hi_t, hj_t, hr_t⟩ := h_t.open_
 have hbg_t := hk_t.big; have hcp_t := hk_t.cap; have hbs_t := hs_t.big; have hcs_t := hs_t.cap
 have hrw_t : RwR _ ⟨t.labels, t.rv⟩ _ := ⟨_, _, rfl, hs_t, hr_t⟩
 refine zY (vs := [_, _]) func84 rfl rfl rfl fun a0 hfr0 => ?_
 have hst0 := zX hA (zw [] _ w m)
 have hM : MLe m m := MLe.refl m
 have hce := Zy t
 have hue := zGY n t
 have huc := zBq n t
 have hbk := fun u (hu : u ∈ t.args) => zBX hu
 refine zE fun _ hK1 => ?_
 refine rp0 hst0 hfr0 (.cons rfl (ZA rfl rfl) <| .cons rfl (zH rfl) <| .nil) fun a1 w1 m1 hst1 hle1 hk1 => ?_
 have hfr1 := hk1.fr (.o 1 <| .nil)
 obtain ⟨g2, e2, hc2⟩ := hk1.ex 2 rfl
 replace hfr1 := hfr1.cons e2
 replace h_t := h_t.mono hle1
 replace hk_t := hk_t.mono hle1
 replace hs_t := hs_t.mono hle1
 replace hrw_t := hrw_t.mono hle1
 clear hst0 hfr0 hk1
 refine hK1 _ _ ?_
 refine zE fun _ hK3 => ?_
 refine zE fun _ hK4 => ?_
 refine rp0 hst1 hfr1 (.cons rfl (zF (off := 0) rfl underlying45 rfl rfl sizeOf3 rfl) <| .cons rfl (zK rfl hc2 isAgg3 rfl) <| .cons rfl (zq rfl rfl) <| .cons rfl (zG rfl) <| .cons rfl (zF (off := 2) rfl underlying45 rfl rfl sizeOf3 rfl) <| .cons rfl (zK rfl hc2 isAgg3 rfl) <| .cons rfl (zG rfl) <| .cons rfl (zq rfl rfl) <| .cons rfl (z8 rfl rfl rfl) <| .nil) fun a2 w2 m2 hst2 hle2 hk2 => ?_
 have hfr2 := hk2.fr (.o 1 <| .o 2 <| .n 16 <| .nil)
 replace h_t := h_t.mono hle2
 replace hk_t := hk_t.mono hle2
 replace hs_t := hs_t.mono hle2
 replace hrw_t := hrw_t.mono hle2
 replace hc2 := hc2.mono hle2
 clear hst1 hfr1 hk2
 refine hK4 _ _ ?_
 refine zJ hfr2 rfl rfl (fun hb16 => ?_) (fun hb16 => ?_)
 ·try simp only [nqs] at hb16
  rw [if_pos hb16] at hue
  refine zE fun _ hK5 => ?_
  refine rp0 hst2 hfr2 (.cons rfl (zH rfl) <| .nil) fun a3 w3 m3 hst3 hle3 hk3 => ?_
  have hfr3 := hk3.fr (.n 4 <| .nil)
  clear hst2 hfr2 hk3
  refine hK5 _ _ ?_
  refine zU ?_
  repeat (with_reducible first | refine zL ?_ | refine zI ?_)
  exact zV hst3 hfr3 rfl (.tmp rfl <| .nil) (by refine congrArg (Value.int _) ?_; omega)
 ·try simp only [nqs] at hb16
  rw [if_neg (fun h => by rcases hb16 with h1 | h1; (exact h1 h.1); exact h1 h.2)] at hue
  refine zR ?_
  refine hK3 _ _ ?_
  refine zE fun _ hK7 => ?_
  refine rp0 hst2 hfr2 (.cons rfl (zH rfl) <| .nil) fun a3 w3 m3 hst3 hle3 hk3 => ?_
  have hfr3 := hk3.fr (.o 1 <| .o 2 <| .n 5 <| .nil)
  clear hst2 hfr2 hk3
  refine hK7 _ _ ?_
  refine zE fun _ hK8 => ?_
  refine zE fun _ hK9 => ?_
  replace hc2 := hc2.mono hle3
  refine rp0 hst3 hfr3 (.cons rfl (zF (off := 3) rfl underlying45 rfl rfl sizeOf33 rfl) <| .cons rfl (zK rfl hc2 isAgg33 rfl) <| .cons rfl (zt rfl underlying33) <| .cons rfl (zG rfl) <| .nil) fun a4 w4 m4 hst4 hle4 hk4 => ?_
  have hfr4 := hk4.fr (.o 1 <| .o 5 <| .n 18 <| .n 19 <| .n 20 <| .nil)
  clear hst3 hfr3 hk4
  refine hK9 _ _ ?_
  refine zT ?_
  refine z6 (T := [(1, _), (18, _), (19, _)]) (fun (y : Nat × Int) => ([(5, .int .i64 y.2), (20, .int .i64 (y.1 : Int))] : List (Nat × Value))) (fun _ => _) (fun (y : Nat × Int) m => (fun (y : Nat) (a : Int) => (y ≤ t.args.length) ∧ (a + zAa n (t.args.drop y) = (zAI n t : Int)) ∧ (0 ≤ a)) y.1 y.2) (fun y => t.args.length - y.1) ((0, 0)) ⟨hst4, MLe.refl _, hfr4.sub (.c <| .c <| .c <| .c <| .c <| .nil), ⟨Nat.zero_le _, by rw [List.drop_zero]; omega, by omega⟩⟩ fun y a5 w5 m5 hh5 => ?_
  have hst5 := hh5.st; have hle5 := hh5.le; have hfr5 := hh5.fr; have hrel := hh5.rel; clear hh5
  clear hst4 hfr4
  obtain ⟨y, a⟩ := y
  dsimp only at hrel hfr5 hst5
  obtain ⟨hyn, ha, ha0⟩ := hrel
  have hlh5 := hle5
  refine zE fun _ hK11 => ?_
  refine rp0 hst5 hfr5 (.cons rfl (ZG rfl rfl) <| .nil) fun a6 w6 m6 hst6 hle6 hk6 => ?_
  have hfr6 := hk6.fr (.o 5 <| .o 20 <| .o 1 <| .o 18 <| .o 19 <| .n 21 <| .nil)
  clear hst5 hfr5 hk6
  refine hK11 _ _ ?_
  refine zE fun _ hK12 => ?_
  refine zJ hfr6 rfl rfl (fun hb21 => ?_) (fun hb21 => ?_)
  ·try simp only [nqs] at hb21
   refine zR ?_
   refine hK12 _ _ ?_
   refine zE fun _ hK13 => ?_
   refine zT ?_
   refine zE fun _ hK14 => ?_
   have zq1 := hle5.trans hle6
   have zq2 := hle4.trans zq1
   have zq3 := hle3.trans zq2
   replace hk_t := hk_t.mono zq3
   obtain ⟨p15, vs15, x15, ho15, hd15, hm_x15, ht15, hcv15, hl15, hv15⟩ := hk_t.nth (k := y) (by omega)
   cases ho15
   obtain ⟨o15, c15, oL15, cL15, rfl, hkd15, hs15, hi15, hj15, hr15⟩ := hv15.open_
   have hbg15 := hkd15.big; have hcp15 := hkd15.cap; have hbs15 := hs15.big; have hcs15 := hs15.cap
   have hrw15 : RwR _ ⟨x15.labels, x15.rv⟩ _ := ⟨_, _, rfl, hs15, hr15⟩
   have hbx15 := hbk _ hm_x15
   have hux15 := zBq n x15
   replace hst6 := hst6.more (r := .free) trivial List.nodup_nil (by simp [Res.blocks])
   refine ra0 (tch := [(2, 0, (fun v => .blk v _)), (3, 0, (fun v => .blk v _))]) hst6 hfr6 (.cons rfl (zN (k := y) rfl rfl underlying33 sizeOf45 rfl (by omega)) <| .cons rfl (zS rfl hcv15 isAgg45 sizeOf45 rfl rfl) <| .consT rfl rfl (fun _ => rfl) rfl (zj zeroValue45 rfl) <| .consT rfl rfl (fun _ => rfl) rfl (ze 7 rfl rfl rfl fun y7 => ZD rfl rfl rfl rfl rfl sizeOf45 rfl rfl rfl) <| .nil) fun a7 w7 m7 hst7 hle7 hk7 => ?_
   have hfr7 := hk7.fr (.o 5 <| .o 20 <| .o 1 <| .o 18 <| .o 19 <| .nil)
   obtain ⟨g16, e16, _⟩ := hk7.ex 7 rfl
   replace hfr7 := hfr7.cons e16
   replace hst7 := hst7.fin (L' := [_]) (.cons e16 <| .cons e16 <| .nil)
   clear hst6 hfr6 hk7
   refine hK14 _ _ ?_
   have zq4 := zq3.trans hle7
   replace h_t := h_t.mono zq4
   replace hs_t := hs_t.mono zq4
   replace hrw_t := hrw_t.mono zq4
   have zq5 := zq2.trans hle7
   replace hc2 := hc2.mono zq5
   replace hk_t := hk_t.mono hle7
   replace hcv15 := hcv15.mono hle7
   replace hv15 := hv15.mono hle7
   replace hkd15 := hkd15.mono hle7
   replace hs15 := hs15.mono hle7
   replace hrw15 := hrw15.mono hle7
   refine rp0 hst7 hfr7 (.cons rfl (zG rfl) <| .cons rfl (zAw (j := 0) rfl rfl isAgg45 sizeOf45 rfl rfl) <| .cons rfl (zG rfl) <| .cons rfl (zp rfl (.cons rfl <| .cons rfl <| .nil) call84 (fun w m hK => by have hle_ := KC.le hK; have hA := KC.agree hK; have h_t := h_t.mono hle_; have hk_t := hk_t.mono hle_; have hs_t := hs_t.mono hle_; have hrw_t := hrw_t.mono hle_; have hc2 := hc2.mono hle_; have hcv15 := hcv15.mono hle_; have hv15 := hv15.mono hle_; have hkd15 := hkd15.mono hle_; have hs15 := hs15.mono hle_; have hrw15 := hrw15.mono hle_; exact ih _ (by assumption) hA (by assumption) (by have := hbk _ (by assumption); omega))) <| .cons rfl (zy rfl rfl ⟨by omega, by omega⟩) <| .cons rfl (zH rfl) <| .nil) fun a8 w8 m8 hst8 hle8 hk8 => ?_
   have hfr8 := hk8.fr (.o 20 <| .o 1 <| .o 18 <| .o 19 <| .n 5 <| .nil)
   clear hst7 hfr7 hk8
   refine hK13 _ _ ?_
   refine rp0 hst8 hfr8 (.cons rfl (zy rfl rfl ⟨by omega, by omega⟩) <| .cons rfl (zG rfl) <| .nil) fun a9 w9 m9 hst9 hle9 hk9 => ?_
   have hfr9 := hk9.fr (.o 1 <| .o 18 <| .o 19 <| .o 5 <| .n 20 <| .nil)
   clear hst8 hfr8 hk9
   have hst9 := hst9.take 0
   have zq6 := hle8.trans hle9
   have zq7 := hle7.trans zq6
   have zq8 := hle6.trans zq7
   have hlh9 := hlh5.trans zq8
   exact ⟨(y + 1, (a + (zAI n x15 : Int))), m9, by show t.args.length - (y + 1) < t.args.length - y; omega, ⟨hst9, hlh9, hfr9.sub (.c <| .c <| .c <| .c <| .c <| .nil), ⟨by show y + 1 ≤ t.args.length; omega, by rw [hd15, zAa] at ha; show a + (zAI n x15 : Int) + ((zAa n (t.args.drop (y + 1)) : Nat) : Int) = ((zAI n t : Nat) : Int); omega, by show 0 ≤ a + (zAI n x15 : Int); omega⟩⟩⟩
  ·try simp only [nqs] at hb21
   have hge : y = t.args.length := by omega
   rw [List.drop_of_length_le (by omega), zAa] at ha
   refine z7 ?_
   refine hK8 _ _ ?_
   refine zE fun _ hK17 => ?_
   refine rp0 hst6 hfr6 (.cons rfl (zG rfl) <| .cons rfl (zH rfl) <| .nil) fun a7 w7 m7 hst7 hle7 hk7 => ?_
   have hfr7 := hk7.fr (.o 5 <| .o 20 <| .n 4 <| .nil)
   clear hst6 hfr6 hk7
   refine hK17 _ _ ?_
   refine zU ?_
   repeat (with_reducible first | refine zL ?_ | refine zI ?_)
   exact zV hst7 hfr7 rfl (.tmp rfl <| .nil) (by refine congrArg (Value.int _) ?_; omega)
theorem uses_c (t : Ty) : uses_G t := Ty.rec_ (p := uses_G) (fun t ih => uses_s ih) t
abbrev depth_G (t : Ty) : Prop := ∀ {w : World} {m : Mem} {vs_t : List Value} {left : Nat} (hA : Agree w m) (h_t : TyR m t vs_t) (hl : left ≤ 1000), FnV Tryz.prog 53 #[.agg vs_t.toArray, .int .i64 (left : Int)] w m (fun _ _ v => v = .int .i64 (zDB left t : Int))
set_option maxHeartbeats 400000 in
theorem depth_s {t : Ty} (ih : ∀ u ∈ t.args, depth_G u) {w : World} {m : Mem} {vs_t : List Value} {left : Nat} (hA : Agree w m) (h_t : TyR m t vs_t) (hl : left ≤ 1000) : FnV Tryz.prog 53 #[.agg vs_t.toArray, .int .i64 (left : Int)] w m (fun _ _ v => v = .int .i64 (zDB left t : Int)) := by
 obtain ⟨o_t, c_t, oL_t, cL_t, rfl, hk_t, hs_t, hi_t, hj_t, hr_t⟩ := h_t.open_
 have hbg_t := hk_t.big; have hcp_t := hk_t.cap; have hbs_t := hs_t.big; have hcs_t := hs_t.cap
 have hrw_t : RwR _ ⟨t.labels, t.rv⟩ _ := ⟨_, _, rfl, hs_t, hr_t⟩
 refine zY (vs := [_, _]) func53 rfl rfl rfl fun a0 hfr0 => ?_
 have hst0 := zX hA (zw [] _ w m)
 have hM : MLe m m := MLe.refl m
 have hdm := zET t left
 refine zE fun _ hK1 => ?_
 refine rp0 hst0 hfr0 (.cons rfl (ZA rfl rfl) <| .cons rfl (zH rfl) <| .nil) fun a1 w1 m1 hst1 hle1 hk1 => ?_
 have hfr1 := hk1.fr (.o 1 <| .nil)
 obtain ⟨g2, e2, hc2⟩ := hk1.ex 2 rfl
 replace hfr1 := hfr1.cons e2
 replace h_t := h_t.mono hle1
 replace hk_t := hk_t.mono hle1
 replace hs_t := hs_t.mono hle1
 replace hrw_t := hrw_t.mono hle1
 clear hst0 hfr0 hk1
 refine hK1 _ _ ?_
 refine zE fun _ hK3 => ?_
 refine zE fun _ hK4 => ?_
 refine rp0 hst1 hfr1 (.cons rfl (zG rfl) <| .cons rfl (zq rfl rfl) <| .nil) fun a2 w2 m2 hst2 hle2 hk2 => ?_
 have hfr2 := hk2.fr (.o 1 <| .o 2 <| .n 9 <| .nil)
 replace h_t := h_t.mono hle2
 replace hk_t := hk_t.mono hle2
 replace hs_t := hs_t.mono hle2
 replace hrw_t := hrw_t.mono hle2
 replace hc2 := hc2.mono hle2
 clear hst1 hfr1 hk2
 refine hK4 _ _ ?_
 refine zJ hfr2 rfl rfl (fun hb9 => ?_) (fun hb9 => ?_)
 ·try simp only [nqs] at hb9
  refine zE fun _ hK5 => ?_
  refine rp0 hst2 hfr2 (.cons rfl (zH rfl) <| .nil) fun a3 w3 m3 hst3 hle3 hk3 => ?_
  have hfr3 := hk3.fr (.n 4 <| .nil)
  clear hst2 hfr2 hk3
  refine hK5 _ _ ?_
  refine zU ?_
  repeat (with_reducible first | refine zL ?_ | refine zI ?_)
  exact zV hst3 hfr3 rfl (.tmp rfl <| .nil) (by refine congrArg (Value.int _) ?_; rw [zFO]; split <;> omega)
 ·try simp only [nqs] at hb9
  refine zR ?_
  refine hK3 _ _ ?_
  refine zE fun _ hK7 => ?_
  refine rp0 hst2 hfr2 (.cons rfl (zH rfl) <| .nil) fun a3 w3 m3 hst3 hle3 hk3 => ?_
  have hfr3 := hk3.fr (.o 1 <| .o 2 <| .n 5 <| .nil)
  clear hst2 hfr2 hk3
  refine hK7 _ _ ?_
  refine zE fun _ hK8 => ?_
  refine zE fun _ hK9 => ?_
  replace hc2 := hc2.mono hle3
  refine rp0 hst3 hfr3 (.cons rfl (zF (off := 3) rfl underlying45 rfl rfl sizeOf33 rfl) <| .cons rfl (zK rfl hc2 isAgg33 rfl) <| .cons rfl (zt rfl underlying33) <| .cons rfl (zG rfl) <| .nil) fun a4 w4 m4 hst4 hle4 hk4 => ?_
  have hfr4 := hk4.fr (.o 1 <| .o 5 <| .n 11 <| .n 12 <| .n 13 <| .nil)
  clear hst3 hfr3 hk4
  refine hK9 _ _ ?_
  refine zT ?_
  refine z6 (T := [(1, _), (11, _), (12, _)]) (fun (y : Nat × Int) => ([(5, .int .i64 y.2), (13, .int .i64 (y.1 : Int))] : List (Nat × Value))) (fun y => []) (fun (y : Nat × Int) m => (fun (y : Nat) (a : Int) => (y ≤ t.args.length) ∧ (a = (zBA (left - 1) (t.args.take y) : Int)) ∧ (a ≤ 1000)) y.1 y.2) (fun y => t.args.length - y.1) ((0, 0)) ⟨hst4, MLe.refl _, hfr4.sub (.c <| .c <| .c <| .c <| .c <| .nil), ⟨Nat.zero_le _, rfl, by omega⟩⟩ fun y a5 w5 m5 hh5 => ?_
  have hst5 := hh5.st; have hle5 := hh5.le; have hfr5 := hh5.fr; have hrel := hh5.rel; clear hh5
  clear hst4 hfr4
  obtain ⟨y, a⟩ := y
  dsimp only at hrel hfr5 hst5
  obtain ⟨hyn, ha, ha2⟩ := hrel
  have hlh5 := hle5
  refine zE fun _ hK11 => ?_
  refine rp0 hst5 hfr5 (.cons rfl (ZG rfl rfl) <| .nil) fun a6 w6 m6 hst6 hle6 hk6 => ?_
  have hfr6 := hk6.fr (.o 5 <| .o 13 <| .o 1 <| .o 11 <| .o 12 <| .n 14 <| .nil)
  clear hst5 hfr5 hk6
  refine hK11 _ _ ?_
  refine zE fun _ hK12 => ?_
  refine zJ hfr6 rfl rfl (fun hb14 => ?_) (fun hb14 => ?_)
  ·try simp only [nqs] at hb14
   refine zR ?_
   refine hK12 _ _ ?_
   refine zE fun _ hK13 => ?_
   refine zT ?_
   refine zE fun _ hK14 => ?_
   have zq1 := hle5.trans hle6
   have zq2 := hle4.trans zq1
   have zq3 := hle3.trans zq2
   replace hk_t := hk_t.mono zq3
   obtain ⟨p15, vs15, x15, ho15, hd15, hm_x15, ht15, hcv15, hl15, hv15⟩ := hk_t.nth (k := y) (by omega)
   cases ho15
   obtain ⟨o15, c15, oL15, cL15, rfl, hkd15, hs15, hi15, hj15, hr15⟩ := hv15.open_
   have hbg15 := hkd15.big; have hcp15 := hkd15.cap; have hbs15 := hs15.big; have hcs15 := hs15.cap
   have hrw15 : RwR _ ⟨x15.labels, x15.rv⟩ _ := ⟨_, _, rfl, hs15, hr15⟩
   replace hst6 := hst6.more (r := .free) trivial List.nodup_nil (by simp [Res.blocks])
   refine ra0 (tch := [(2, 0, (fun v => .blk v _)), (3, 0, (fun v => .blk v _))]) hst6 hfr6 (.cons rfl (zN (k := y) rfl rfl underlying33 sizeOf45 rfl (by omega)) <| .cons rfl (zS rfl hcv15 isAgg45 sizeOf45 rfl rfl) <| .consT rfl rfl (fun _ => rfl) rfl (zj zeroValue45 rfl) <| .consT rfl rfl (fun _ => rfl) rfl (ze 7 rfl rfl rfl fun y7 => ZD rfl rfl rfl rfl rfl sizeOf45 rfl rfl rfl) <| .nil) fun a7 w7 m7 hst7 hle7 hk7 => ?_
   have hfr7 := hk7.fr (.o 5 <| .o 13 <| .o 1 <| .o 11 <| .o 12 <| .nil)
   obtain ⟨g16, e16, _⟩ := hk7.ex 7 rfl
   replace hfr7 := hfr7.cons e16
   replace hst7 := hst7.fin (L' := [_]) (.cons e16 <| .cons e16 <| .nil)
   clear hst6 hfr6 hk7
   refine hK14 _ _ ?_
   have el : ((left - 1 : Nat) : Int) = (left : Int) - 1 := by omega
   have zq4 := zq3.trans hle7
   replace h_t := h_t.mono zq4
   replace hs_t := hs_t.mono zq4
   replace hrw_t := hrw_t.mono zq4
   have zq5 := zq2.trans hle7
   replace hc2 := hc2.mono zq5
   replace hk_t := hk_t.mono hle7
   replace hcv15 := hcv15.mono hle7
   replace hv15 := hv15.mono hle7
   replace hkd15 := hkd15.mono hle7
   replace hs15 := hs15.mono hle7
   replace hrw15 := hrw15.mono hle7
   refine rp0 hst7 hfr7 (.cons rfl (zG rfl) <| .cons rfl (zAw (j := 0) rfl rfl isAgg45 sizeOf45 rfl rfl) <| .cons rfl (zG rfl) <| .cons rfl (zGQ rfl rfl ⟨by omega, by omega⟩) <| .cons rfl (zp rfl (.cons rfl <| .cons rfl <| .nil) call53 (fun w m hK => by have hle_ := KC.le hK; have hA := KC.agree hK; have h_t := h_t.mono hle_; have hk_t := hk_t.mono hle_; have hs_t := hs_t.mono hle_; have hrw_t := hrw_t.mono hle_; have hc2 := hc2.mono hle_; have hcv15 := hcv15.mono hle_; have hv15 := hv15.mono hle_; have hkd15 := hkd15.mono hle_; have hs15 := hs15.mono hle_; have hrw15 := hrw15.mono hle_; exact (show FnV Tryz.prog 53 #[_, .int .i64 ((left : Int) - 1)] _ _ _ from by rw [← el]; exact ih _ (by assumption) hA (by assumption) (by omega)))) <| .cons rfl (ob_max2 rfl rfl) <| .cons rfl (zH rfl) <| .nil) fun a8 w8 m8 hst8 hle8 hk8 => ?_
   have hfr8 := hk8.fr (.o 13 <| .o 1 <| .o 11 <| .o 12 <| .n 5 <| .nil)
   clear hst7 hfr7 hk8
   refine hK13 _ _ ?_
   refine rp0 hst8 hfr8 (.cons rfl (zy rfl rfl ⟨by omega, by omega⟩) <| .cons rfl (zG rfl) <| .nil) fun a9 w9 m9 hst9 hle9 hk9 => ?_
   have hfr9 := hk9.fr (.o 1 <| .o 11 <| .o 12 <| .o 5 <| .n 13 <| .nil)
   clear hst8 hfr8 hk9
   have hst9 := hst9.take 0
   have hz : (if ((zDB (left - 1) x15 : Nat) : Int) > a then ((zDB (left - 1) x15 : Nat) : Int) else a) = ((zBA (left - 1) (t.args.take (y + 1)) : Nat) : Int) := by rw [ht15, zDI, ha]; split <;> omega
   rw [hz] at hfr9
   have zq6 := hle8.trans hle9
   have zq7 := hle7.trans zq6
   have zq8 := hle6.trans zq7
   have hlh9 := hlh5.trans zq8
   exact ⟨(y + 1, _), m9, by show t.args.length - (y + 1) < t.args.length - y; omega, ⟨hst9, hlh9, hfr9.sub (.c <| .c <| .c <| .c <| .c <| .nil), ⟨by show y + 1 ≤ t.args.length; omega, rfl, by have h8 := zET x15 (left - 1); show ((zBA (left - 1) (t.args.take (y + 1)) : Nat) : Int) ≤ 1000; rw [ht15, zDI]; omega⟩⟩⟩
  ·try simp only [nqs] at hb14
   have hge : y = t.args.length := by omega
   rw [List.take_of_length_le (by omega)] at ha
   refine z7 ?_
   refine hK8 _ _ ?_
   refine zE fun _ hK17 => ?_
   refine rp0 hst6 hfr6 (.cons rfl (zG rfl) <| .cons rfl (zy rfl rfl ⟨by omega, by omega⟩) <| .cons rfl (zH rfl) <| .nil) fun a7 w7 m7 hst7 hle7 hk7 => ?_
   have hfr7 := hk7.fr (.o 5 <| .o 13 <| .n 4 <| .nil)
   clear hst6 hfr6 hk7
   refine hK17 _ _ ?_
   refine zU ?_
   repeat (with_reducible first | refine zL ?_ | refine zI ?_)
   exact zV hst7 hfr7 rfl (.tmp rfl <| .nil) (by refine congrArg (Value.int _) ?_; rw [zFO]; split <;> omega)
theorem depth_c (t : Ty) : depth_G t := Ty.rec_ (p := depth_G) (fun t ih => depth_s ih) t
set_option maxHeartbeats 400000 in
theorem depth0_c {w : World} {m : Mem} {t : Ty} {vs_t : List Value} (hA : Agree w m) (h_t : TyR m t vs_t) : FnV Tryz.prog 35 #[.agg vs_t.toArray] w m (fun _ _ v => v = .int .i64 (min 201 (zBj t) : Nat)) := by
 obtain ⟨o_t, c_t, oL_t, cL_t, rfl, hk_t, hs_t, hi_t, hj_t, hr_t⟩ := h_t.open_
 have hbg_t := hk_t.big; have hcp_t := hk_t.cap; have hbs_t := hs_t.big; have hcs_t := hs_t.cap
 have hrw_t : RwR _ ⟨t.labels, t.rv⟩ _ := ⟨_, _, rfl, hs_t, hr_t⟩
 refine zY (vs := [_]) func35 rfl rfl rfl fun a0 hfr0 => ?_
 have hst0 := zX hA (zw [] _ w m)
 have hM : MLe m m := MLe.refl m
 have hdm := zET t 200
 refine zE fun _ hK1 => ?_
 refine rp0 hst0 hfr0 (.cons rfl (ZA rfl rfl) <| .cons rfl (zH rfl) <| .nil) fun a1 w1 m1 hst1 hle1 hk1 => ?_
 have hfr1 := hk1.fr (.nil)
 obtain ⟨g2, e2, hc1⟩ := hk1.ex 1 rfl
 replace hfr1 := hfr1.cons e2
 replace h_t := h_t.mono hle1
 clear hst0 hfr0 hk1
 refine hK1 _ _ ?_
 refine zE fun _ hK3 => ?_
 refine rp0 hst1 hfr1 (.cons rfl (zS rfl hc1 isAgg45 sizeOf45 rfl rfl) <| .cons rfl (zp rfl (.cons rfl <| .cons rfl <| .nil) call53 (fun w m hK => by have hle_ := KC.le hK; have hA := KC.agree hK; have h_t := h_t.mono hle_; exact depth_c t (left := 200) hA h_t (by omega))) <| .cons rfl (ob_min2 rfl rfl) <| .cons rfl (zH rfl) <| .nil) fun a2 w2 m2 hst2 hle2 hk2 => ?_
 have hfr2 := hk2.fr (.n 2 <| .nil)
 clear hst1 hfr1 hk2
 refine hK3 _ _ ?_
 refine zU ?_
 repeat (with_reducible first | refine zL ?_ | refine zI ?_)
 exact zV hst2 hfr2 rfl (.tmp rfl <| .nil) (by refine congrArg (Value.int _) ?_; split <;> omega)
set_option maxHeartbeats 400000 in
theorem large_c {w : World} {m : Mem} {t : Ty} {vs_t : List Value} (hA : Agree w m) (h_t : TyR m t vs_t) (hb : ZH t ≤ 1000000000000000000) : FnV Tryz.prog 12 #[.agg vs_t.toArray] w m (fun _ _ v => v = .bool (zBI t)) := by
 obtain ⟨o_t, c_t, oL_t, cL_t, rfl, hk_t, hs_t, hi_t, hj_t, hr_t⟩ := h_t.open_
 have hbg_t := hk_t.big; have hcp_t := hk_t.cap; have hbs_t := hs_t.big; have hcs_t := hs_t.cap
 have hrw_t : RwR _ ⟨t.labels, t.rv⟩ _ := ⟨_, _, rfl, hs_t, hr_t⟩
 refine zY (vs := [_]) func12 rfl rfl rfl fun a0 hfr0 => ?_
 have hst0 := zX hA (zw [] _ w m)
 have hM : MLe m m := MLe.refl m
 refine zE fun _ hK1 => ?_
 refine rp0 hst0 hfr0 (.cons rfl (ZA rfl rfl) <| .cons rfl (zH rfl) <| .nil) fun a1 w1 m1 hst1 hle1 hk1 => ?_
 have hfr1 := hk1.fr (.nil)
 obtain ⟨g2, e2, hc1⟩ := hk1.ex 1 rfl
 replace hfr1 := hfr1.cons e2
 replace h_t := h_t.mono hle1
 clear hst0 hfr0 hk1
 refine hK1 _ _ ?_
 refine zE fun _ hK3 => ?_
 refine rp0 hst1 hfr1 (.cons rfl (zS rfl hc1 isAgg45 sizeOf45 rfl rfl) <| .cons rfl (zp rfl (.cons rfl <| .nil) call34 (fun w m hK => by have hle_ := KC.le hK; have hA := KC.agree hK; have h_t := h_t.mono hle_; exact zGc t hA h_t hb)) <| .cons rfl (zAU rfl rfl) <| .cons rfl (zG rfl) <| .cons rfl (zS rfl hc1 isAgg45 sizeOf45 rfl rfl) <| .cons rfl (zp rfl (.cons rfl <| .nil) call35 (fun w m hK => by have hle_ := KC.le hK; have hA := KC.agree hK; have h_t := h_t.mono hle_; exact depth0_c hA h_t)) <| .cons rfl (zAU rfl rfl) <| .cons rfl (zAq rfl rfl rfl) <| .cons rfl (zH rfl) <| .nil) fun a2 w2 m2 hst2 hle2 hk2 => ?_
 have hfr2 := hk2.fr (.n 2 <| .nil)
 clear hst1 hfr1 hk2
 refine hK3 _ _ ?_
 refine zU ?_
 repeat (with_reducible first | refine zL ?_ | refine zI ?_)
 exact zV hst2 hfr2 rfl (.tmp rfl <| .nil) (by refine congrArg Value.bool ?_; unfold zBI; rw [Bool.eq_iff_iff]; simp; omega)
set_option maxHeartbeats 400000 in
theorem indexfI_c {w : World} {m : Mem} {o_l : Option Addr} {c_l : Nat} {l : List Int} {cid : Nat} {cap : List Value} {φ : Int → Bool} (hA : Agree w m) (h_l : Ints m o_l l.length c_l l) (hc : ∀ args w, (callFunc cid args).run Tryz.prog w = .ok (.enter cid args) w) (hφ : ∀ w m' (t : Int), MLe m m' → Agree w m' → t ∈ l → FnV Tryz.prog cid ([Value.int .i64 t] ++ cap).toArray w m' (fun _ _ v => v = .bool (φ t))) : FnV Tryz.prog 100 #[.slice o_l l.length c_l, .func (.func cid) #[] cap.toArray] w m (fun _ _ v => ∃ i : Int, v = .int .i64 i ∧ decide (0 ≤ i) = l.any φ) := by
 have hb_l := h_l.big; have hc_l := h_l.cap
 refine zY (vs := [_, _]) func100 rfl rfl rfl fun a0 hfr0 => ?_
 have hst0 := zX hA (zw [] _ w m)
 have hM : MLe m m := MLe.refl m
 refine zE fun _ hK1 => ?_
 refine rp0 hst0 hfr0 (.cons rfl (zH rfl) <| .nil) fun a1 w1 m1 hst1 hle1 hk1 => ?_
 have hfr1 := hk1.fr (.o 0 <| .o 1 <| .nil)
 replace h_l := h_l.mono hle1
 replace hM := hM.trans hle1
 clear hst0 hfr0 hk1
 refine hK1 _ _ ?_
 refine zE fun _ hK2 => ?_
 refine zE fun _ hK3 => ?_
 refine rp0 hst1 hfr1 (.cons rfl (zG rfl) <| .cons rfl (zt rfl underlying32) <| .cons rfl (zG rfl) <| .nil) fun a2 w2 m2 hst2 hle2 hk2 => ?_
 have hfr2 := hk2.fr (.o 0 <| .o 1 <| .n 7 <| .n 8 <| .nil)
 replace h_l := h_l.mono hle2
 replace hM := hM.trans hle2
 clear hst1 hfr1 hk2
 refine hK3 _ _ ?_
 refine zT ?_
 refine z6 (T := [(0, _), (1, _), (7, _)]) (fun (y : Nat) => ([(8, .int .i64 (y : Int))] : List (Nat × Value))) (fun _ => _) (fun (y : Nat) m => (y ≤ l.length) ∧ (l.any φ = (l.drop y).any φ)) (fun y => l.length - y) (0) ⟨hst2, MLe.refl _, hfr2.sub (.c <| .c <| .c <| .c <| .nil), ⟨Nat.zero_le _, rfl⟩⟩ fun y a3 w3 m3 hh3 => ?_
 have hst3 := hh3.st; have hle3 := hh3.le; have hfr3 := hh3.fr; have hrel := hh3.rel; clear hh3
 replace h_l := h_l.mono hle3
 clear hst2 hfr2
 replace hM := hM.trans hle3
 obtain ⟨hyn, hrem⟩ := hrel
 have hlh3 := hle3
 refine zE fun _ hK5 => ?_
 refine rp0 hst3 hfr3 (.cons rfl (ZG rfl rfl) <| .nil) fun a4 w4 m4 hst4 hle4 hk4 => ?_
 have hfr4 := hk4.fr (.o 8 <| .o 0 <| .o 1 <| .o 7 <| .n 9 <| .nil)
 replace h_l := h_l.mono hle4
 have hlh4 := hlh3.trans hle4
 replace hM := hM.trans hle4
 clear hst3 hfr3 hk4
 refine hK5 _ _ ?_
 refine zE fun _ hK6 => ?_
 refine zJ hfr4 rfl rfl (fun hb9 => ?_) (fun hb9 => ?_)
 ·try simp only [nqs] at hb9
  refine zR ?_
  refine hK6 _ _ ?_
  refine zE fun _ hK7 => ?_
  refine zT ?_
  refine zE fun _ hK8 => ?_
  refine rp0 hst4 hfr4 (.cons rfl (zG rfl) <| .cons rfl (zH rfl) <| .nil) fun a5 w5 m5 hst5 hle5 hk5 => ?_
  have hfr5 := hk5.fr (.o 8 <| .o 0 <| .o 1 <| .o 7 <| .n 5 <| .nil)
  clear hst4 hfr4 hk5
  refine hK8 _ _ ?_
  refine zE fun _ hK9 => ?_
  replace h_l := h_l.mono hle5
  obtain ⟨p10, vs10, x10, ho10, hd10, hm_x10, ht10, hcv10, hl10, hv10⟩ := h_l.nth (k := y) (by omega)
  cases ho10
  subst hv10
  try rw [hd10] at hrem
  try simp only [List.any_cons, List.any_nil] at hrem
  replace hM := hM.trans hle5
  refine rp0 hst5 hfr5 (.cons rfl (zG rfl) <| .cons rfl (zG rfl) <| .cons rfl (zG rfl) <| .cons rfl (zN (k := y) rfl rfl underlying32 sizeOf3 rfl (by omega)) <| .cons rfl (zr rfl hcv10 isAgg3 rfl) <| .cons rfl (zp rfl (.cons rfl <| .nil) hc (fun w m hK => by have hle_ := KC.le hK; have hA := KC.agree hK; have hM := hM.trans hle_; exact hφ w m _ hM hA hm_x10)) <| .nil) fun a6 w6 m6 hst6 hle6 hk6 => ?_
  have hfr6 := hk6.fr (.o 8 <| .o 0 <| .o 1 <| .o 7 <| .o 5 <| .n 16 <| .nil)
  clear hst5 hfr5 hk6
  refine hK9 _ _ ?_
  refine zJ hfr6 rfl rfl (fun hb16 => ?_) (fun hb16 => ?_)
  ·try simp only [nqs] at hb16
   have hres : decide ((0 : Int) ≤ (y : Int)) = l.any φ := by rw [hrem, hb16]; simp
   refine zE fun _ hK11 => ?_
   refine rp0 hst6 hfr6 (.cons rfl (zG rfl) <| .cons rfl (zH rfl) <| .nil) fun a7 w7 m7 hst7 hle7 hk7 => ?_
   have hfr7 := hk7.fr (.o 8 <| .n 4 <| .nil)
   clear hst6 hfr6 hk7
   refine hK11 _ _ ?_
   refine zU ?_
   repeat (with_reducible first | refine zL ?_ | refine zI ?_)
   exact zV hst7 hfr7 rfl (.tmp rfl <| .nil) (⟨_, rfl, by first | exact hres | (rw [hrem]; rfl)⟩)
  ·try simp only [nqs] at hb16
   refine zR ?_
   refine hK7 _ _ ?_
   refine rp0 hst6 hfr6 (.cons rfl (zy rfl rfl ⟨by omega, by omega⟩) <| .cons rfl (zG rfl) <| .nil) fun a7 w7 m7 hst7 hle7 hk7 => ?_
   have hfr7 := hk7.fr (.o 0 <| .o 1 <| .o 7 <| .n 8 <| .nil)
   clear hst6 hfr6 hk7
   have zq1 := hle6.trans hle7
   have zq2 := hle5.trans zq1
   have hlh7 := hlh4.trans zq2
   exact ⟨y + 1, m7, by show l.length - (y + 1) < l.length - y; omega, ⟨hst7, hlh7, hfr7.sub (.c <| .c <| .c <| .c <| .nil), ⟨by show y + 1 ≤ l.length; omega, by rw [hrem, hb16]; rfl⟩⟩⟩
 ·try simp only [nqs] at hb9
  have hge : y = l.length := by omega
  rw [List.drop_of_length_le (by omega)] at hrem
  simp only [List.any_cons, List.any_nil] at hrem
  refine z7 ?_
  refine hK2 _ _ ?_
  refine zE fun _ hK13 => ?_
  refine rp0 hst4 hfr4 (.cons rfl (zH rfl) <| .nil) fun a5 w5 m5 hst5 hle5 hk5 => ?_
  have hfr5 := hk5.fr (.o 8 <| .n 4 <| .nil)
  clear hst4 hfr4 hk5
  refine hK13 _ _ ?_
  refine zU ?_
  repeat (with_reducible first | refine zL ?_ | refine zI ?_)
  exact zV hst5 hfr5 rfl (.tmp rfl <| .nil) (⟨_, rfl, by first | exact hres | (rw [hrem]; rfl)⟩)
set_option maxHeartbeats 400000 in
theorem containsfI_c {w : World} {m : Mem} {o_l : Option Addr} {c_l : Nat} {l : List Int} {cid : Nat} {cap : List Value} {φ : Int → Bool} (hA : Agree w m) (h_l : Ints m o_l l.length c_l l) (hc : ∀ args w, (callFunc cid args).run Tryz.prog w = .ok (.enter cid args) w) (hφ : ∀ w m' (t : Int), MLe m m' → Agree w m' → t ∈ l → FnV Tryz.prog cid ([Value.int .i64 t] ++ cap).toArray w m' (fun _ _ v => v = .bool (φ t))) : FnV Tryz.prog 81 #[.slice o_l l.length c_l, .func (.func cid) #[] cap.toArray] w m (fun _ _ v => v = .bool (l.any φ)) := by
 have hb_l := h_l.big; have hc_l := h_l.cap
 refine zY (vs := [_, _]) func81 rfl rfl rfl fun a0 hfr0 => ?_
 have hst0 := zX hA (zw [] _ w m)
 have hM : MLe m m := MLe.refl m
 refine zE fun _ hK1 => ?_
 refine rp0 hst0 hfr0 (.cons rfl (zH rfl) <| .nil) fun a1 w1 m1 hst1 hle1 hk1 => ?_
 have hfr1 := hk1.fr (.o 0 <| .o 1 <| .nil)
 replace h_l := h_l.mono hle1
 replace hM := hM.trans hle1
 clear hst0 hfr0 hk1
 refine hK1 _ _ ?_
 refine zE fun _ hK2 => ?_
 refine ra0 (tch := []) hst1 hfr1 (.cons rfl (zG rfl) <| .cons rfl (zG rfl) <| .cons rfl (zZ (φ := MP.mem (fun i : Int => .int .i64 i) (fun i _ => decide (0 ≤ i) = l.any φ) (fun _ h => h)) rfl (.cons rfl <| .cons rfl <| .nil) call100 (fun w m hK => by have hle_ := KC.le hK; have hA := KC.agree hK; have hM := hM.trans hle_; have h_l := h_l.mono hle_; exact FnG.mono (indexfI_c (φ := φ) hA h_l hc (fun w m2 t hm ha ht => hφ w m2 t (hM.trans hm) ha ht)) fun _ _ _ _ h => h)) <| .cons rfl (ZK 7 rfl rfl rfl fun y7 => zEW rfl rfl) <| .consA 8 rfl rfl <| .nil) fun a2 w2 m2 hst2 hle2 hk2 => ?_
 have hfr2 := hk2.fr (.nil)
 obtain ⟨i, e3, hi⟩ := hk2.ex 8 rfl
 replace hfr2 := hfr2.cons (hk2.same 4 rfl e3)
 clear hst1 hfr1 hk2
 refine hK2 _ _ ?_
 refine zU ?_
 repeat (with_reducible first | refine zL ?_ | refine zI ?_)
 exact zV hst2 hfr2 rfl (.tmp rfl <| .nil) (by dsimp only at hi; rw [← hi]; rfl)
end Go.Proofs.YtlidonjpgigocaaGreat
namespace Go.Proofs.YtlidonjpgigocaaGreat
set_option linter.all false
open Go.RowKit
theorem mrow_some {w : World} {m : Mem} {o : Option Addr} {n c size : Nat} {e : TypeId} {xs : List Value} (h : (Res.mrow (.slice o n c) n size e xs).holds w m) (h0 : 0 < n) : ∃ g, o = some ⟨g, 0, none⟩ := by
 obtain ⟨-, o', cap', e1, h1, h2, h3⟩ := h
 injection e1 with e1 e2 e3; subst e1; subst e3
 rcases h3 with rfl | ⟨g, cur, rfl, -⟩
 ·omega
 ·exact ⟨g, rfl⟩
theorem mBlock_n (o : Option Addr) (n n' c : Nat) : zBH (.slice o n c) = zBH (.slice o n' c) := by
 cases c with
 | zero => rfl
 | succ c => cases o <;> rfl
theorem zEw {w : World} {m : Mem} {o : Option Addr} {n c size : Nat} {e : TypeId} {xs : List Value} (h : (Res.mrow (.slice o n c) n size e xs).holds w m) : n ≤ c ∧ c ≤ maxLen := by
 obtain ⟨o', c', e1, h1, h2⟩ := Res.mrow_val h
 injection e1 with e1 e2 e3; subst e3; exact ⟨h1, h2⟩
theorem mrow_cut {w : World} {m : Mem} {o : Option Addr} {n c : Nat} {e : TypeId} {xs : List Value} (h : (Res.mrow (.slice o n c) n 1 e xs).holds w m) {k : Nat} (hk : k ≤ n) : (Res.mrow (.slice o k c) k 1 e (xs.take k)).holds w m := by
 obtain ⟨hlen, o', cap', e1, h1, h2, h3⟩ := h
 injection e1 with e1 e2 e3; subst e1; subst e3
 refine ⟨by rw [List.length_take]; omega, o, c, rfl, by omega, h2, ?_⟩
 rcases h3 with h3 | ⟨g, cur, h4, h5, h6, h7, h8⟩
 ·exact .inl h3
 ·refine .inr ⟨g, cur, h4, h5, h6, ?_, h8⟩
  rw [← h7, List.take_take]; congr 1; omega
theorem mrow_see {w : World} {m : Mem} {o : Option Addr} {n c size : Nat} {e : TypeId} {xs : List Value} (hA : Agree w m) (h : (Res.mrow (.slice o n c) n size e xs).holds w m) : ∃ m', Agree w m' ∧ MLe m m' ∧ RowAt m' o xs := by
 obtain ⟨m', ht, o', c', e1, _, _, hr⟩ := zBz hA h
 injection e1 with e1 e2 e3; subst e1
 exact ⟨m', ht.ext.agree, ht.ext.le, hr⟩
theorem blk_see {w : World} {m : Mem} {g : Nat} {cs : List Value} {e : TypeId} (hA : Agree w m) (h : (Res.blk (.pointer (some ⟨g, 0, none⟩)) (.cells cs.toArray e)).holds w m) : ∃ m', Agree w m' ∧ MLe m m' ∧ CellsAt m' ⟨g, 0, none⟩ cs := by
 obtain ⟨g', e1, hh, hm⟩ := h
 injection e1 with e1; injection e1 with e1; injection e1 with e1; subst e1
 refine ⟨m.add g cs.toArray, ⟨fun b o v e => ?_, hA.map⟩, ⟨fun b o v e => ?_, fun _ _ h => h⟩, rfl, fun i v e => ?_⟩
 ·change (if b = g then cs.toArray[o]? else m b o) = some v at e
  split at e
  ·rename_i hb; subst hb; unfold World.cell?; simp only [hh]; exact e
  ·exact hA.cell b o v e
 ·show (if b = g then cs.toArray[o]? else m b o) = some v
  rw [if_neg (fun hb => by rw [hb, hm] at e; cases e)]; exact e
 ·show (if g = g then cs.toArray[0 + i]? else _) = _
  rw [if_pos rfl, Nat.zero_add]; simpa using e
theorem St.freezeB {G0 : List Nat} {W : World} {mE : Mem} {L : List Res} {w : World} {m : Mem} {k g : Nat} {cs : Array Value} {e : TypeId} (h : St G0 W mE L w m) (hk : L[k]? = some (.blk (.pointer (some ⟨g, 0, none⟩)) (.cells cs e (0, 0)))) :
  ∃ m', MLe m m' ∧ St G0 W mE (L.set k .free) w m' ∧ CellsAt m' ⟨g, 0, none⟩ cs.toList := by
 obtain ⟨g', e1, hh, h6⟩ := h.loc.at_ hk
 simp only [Value.pointer.injEq, Option.some.injEq, Addr.mk.injEq] at e1
 obtain ⟨rfl, -⟩ := e1
 have ha := h.agree
 have hag : Agree w (m.add g cs) := ⟨fun b o u hu => by
  change (if b = g then cs[o]? else m b o) = some u at hu
  split at hu
  ·rename_i hb; subst hb
   unfold World.cell?; simp only [hh]; simpa using hu
  ·exact ha.cell b o u hu, ha.map⟩
 have hle : MLe m (m.add g cs) := ⟨fun b o u hu => by
  show (if b = g then cs[o]? else m b o) = some u
  split
  ·rename_i hb; subst hb; rw [h6 o] at hu; cases hu
  ·exact hu, fun _ _ h => h⟩
 refine ⟨m.add g cs, hle, h.touch hk ⟨⟨rfl, rfl, rfl, Nat.le_refl _, fun _ _ _ => rfl, hag, hle, fun b _ hb => ⟨by funext o; show (if b = g then cs[o]? else m b o) = m b o; rw [if_neg (fun e => hb (by simp [Res.blocks, ZB, e]))], rfl⟩⟩, trivial, List.nodup_nil, fun g hg => by cases hg⟩, rfl, fun i u hu => ?_⟩
 show (if g = g then cs[0 + i]? else m g (0 + i)) = some u
 rw [if_pos rfl, Nat.zero_add]; simpa using hu
section
variable {P : Program}
theorem FnV.pure {f : FuncId} {args : Array Value} {w : World} {m m2 : Mem} {u : Value} (hA : Agree w m) (h : FnV P f args w m2 fun _ _ v => v = u) : FnV P f args w m fun _ _ v => v = u :=
 Calls.mono h fun e w' ⟨v, m', e1, hE, hv⟩ => ⟨v, m, e1, ExtG.of_below hA hE.below, hv⟩
variable {K : World → Mem → Prop} {m0 : Mem} {L : List Res} {us : List Nat} {ch : List (Nat × Bool)} {pre : List Ent} {T : List (Nat × Value)}
variable {dst : Option Nat} {ty : TypeId} {pos : String} {af : Array Edge} {gd : Option (Nat × Bool)}
theorem ob_loadM1 [hK : KC K m0 L] {t e : TypeId} {x : Operand} {i j g n cap : Nat} {xs : List Value} {v : Value} (hx : ev us ch pre T x = some (.pointer (some ((⟨g, 0, none⟩ : Addr).add (i * 1)))))
  (hL : L[j]? = some (.mrow (.slice (some ⟨g, 0, none⟩) n cap) n 1 e xs)) (ha : ∀ w, (isAgg t).run P w = .ok false w) (hv : xs[i]? = some v) :
  Ob P K us ch pre T ⟨dst, .load t x, ty, pos, af, gd⟩ (.eq v) :=
 Z9 fun σ w m hk hn => by
  obtain ⟨hlen, o, cap', e1, h1, h2, h3⟩ := hK.at_ hk hL
  injection e1 with e1 e2 e3; subst e1; subst e3
  have hi : i < xs.length := (List.getElem?_eq_some_iff.1 hv).1
  rcases h3 with h3 | ⟨g', cur, e4, hh, h4, h5, h6⟩
  ·omega
  ·injection e4 with e4; injection e4 with e4; subst e4
   have hcell : w.cell? ((⟨g, 0, none⟩ : Addr).add (i * 1)) = some v := by
    have e5 : (⟨g, 0, none⟩ : Addr).add (i * 1) = ⟨g, i, none⟩ := by unfold Addr.add; split <;> simp_all
    rw [e5]; unfold World.cell?; simp only [hh]
    rw [← h5, List.getElem?_take, if_pos (by omega)] at hv
    simpa using hv
   rw [Nat.mul_one] at hcell hx
   simp [execOp, hn.ev hx, Instr.loadAt, Instr.sureAddr, loadVar, ha, run_load, hcell]
theorem zGW {w : World} {m : Mem} {g n cap i : Nat} {e : TypeId} {xs ws : List Value} (hA : Agree w m) (hr : (Res.mrow (.slice (some ⟨g, 0, none⟩) n cap) n 1 e xs).holds w m) (hi : i + ws.length ≤ n) (h0 : 0 < n) (h1 : ∀ v ∈ ws, v.oneCell' = true) :
  ∃ w', (storeCells ((⟨g, 0, none⟩ : Addr).add i) ws 0).run P w = .ok () w' ∧ Touch (.mrow (.slice (some ⟨g, 0, none⟩) n cap) n 1 e xs) (.mrow (.slice (some ⟨g, 0, none⟩) n cap) n 1 e (xs.take i ++ ws ++ xs.drop (i + ws.length))) w m w' m := by
 obtain ⟨hlen, o, cap', e1, hnc, hcm, h3⟩ := hr
 injection e1 with e1 e2 e3; subst e1; subst e3
 rcases h3 with h3 | ⟨g', cur, e4, hh, h4, h5, h6⟩
 ·omega
 ·injection e4 with e4; injection e4 with e4; subst e4
  have hcl : cur.toList.length = cap := by rw [Array.length_toList]; omega
  obtain ⟨w', r1, r2, r3, r4, r5, r6, r7⟩ := zBf (P := P) (g := g) (e := e) ws w cur.toList i 0 (by simpa using hh) (by omega) h1
  simp only [Nat.add_zero] at r2
  refine ⟨w', r1, zCZ (w := w) (w' := w') (m := m) (g := g) (n := n) (cap := cap) (n' := n) (size := 1) (e := e) (xs := xs) (cur := cur) (cur' := (cur.toList.take i ++ ws ++ cur.toList.drop (i + ws.length)).toArray) hA (by omega) hcm hh h6 hnc ?_ r2 ?_ ?_ r3 r4 r5 (by omega) (fun b _ hb => r7 b hb)⟩
  ·simp only [List.length_append, List.length_take, List.length_drop]; omega
  ·simp only [List.size_toArray, List.length_append, List.length_take, List.length_drop]; omega
  ·simp only [← h5, Nat.mul_one]
   rw [List.take_append, List.take_append, List.take_take, List.take_take, List.length_append, List.length_take, Nat.min_eq_left (show i ≤ cur.toList.length by omega), Nat.min_eq_right (show i ≤ n by omega), Nat.min_eq_left (show i ≤ n by omega),
    List.take_of_length_le (show ws.length ≤ n - i by omega), List.drop_take]
theorem ob_storeM1 [hK : KC K m0 L] {t e : TypeId} {x y : Operand} {i g n cap : Nat} {xs : List Value} {v : Value} (hx : ev us ch pre T x = some (.pointer (some ((⟨g, 0, none⟩ : Addr).add (i * 1))))) (hy : ev us ch pre T y = some v)
  (hv : v.cells = [v].toArray) (hz : ∀ w, (sizeOf t).run P w = .ok 1 w) (hi : i < n) (h1 : v.oneCell' = true) :
  ObT P K us ch pre T (fun _ => .mrow (.slice (some ⟨g, 0, none⟩) n cap) n 1 e xs) (fun _ => .mrow (.slice (some ⟨g, 0, none⟩) n cap) n 1 e (xs.take i ++ [v] ++ xs.drop (i + 1))) ⟨none, .store t x y, ty, pos, af, gd⟩ (.ex MP.any) := fun σ w m hk hr hkn => by
 obtain ⟨w', r1, ht⟩ := zGW (P := P) (ws := [v]) (i := i) (hK.agree hk) hr (by simp; omega) (by omega) (by simpa using h1)
 have hrun : (execOp (Zj σ) ⟨none, .store t x y, ty, pos, af, gd⟩).run P w = .ok .skip w' := by
  simp only [execOp, hkn.ev hx, hkn.ev hy]
  rw [Sem.run_bind]
  have : (Instr.storeAt t (.pointer (some ((⟨g, 0, none⟩ : Addr).add (i * 1)))) v).run P w = .ok () w' := by
   rw [Nat.mul_one]; simp [Instr.storeAt, Instr.sureAddr, storeVar, hz, hv, r1]
  rw [this]; rfl
 unfold Does; rw [hrun]
 exact ⟨m, ht, _, rfl, trivial⟩
theorem ob_sliceM [KC K m0 L] {t e : TypeId} {x : Operand} {lo hi : Option Operand} {g len cap l h : Nat} (hx : ev us ch pre T x = some (.slice (some ⟨g, 0, none⟩) len cap)) (hlo : Bnd us ch pre T lo 0 l) (hhi : Bnd us ch pre T hi len h)
  (ht : P.underlying t = some (.slice e)) (hz : ∀ w, (sizeOf e).run P w = .ok 1 w) (h1 : l ≤ h) (h2 : h ≤ cap) (h3 : l < cap) :
  Ob P K us ch pre T ⟨dst, .slice t x lo hi none, ty, pos, af, gd⟩ (.eq (.slice (some ((⟨g, 0, none⟩ : Addr).add l)) (h - l) (cap - l))) := by
 have := zBy (K := K) (ty := ty) (pos := pos) (af := af) (gd := gd) (dst := dst) hx hlo hhi ht hz h1 h2
 rw [if_neg (by omega), Nat.mul_one] at this; exact this
theorem ob_clearM [hK : KC K m0 L] {t e : TypeId} {x : Operand} {l g n cap c k : Nat} {xs : List Value} {z : Value} (hx : ev us ch pre T x = some (.slice (some ((⟨g, 0, none⟩ : Addr).add l)) k c)) (hkn : l + k = n) (h0 : 0 < k)
  (ht : P.underlying t = some (.slice e)) (hz : ∀ w, (zeroValue e).run P w = .ok z w) (hzc : z.cells = #[z]) (h1 : z.oneCell' = true) :
  ObT P K us ch pre T (fun _ => .mrow (.slice (some ⟨g, 0, none⟩) n cap) n 1 e xs) (fun _ => .mrow (.slice (some ⟨g, 0, none⟩) n cap) n 1 e (xs.take l ++ List.replicate k z ++ xs.drop (l + k)))
   ⟨none, .call { callee := .builtin .clear, args := #[x], argTypes := #[t] }, ty, pos, af, gd⟩ (.ex MP.any) := fun σ w m hk hr hkn' => by
 have hzl : (Builtin.zeroCells z.cells k).toList = List.replicate k z := by
  rw [hzc]
  simp [Builtin.zeroCells]
  apply List.ext_getElem
  ·simp
  ·intro i h1 h2
   simp [Nat.mod_one]
 obtain ⟨w', r1, htc⟩ := zGW (P := P) (ws := List.replicate k z) (i := l) (hK.agree hk) hr (by simp; omega) (by omega) (fun v hv => by rw [List.eq_of_mem_replicate hv]; exact h1)
 have hrun : (execOp (Zj σ) ⟨none, .call { callee := .builtin .clear, args := #[x], argTypes := #[t] }, ty, pos, af, gd⟩).run P w = .ok (.value (.tuple #[])) w' := by
  simp only [execOp, resolve, List.map_toArray, List.map_cons, List.map_nil, hkn'.ev hx, Sem.run_bind, Sem.run_pure, Result.andThen_ok, invoke, builtin]
  obtain ⟨q, rfl⟩ : ∃ q, k = q + 1 := ⟨k - 1, by omega⟩
  simp [Builtin.clear_, run_underlying ht, hz, hzl, r1]
 unfold Does; rw [hrun]
 rw [List.length_replicate] at htc
 exact ⟨m, htc, _, rfl, trivial⟩
end
end Go.Proofs.YtlidonjpgigocaaGreat
namespace Go.Proofs.YtlidonjpgigocaaGreat
open Go.Proofs.Tryz
set_option linter.all false
set_option maxRecDepth 4000
open Go.RowKit
def ZR : List Str → List Str → List Str
 | [], _ => []
 | x :: a, l => if x ∈ l then ZR a (l.erase x) else x :: ZR a l
def zBd : List Str → List Str → List Str
 | [], l => l
 | x :: a, l => zBd a (l.erase x)
theorem zAz : ∀ (a l : List Str), (ZR a l).length ≤ a.length
 | [], _ => Nat.le_refl _
 | x :: a, l => by
  rw [ZR]; split
  ·exact Nat.le_trans (zAz a _) (by simp)
  ·simp only [List.length_cons]; exact Nat.succ_le_succ (zAz a l)
theorem zEg {x : Str} {a l : List Str} (h : x ∈ l) : ZR (x :: a) l = ZR a (l.erase x) := by rw [ZR, if_pos h]
theorem zDz {x : Str} {a l : List Str} (h : ¬ x ∈ l) : ZR (x :: a) l = x :: ZR a l := by rw [ZR, if_neg h]
theorem restS_out {x : Str} {a l : List Str} (h : ¬ x ∈ l) : zBd (x :: a) l = zBd a l := by rw [zBd, List.erase_of_not_mem h]
theorem indexM_c {w : World} {m : Mem} {o : Option Addr} {c : Nat} {left : List Str} {x : Str} (hA : Agree w m) (h : (Res.mrow (.slice o left.length c) left.length 1 9 (left.map S)).holds w m) :
  FnV Tryz.prog 92 #[.slice o left.length c, S x] w m fun _ _ v => v = .int .i64 (zBO 0 left x) := by
 obtain ⟨m', hA', _, hr⟩ := mrow_see hA h
 have hc := zEw h
 have hc2 := hc.2
 simp only [maxLen] at hc2
 exact FnV.pure hA (indexS_c hA' (Strs.of_row hr rfl hc.1 (by omega)))
theorem deleteE_t {w : World} {m : Mem} {o : Option Addr} {cap k : Nat} {a b : Int} {l : List Str} (ea : a = (k : Int)) (eb : b = ((k + 1 : Nat) : Int)) (hA : Agree w m) (hr : (Res.mrow (.slice o l.length cap) l.length 1 9 (l.map S)).holds w m) (hk : k < l.length) :
  Calls Tryz.prog 93 #[.slice o l.length cap, .int .i64 a, .int .i64 b] w fun e w' => ∃ v m', e = .returned v ∧ Touch (.mrow (.slice o l.length cap) l.length 1 9 (l.map S)) (.mrow (.slice o (l.take k ++ l.drop (k + 1)).length cap) (l.take k ++ l.drop (k + 1)).length 1 9 ((l.take k ++ l.drop (k + 1)).map S)) w m w' m' ∧ (Kn.eq (.slice o (l.take k ++ l.drop (k + 1)).length cap)).holds m' v := by
 subst ea; subst eb
 have hlen' : (l.take k ++ l.drop (k + 1)).length = l.length - (k + 1 - k) := by simp; omega
 obtain ⟨hlen, o', cap', e1, hnc, hcm, h⟩ := hr
 injection e1 with e1 e2 e3; subst e1; subst e3
 rcases h with h | ⟨g, cur, rfl, hh, h3, h4, h5⟩
 ·omega
 ·refine Calls.mono (Tryz.slices_Delete_string g 0 cap k (k + 1) l w (holds_row hh h4 (by omega)) hnc (by simp only [maxLen] at hcm; omega) (by omega) (by omega)) fun e w' ⟨e1, q, e2⟩ => ⟨_, m, e1, ?_, by rw [hlen']; rfl⟩
  obtain ⟨p1, p2, p3, p4, p5, p6⟩ := put_heap (os := #[]) hh (e2.trans (Go.Sort.grow_empty _).symm)
  refine zCZ hA (by omega) hcm hh h5 (by omega) (by simp) p1 (by rw [zEF]; exact h3) ?_ p2 p3 p4 p5 p6
  have := zEH S (l.take k ++ l.drop (k + 1) ++ List.replicate (k + 1 - k) []) cur (by simp only [List.length_append, List.length_replicate] at hlen' ⊢; omega)
  have h2 := congrArg (fun z => z.take (l.take k ++ l.drop (k + 1)).length) this
  simp only [List.take_take] at h2
  rw [Nat.min_eq_left (by simp only [List.length_append, List.length_replicate]; omega), List.map_append, List.take_append_of_le_length (by rw [List.length_map]; exact Nat.le_refl _), show ((l.take k ++ l.drop (k + 1)).map S).take (l.take k ++ l.drop (k + 1)).length = (l.take k ++ l.drop (k + 1)).map S from List.take_of_length_le (by rw [List.length_map]; exact Nat.le_refl _)] at h2
  rw [Nat.mul_one]; exact h2
abbrev WB (g : Nat) (y : Option Addr × Nat) (l : List Str) : Res := .blk (.pointer (some ⟨g, 0, none⟩)) (.cells ([.slice y.1 l.length y.2] : List Value).toArray 41)
abbrev WR (y : Option Addr × Nat) (l : List Str) : Res := .mrow (.slice y.1 l.length y.2) l.length 1 9 (l.map S)
def WK (g : Nat) (bs : List Nat) (l : List Str) : Res := .pack bs fun w m => ∃ y : Option Addr × Nat, [WB g y l, WR y l].flatMap Res.blocks = bs ∧ (∀ r ∈ [WB g y l, WR y l], r.holds w m) ∧ True
theorem wk_blocks (g : Nat) (y : Option Addr × Nat) (l l' : List Str) : [WB g y l, WR y l].flatMap Res.blocks = [WB g y l', WR y l'].flatMap Res.blocks := by
 simp only [List.flatMap_cons, Res.blocks, mBlock_n y.1 l.length l'.length y.2]
theorem wk_open {G0 : List Nat} {n g : Nat} {bs : List Nat} {l : List Str} {w : World} {m : Mem} (hA : Agree w m) (h : Loc G0 n [WK g bs l] w m) : ∃ y, [WB g y l, WR y l].flatMap Res.blocks = bs ∧ Loc G0 n [WB g y l, WR y l] w m := by
 obtain ⟨y, hb, hh, _⟩ := pack_at (h.at_ (k := 0) rfl) hA
 have e : [WK g bs l].flatMap Res.blocks = [WB g y l, WR y l].flatMap Res.blocks := by rw [hb]; simp [WK, Res.blocks]
 exact ⟨y, hb, hh, e ▸ h.apart, e ▸ h.own⟩
theorem wk_close {G0 : List Nat} {n g : Nat} {bs : List Nat} {l : List Str} {y : Option Addr × Nat} {w : World} {m : Mem} (hb : [WB g y l, WR y l].flatMap Res.blocks = bs) (h : Loc G0 n [WB g y l, WR y l] w m) : Loc G0 n [WK g bs l] w m := by
 have e : [WK g bs l].flatMap Res.blocks = [WB g y l, WR y l].flatMap Res.blocks := by rw [hb]; simp [WK, Res.blocks]
 refine ⟨fun r hr => ?_, e ▸ h.apart, e ▸ h.own⟩
 rw [List.mem_singleton] at hr; subst hr
 exact pack_of (Ly := fun y => [WB g y l, WR y l]) (J := fun _ _ => True) (fun _ _ _ _ h => h) hb h.all trivial
set_option maxHeartbeats 1600000 in
theorem without1_g {w : World} {m : Mem} {x : Str} {g : Nat} {y0 : Option Addr × Nat} {left : List Str} {G0 : List Nat} (hA : Agree w m) (hL : Loc G0 w.heap.size [WB g y0 left, WR y0 left] w m) : FnG Tryz.prog 91 #[S x, .pointer (some ⟨g, 0, none⟩)] G0 w m (fun w' m' v => Loc G0 w.heap.size [WB g y0 (left.erase x), WR y0 (left.erase x)] w' m' ∧ v = .bool (decide (x ∈ left))) := by
 refine zY (vs := [_, _]) func91 rfl rfl rfl fun a0 hfr0 => ?_
 have hst0 := zX hA hL
 have hM : MLe m m := MLe.refl m
 have him := idxA_mem x left 0
 have hcp := zEw (hL.at_ (k := 1) rfl)
 have hcp2 := hcp.2
 simp only [maxLen] at hcp2
 refine zE fun _ hK1 => ?_
 refine rp0 hst0 hfr0 (.cons rfl (zH rfl) <| .nil) fun a1 w1 m1 hst1 hle1 hk1 => ?_
 have hfr1 := hk1.fr (.o 0 <| .o 1 <| .nil)
 replace hM := hM.trans hle1
 clear hst0 hfr0 hk1
 refine hK1 _ _ ?_
 refine zE fun _ hK2 => ?_
 refine rp0 hst1 hfr1 (.cons rfl (zFS (j := 0) rfl rfl isAgg41 rfl) <| .cons rfl (zG rfl) <| .cons rfl (zp rfl (.cons rfl <| .cons rfl <| .nil) call92 (fun w m hK => by have hle_ := KC.le hK; have hA := KC.agree hK; exact indexM_c hA (KC.at_ hK (k := 1) rfl))) <| .cons rfl (zH rfl) <| .nil) fun a2 w2 m2 hst2 hle2 hk2 => ?_
 have hfr2 := hk2.fr (.o 1 <| .n 4 <| .nil)
 replace hM := hM.trans hle2
 clear hst1 hfr1 hk2
 refine hK2 _ _ ?_
 refine zE fun _ hK3 => ?_
 refine zE fun _ hK4 => ?_
 refine rp0 hst2 hfr2 (.cons rfl (zG rfl) <| .cons rfl (zEW rfl rfl) <| .nil) fun a3 w3 m3 hst3 hle3 hk3 => ?_
 have hfr3 := hk3.fr (.o 1 <| .o 4 <| .n 9 <| .nil)
 replace hM := hM.trans hle3
 clear hst2 hfr2 hk3
 refine hK4 _ _ ?_
 refine zJ hfr3 rfl rfl (fun hb9 => ?_) (fun hb9 => ?_)
 ·try simp only [nqs] at hb9
  have hin : x ∈ left := him.1 (by omega)
  obtain ⟨k, hk1, hk2, hk3⟩ := idx_erase x left 0 hin
  rw [Nat.zero_add] at hk1
  refine ra0 (tch := [(4, 1, (fun _ => WR y0 (left.take k ++ left.drop (k + 1)))), (5, 0, (fun _ => .blk _ _))]) hst3 hfr3 (.cons rfl (zFS (j := 0) rfl rfl isAgg41 rfl) <| .cons rfl (zG rfl) <| .cons rfl (zG rfl) <| .cons rfl (zy rfl rfl ⟨by omega, by omega⟩) <| .consT rfl rfl (fun _ => rfl) rfl (ZV rfl (.cons rfl <| .cons rfl <| .cons rfl <| .nil) call93 (κ := .eq (.slice y0.1 (left.take k ++ left.drop (k + 1)).length y0.2)) (fun σ w m hK hr hkn => by have hle_ := KC.le hK; have hA := KC.agree hK; have hM := hM.trans hle_; exact deleteE_t hk1 (by rw [hk1]; rfl) hA hr hk2)) <| .consT rfl rfl (fun _ => rfl) rfl (zm rfl rfl rfl sizeOf41 rfl rfl rfl) <| .nil) fun a4 w4 m4 hst4 hle4 hk4 => ?_
  have hfr4 := hk4.fr (.o 4 <| .nil)
  replace hst4 := hst4.fin (L' := [_, _]) (.cons rfl <| .cons rfl <| .nil)
  try simp only [List.take_succ_cons, List.take_zero, List.drop_succ_cons, List.drop_zero, List.cons_append, List.nil_append, List.append_nil, List.length_cons, List.length_nil, Nat.zero_add, Nat.reduceAdd] at hst4
  clear hst3 hfr3 hk4
  rw [hk3] at hst4
  refine hK3 _ _ ?_
  refine zE fun _ hK5 => ?_
  refine rp0 hst4 hfr4 (.cons rfl (zG rfl) <| .cons rfl (zEW rfl rfl) <| .cons rfl (zH rfl) <| .nil) fun a5 w5 m5 hst5 hle5 hk5 => ?_
  have hfr5 := hk5.fr (.n 3 <| .nil)
  clear hst4 hfr4 hk5
  refine hK5 _ _ ?_
  refine zU ?_
  repeat (with_reducible first | refine zL ?_ | refine zI ?_)
  exact zV hst5 hfr5 rfl (.tmp rfl <| .nil) (⟨hst5.loc, by rw [decide_eq_true hin]; exact congrArg Value.bool (by simp; omega)⟩)
 ·try simp only [nqs] at hb9
  have hin : ¬ x ∈ left := fun h => by have := him.2 h; omega
  have her : left.erase x = left := List.erase_of_not_mem hin
  have hst3 : St G0 w m [WB g y0 (left.erase x), WR y0 (left.erase x)] w3 m3 := by rw [her]; exact hst3
  refine zR ?_
  refine hK3 _ _ ?_
  refine zE fun _ hK7 => ?_
  refine rp0 hst3 hfr3 (.cons rfl (zG rfl) <| .cons rfl (zEW rfl rfl) <| .cons rfl (zH rfl) <| .nil) fun a4 w4 m4 hst4 hle4 hk4 => ?_
  have hfr4 := hk4.fr (.n 3 <| .nil)
  clear hst3 hfr3 hk4
  refine hK7 _ _ ?_
  refine zU ?_
  repeat (with_reducible first | refine zL ?_ | refine zI ?_)
  exact zV hst4 hfr4 rfl (.tmp rfl <| .nil) (⟨hst4.loc, by rw [decide_eq_false hin]; exact congrArg Value.bool (by simp; omega)⟩)
theorem zGa {w : World} {m : Mem} {g : Nat} {bs : List Nat} {left : List Str} {x : Str} (hA : Agree w m) (h : Loc ([WK g bs left].flatMap Res.blocks) w.heap.size [WK g bs left] w m) :
  FnR Tryz.prog 91 #[S x, .pointer (some ⟨g, 0, none⟩)] [WK g bs left] w m fun rs' _ v => rs' = [WK g bs (left.erase x)] ∧ v = .bool (decide (x ∈ left)) := by
 obtain ⟨y, hb, hL⟩ := wk_open hA h
 exact FnG.mono (without1_g hA hL) fun w' m' v _ ⟨h1, h2⟩ => ⟨_, wk_close ((wk_blocks g y _ _).trans hb) h1, rfl, h2⟩
def IdxQ (l left : List Str) (i : Int) (lf : List Str) : Prop := (i = -1 ∧ lf = left ∧ ZR l left = l ∧ zBd l left = left) ∨
 ∃ (k : Nat) (x : Str), i = (k : Int) ∧ l[k]? = some x ∧ x ∈ left ∧ lf = left.erase x ∧ ZR l left = l.take k ++ ZR (l.drop (k + 1)) lf ∧ zBd l left = zBd (l.drop (k + 1)) lf
theorem nth_ex {α : Type} {l : List α} {y : Nat} (h : y < l.length) : ∃ x, l[y]? = some x ∧ l.drop y = x :: l.drop (y + 1) ∧ l.take (y + 1) = l.take y ++ [x] :=
 ⟨l[y], List.getElem?_eq_getElem h, List.drop_eq_getElem_cons h, by rw [List.take_succ, List.getElem?_eq_getElem h]; rfl⟩
set_option maxHeartbeats 1600000 in
theorem indexW_g {w : World} {m : Mem} {o : Option Addr} {c : Nat} {l left : List Str} {g : Nat} {bs G0 : List Nat} (hA : Agree w m) (hL : Loc G0 w.heap.size [WK g bs left, WR (o, c) l] w m) : FnG Tryz.prog 112 #[.slice o l.length c, .func (.func 91) #[] #[.pointer (some ⟨g, 0, none⟩)]] G0 w m (fun w' m' v => ∃ i lf, Loc G0 w.heap.size [WK g bs lf, WR (o, c) l] w' m' ∧ v = .int .i64 i ∧ IdxQ l left i lf) := by
 refine zY (vs := [_, _]) func112 rfl rfl rfl fun a0 hfr0 => ?_
 have hst0 := zX hA hL
 have hM : MLe m m := MLe.refl m
 have hcp := zEw (hL.at_ (k := 1) rfl)
 have hcp2 := hcp.2
 simp only [maxLen] at hcp2
 dsimp only at hcp hcp2
 refine zE fun _ hK1 => ?_
 refine rp0 hst0 hfr0 (.cons rfl (zH rfl) <| .nil) fun a1 w1 m1 hst1 hle1 hk1 => ?_
 have hfr1 := hk1.fr (.o 0 <| .o 1 <| .nil)
 clear hst0 hfr0 hk1
 refine hK1 _ _ ?_
 refine zE fun _ hK2 => ?_
 refine zE fun _ hK3 => ?_
 refine rp0 hst1 hfr1 (.cons rfl (zG rfl) <| .cons rfl (zt rfl underlying41) <| .cons rfl (zG rfl) <| .nil) fun a2 w2 m2 hst2 hle2 hk2 => ?_
 have hfr2 := hk2.fr (.o 0 <| .o 1 <| .n 7 <| .n 8 <| .nil)
 clear hst1 hfr1 hk2
 refine hK3 _ _ ?_
 refine zT ?_
 refine z6 (T := [(0, _), (1, _), (7, _)]) (fun (y : Nat) => ([(8, .int .i64 (y : Int))] : List (Nat × Value))) (fun _ => _) (fun (y : Nat) m => (y ≤ l.length) ∧ (ZR l left = l.take y ++ ZR (l.drop y) left) ∧ (zBd l left = zBd (l.drop y) left)) (fun y => l.length - y) (0) ⟨hst2, MLe.refl _, hfr2.sub (.c <| .c <| .c <| .c <| .nil), ⟨Nat.zero_le _, rfl, rfl⟩⟩ fun y a3 w3 m3 hh3 => ?_
 have hst3 := hh3.st; have hle3 := hh3.le; have hfr3 := hh3.fr; have hrel := hh3.rel; clear hh3
 clear hst2 hfr2
 obtain ⟨hyn, hJm, hJr⟩ := hrel
 have hlh3 := hle3
 refine zE fun _ hK5 => ?_
 refine rp0 hst3 hfr3 (.cons rfl (ZG rfl rfl) <| .nil) fun a4 w4 m4 hst4 hle4 hk4 => ?_
 have hfr4 := hk4.fr (.o 8 <| .o 0 <| .o 1 <| .o 7 <| .n 9 <| .nil)
 have hlh4 := hlh3.trans hle4
 clear hst3 hfr3 hk4
 refine hK5 _ _ ?_
 refine zE fun _ hK6 => ?_
 refine zJ hfr4 rfl rfl (fun hb9 => ?_) (fun hb9 => ?_)
 ·try simp only [nqs] at hb9
  refine zR ?_
  refine hK6 _ _ ?_
  refine zE fun _ hK7 => ?_
  refine zT ?_
  refine zE fun _ hK8 => ?_
  refine rp0 hst4 hfr4 (.cons rfl (zG rfl) <| .cons rfl (zH rfl) <| .nil) fun a5 w5 m5 hst5 hle5 hk5 => ?_
  have hfr5 := hk5.fr (.o 8 <| .o 0 <| .o 1 <| .o 7 <| .n 5 <| .nil)
  have hlh5 := hlh4.trans hle5
  clear hst4 hfr4 hk5
  refine hK8 _ _ ?_
  refine zE fun _ hK9 => ?_
  refine ZE 5 (by kernel_rfl) ?_
  obtain ⟨x, hx9, hd9, ht9⟩ := nth_ex (l := l) (y := y) (by omega)
  have hxy : (l.map S)[y]? = some (S x) := by rw [List.getElem?_map, hx9]; rfl
  obtain ⟨ga, rfl⟩ := mrow_some (hst5.loc.at_ (k := 1) rfl) (by omega)
  refine ZN (tch := []) hst5 hfr5 (by kernel_rfl) (by kernel_rfl) (by kernel_rfl) (.cons rfl (zG rfl) <| .cons rfl (zG rfl) <| .cons rfl (zG rfl) <| .cons rfl (zN rfl rfl underlying41 sizeOf9 rfl (by omega)) <| .cons rfl (ob_loadM1 (j := 1) (i := y) rfl rfl isAgg9 hxy) <| .nil) fun a6 w6 m6 hst6 hle6 hk6 => ?_
  have hfr6 := hk6.fr (.o 8 <| .o 0 <| .o 1 <| .o 7 <| .o 5 <| .n 11 <| .n 15 <| .nil)
  have hlh6 := hlh5.trans hle6
  clear hst5 hfr5 hk6
  refine Zi [] [_] [_] hst6 hfr6 rfl (.cons rfl <| .nil) call91 (zGa hst6.agree (hst6.sub (A := []) (B := [_]) (rs := [_]))) ?_
  intro vr7 w7 m7 rs7 hst7 hle7 hp7
  obtain ⟨rfl, hvq9⟩ := hp7
  simp only [List.nil_append, List.cons_append] at hst7
  have hfr7 := (hfr6.sub (T' := [(8, _), (0, _), (1, _), (7, _), (5, _), (11, _), (15, _)]) (.cons rfl <| .cons rfl <| .cons rfl <| .cons rfl <| .cons rfl <| .cons rfl <| .cons rfl <| .nil)).put (d := 16) (v := vr7) (by kernel_rfl) rfl
  have hlh7 := hlh6.trans hle7
  clear hst6 hfr6
  subst hvq9
  refine hK9 _ _ ?_
  refine zJ hfr7 rfl rfl (fun hb16 => ?_) (fun hb16 => ?_)
  ·try simp only [nqs] at hb16
   have hin : x ∈ left := hb16
   refine zE fun _ hK10 => ?_
   refine rp0 hst7 hfr7 (.cons rfl (zG rfl) <| .cons rfl (zH rfl) <| .nil) fun a8 w8 m8 hst8 hle8 hk8 => ?_
   have hfr8 := hk8.fr (.o 8 <| .n 4 <| .nil)
   have hlh8 := hlh7.trans hle8
   clear hst7 hfr7 hk8
   refine hK10 _ _ ?_
   refine zU ?_
   repeat (with_reducible first | refine zL ?_ | refine zI ?_)
   exact zV hst8 hfr8 rfl (.tmp rfl <| .nil) (⟨_, _, (hst8.take 2).loc, rfl, .inr ⟨y, x, rfl, hx9, hin, rfl, by rw [hJm, hd9, zEg hin], by rw [hJr, hd9, zBd]⟩⟩)
  ·try simp only [nqs] at hb16
   have hin : ¬ x ∈ left := hb16
   rw [List.erase_of_not_mem hin] at hst7
   refine zR ?_
   refine hK7 _ _ ?_
   refine rp0 hst7 hfr7 (.cons rfl (zy rfl rfl ⟨by omega, by omega⟩) <| .cons rfl (zG rfl) <| .nil) fun a8 w8 m8 hst8 hle8 hk8 => ?_
   have hfr8 := hk8.fr (.o 0 <| .o 1 <| .o 7 <| .n 8 <| .nil)
   have hlh8 := hlh7.trans hle8
   clear hst7 hfr7 hk8
   exact ⟨y + 1, m8, by show l.length - (y + 1) < l.length - y; omega, ⟨hst8, hlh8, hfr8.sub (.c <| .c <| .c <| .c <| .nil), ⟨by show y + 1 ≤ l.length; omega, by rw [hJm, hd9, zDz hin, ht9]; simp, by rw [hJr, hd9, restS_out hin]⟩⟩⟩
 ·try simp only [nqs] at hb9
  have hge : y = l.length := by omega
  rw [List.drop_of_length_le (by omega)] at hJm hJr
  rw [List.take_of_length_le (by omega), ZR, List.append_nil] at hJm
  refine z7 ?_
  refine hK2 _ _ ?_
  refine zE fun _ hK12 => ?_
  refine rp0 hst4 hfr4 (.cons rfl (zH rfl) <| .nil) fun a5 w5 m5 hst5 hle5 hk5 => ?_
  have hfr5 := hk5.fr (.o 8 <| .n 4 <| .nil)
  have hlh5 := hlh4.trans hle5
  clear hst4 hfr4 hk5
  refine hK12 _ _ ?_
  refine zU ?_
  repeat (with_reducible first | refine zL ?_ | refine zI ?_)
  exact zV hst5 hfr5 rfl (.tmp rfl <| .nil) (⟨_, _, (hst5.take 2).loc, rfl, .inl ⟨rfl, rfl, hJm, hJr⟩⟩)
theorem indexW_r {w : World} {m : Mem} {o : Option Addr} {c : Nat} {l left : List Str} {g : Nat} {bs : List Nat} (hA : Agree w m) (h : Loc ([WK g bs left, WR (o, c) l].flatMap Res.blocks) w.heap.size [WK g bs left, WR (o, c) l] w m) :
  FnR Tryz.prog 112 #[.slice o l.length c, .func (.func 91) #[] #[.pointer (some ⟨g, 0, none⟩)]] [WK g bs left, WR (o, c) l] w m fun rs' _ v => ∃ i lf, rs' = [WK g bs lf, WR (o, c) l] ∧ v = .int .i64 i ∧ IdxQ l left i lf :=
 FnG.mono (indexW_g hA h) fun w' m' v _ ⟨i, lf, h1, h2, h3⟩ => ⟨_, h1, i, lf, rfl, h2, h3⟩
set_option maxHeartbeats 3200000 in
theorem deleteW_g {w : World} {m : Mem} {o : Option Addr} {c : Nat} {l left : List Str} {g : Nat} {bs G0 : List Nat} (hA : Agree w m) (hL : Loc G0 w.heap.size [WK g bs left, WR (o, c) l] w m) : FnG Tryz.prog 90 #[.slice o l.length c, .func (.func 91) #[] #[.pointer (some ⟨g, 0, none⟩)]] G0 w m (fun w' m' v => Loc G0 w.heap.size [WK g bs (zBd l left), WR (o, c) (ZR l left)] w' m' ∧ v = .slice o (ZR l left).length c) := by
 refine zY (vs := [_, _]) func90 rfl rfl rfl fun a0 hfr0 => ?_
 have hst0 := zX hA hL
 have hM : MLe m m := MLe.refl m
 have hcp := zEw (hL.at_ (k := 1) rfl)
 have hcp2 := hcp.2
 simp only [maxLen] at hcp2
 dsimp only at hcp hcp2
 refine zE fun _ hK1 => ?_
 refine rp0 hst0 hfr0 (.cons rfl (zH rfl) <| .nil) fun a1 w1 m1 hst1 hle1 hk1 => ?_
 have hfr1 := hk1.fr (.o 0 <| .o 1 <| .nil)
 clear hst0 hfr0 hk1
 refine hK1 _ _ ?_
 refine zE fun _ hK2 => ?_
 refine ZE 3 (by kernel_rfl) ?_
 refine zEt 2 (by kernel_rfl) ?_
 refine ZN (tch := []) hst1 hfr1 (by kernel_rfl) (by kernel_rfl) (by kernel_rfl) (.cons rfl (zG rfl) <| .cons rfl (zG rfl) <| .nil) fun a2 w2 m2 hst2 hle2 hk2 => ?_
 have hfr2 := hk2.fr (.o 0 <| .o 1 <| .n 8 <| .n 9 <| .nil)
 clear hst1 hfr1 hk2
 refine Zi [] [] [_, _] hst2 hfr2 rfl (.cons rfl <| .cons rfl <| .nil) call112 (indexW_r hst2.agree (hst2.sub (A := []) (B := []) (rs := [_, _]))) ?_
 intro vr3 w3 m3 rs3 hst3 hle3 hp3
 obtain ⟨i9, lf9, rfl, hvq9, hQ⟩ := hp3
 simp only [List.nil_append, List.cons_append] at hst3
 have hfr3 := (hfr2.sub (T' := [(0, _), (1, _), (8, _), (9, _)]) (.cons rfl <| .cons rfl <| .cons rfl <| .cons rfl <| .nil)).put (d := 10) (v := vr3) (by kernel_rfl) rfl
 clear hst2 hfr2
 subst hvq9
 refine ZN (tch := []) hst3 hfr3 (by kernel_rfl) (by kernel_rfl) (by kernel_rfl) (.cons rfl (zH rfl) <| .nil) fun a4 w4 m4 hst4 hle4 hk4 => ?_
 have hfr4 := hk4.fr (.o 10 <| .o 0 <| .o 1 <| .o 8 <| .o 9 <| .n 5 <| .nil)
 clear hst3 hfr3 hk4
 refine hK2 _ _ ?_
 refine zE fun _ hK3 => ?_
 refine zE fun _ hK4 => ?_
 refine rp0 hst4 hfr4 (.cons rfl (zG rfl) <| .cons rfl (zq rfl rfl) <| .nil) fun a5 w5 m5 hst5 hle5 hk5 => ?_
 have hfr5 := hk5.fr (.o 0 <| .o 1 <| .o 5 <| .n 12 <| .nil)
 clear hst4 hfr4 hk5
 refine hK4 _ _ ?_
 refine zJ hfr5 rfl rfl (fun hb12 => ?_) (fun hb12 => ?_)
 ·try simp only [nqs] at hb12
  obtain ⟨_, rfl, hm9, hr9⟩ := hQ.resolve_right (fun ⟨k, x, e, _⟩ => by omega)
  have hst5 : St G0 w m [WK g bs (zBd l lf9), WR (o, c) (ZR l lf9)] w5 m5 := by rw [hm9, hr9]; exact hst5
  refine zE fun _ hK5 => ?_
  refine rp0 hst5 hfr5 (.cons rfl (zG rfl) <| .cons rfl (zH rfl) <| .nil) fun a6 w6 m6 hst6 hle6 hk6 => ?_
  have hfr6 := hk6.fr (.o 5 <| .n 4 <| .nil)
  clear hst5 hfr5 hk6
  refine hK5 _ _ ?_
  refine zU ?_
  repeat (with_reducible first | refine zL ?_ | refine zI ?_)
  exact zV hst6 hfr6 rfl (.tmp rfl <| .nil) (⟨(hst6.take 2).loc, by rw [hm9]; rfl⟩)
 ·try simp only [nqs] at hb12
  obtain ⟨k0, x0, rfl, hx0, hin0, rfl, hm0, hr0⟩ := hQ.resolve_left (fun h => hb12 h.1)
  have hkl := (List.getElem?_eq_some_iff.1 hx0).1
  obtain ⟨ga, rfl⟩ := mrow_some (hst5.loc.at_ (k := 1) rfl) (by omega)
  refine zR ?_
  refine hK3 _ _ ?_
  refine zE fun _ hK7 => ?_
  refine zE fun _ hK8 => ?_
  refine rp0 hst5 hfr5 (.cons rfl (zG rfl) <| .cons rfl (zy rfl rfl ⟨by omega, by omega⟩) <| .cons rfl (zH rfl) <| .nil) fun a6 w6 m6 hst6 hle6 hk6 => ?_
  have hfr6 := hk6.fr (.o 0 <| .o 1 <| .o 5 <| .n 6 <| .nil)
  clear hst5 hfr5 hk6
  rw [show ((k0 : Int) + 1) = ((k0 + 1 : Nat) : Int) by omega] at hfr6
  refine hK8 _ _ ?_
  refine zT ?_
  refine z6 (T := [(0, _), (1, _)]) (fun (y : (List Str) × (Nat) × (Nat) × (List Str)) => ([(5, .int .i64 (y.2.1 : Int)), (6, .int .i64 (y.2.2.1 : Int))] : List (Nat × Value))) (fun y => [WK g bs y.2.2.2, .mrow (.slice (some ⟨ga, 0, none⟩) l.length c) l.length 1 9 (y.1.map S)]) (fun (y : (List Str) × (Nat) × (Nat) × (List Str)) m => (fun (xs : List Str) (i : Nat) (y : Nat) (lf : List Str) => (xs.length = l.length) ∧ (xs.drop y = l.drop y) ∧ (ZR l left = xs.take i ++ ZR (l.drop y) lf) ∧ (zBd l left = zBd (l.drop y) lf) ∧ (i < y ∧ y ≤ l.length)) y.1 y.2.1 y.2.2.1 y.2.2.2) (fun y => l.length - y.2.2.1) ((l, k0, k0 + 1, left.erase x0)) ⟨hst6, MLe.refl _, hfr6.sub (.c <| .c <| .c <| .c <| .nil), ⟨rfl, rfl, hm0, hr0, ⟨by (try dsimp only); omega, by (try dsimp only); omega⟩⟩⟩ fun y a7 w7 m7 hh7 => ?_
  have hst7 := hh7.st; have hle7 := hh7.le; have hfr7 := hh7.fr; have hrel := hh7.rel; clear hh7
  clear hst6 hfr6
  obtain ⟨xs, i, y, lf⟩ := y
  dsimp only at hrel hfr7 hst7
  obtain ⟨hJl, hJd, hJm, hJr, hJi⟩ := hrel
  have hlh7 := hle7
  refine zE fun _ hK10 => ?_
  refine zE fun _ hK11 => ?_
  refine rp0 hst7 hfr7 (.cons rfl (zG rfl) <| .cons rfl (zG rfl) <| .cons rfl (zt rfl underlying41) <| .cons rfl (ZG rfl rfl) <| .nil) fun a8 w8 m8 hst8 hle8 hk8 => ?_
  have hfr8 := hk8.fr (.o 5 <| .o 6 <| .o 0 <| .o 1 <| .n 19 <| .nil)
  have hlh8 := hlh7.trans hle8
  clear hst7 hfr7 hk8
  refine hK11 _ _ ?_
  refine zJ hfr8 rfl rfl (fun hb19 => ?_) (fun hb19 => ?_)
  ·try simp only [nqs] at hb19
   refine zR ?_
   refine hK10 _ _ ?_
   refine zE fun _ hK12 => ?_
   refine zT ?_
   refine zE fun _ hK13 => ?_
   obtain ⟨x, hx9, hd9, ht9⟩ := nth_ex (l := l) (y := y) (by omega)
   have hxx : xs[y]? = some x := by have h9 := congrArg (fun q => q[0]?) hJd; simpa [List.getElem?_drop, hx9] using h9
   have hxy : (xs.map S)[y]? = some (S x) := by rw [List.getElem?_map, hxx]; rfl
   refine rp0 hst8 hfr8 (.cons rfl (zG rfl) <| .cons rfl (zG rfl) <| .cons rfl (zN rfl rfl underlying41 sizeOf9 rfl (by omega)) <| .cons rfl (ob_loadM1 (j := 1) (i := y) rfl rfl isAgg9 hxy) <| .cons rfl (zH rfl) <| .nil) fun a9 w9 m9 hst9 hle9 hk9 => ?_
   have hfr9 := hk9.fr (.o 5 <| .o 6 <| .o 0 <| .o 1 <| .n 7 <| .nil)
   have hlh9 := hlh8.trans hle9
   clear hst8 hfr8 hk9
   refine hK13 _ _ ?_
   refine zE fun _ hK14 => ?_
   refine ZE 3 (by kernel_rfl) ?_
   refine zEt 2 (by kernel_rfl) ?_
   refine ZN (tch := []) hst9 hfr9 (by kernel_rfl) (by kernel_rfl) (by kernel_rfl) (.cons rfl (zG rfl) <| .cons rfl (zG rfl) <| .nil) fun a10 w10 m10 hst10 hle10 hk10 => ?_
   have hfr10 := hk10.fr (.o 5 <| .o 6 <| .o 0 <| .o 1 <| .o 7 <| .n 26 <| .n 27 <| .nil)
   have hlh10 := hlh9.trans hle10
   clear hst9 hfr9 hk10
   refine Zi [] [_] [_] hst10 hfr10 rfl (.cons rfl <| .nil) call91 (zGa hst10.agree (hst10.sub (A := []) (B := [_]) (rs := [_]))) ?_
   intro vr11 w11 m11 rs11 hst11 hle11 hp11
   obtain ⟨rfl, hvq9⟩ := hp11
   simp only [List.nil_append, List.cons_append] at hst11
   have hfr11 := (hfr10.sub (T' := [(5, _), (6, _), (0, _), (1, _), (7, _), (26, _), (27, _)]) (.cons rfl <| .cons rfl <| .cons rfl <| .cons rfl <| .cons rfl <| .cons rfl <| .cons rfl <| .nil)).put (d := 28) (v := vr11) (by kernel_rfl) rfl
   have hlh11 := hlh10.trans hle11
   clear hst10 hfr10
   subst hvq9
   have hdx : xs.drop (y + 1) = l.drop (y + 1) := by have h9 := congrArg List.tail hJd; simpa [List.tail_drop] using h9
   refine ZN (tch := []) hst11 hfr11 (by kernel_rfl) (by kernel_rfl) (by kernel_rfl) (.cons rfl (zBJ rfl) <| .nil) fun a12 w12 m12 hst12 hle12 hk12 => ?_
   have hfr12 := hk12.fr (.o 28 <| .o 5 <| .o 6 <| .o 0 <| .o 1 <| .o 7 <| .o 26 <| .o 27 <| .n 29 <| .nil)
   have hlh12 := hlh11.trans hle12
   clear hst11 hfr11 hk12
   refine hK14 _ _ ?_
   refine zJ hfr12 rfl rfl (fun hb29 => ?_) (fun hb29 => ?_)
   ·try simp only [nqs] at hb29
    have hin : ¬ x ∈ lf := by simpa using hb29
    refine zE fun _ hK15 => ?_
    refine ra0 (tch := [(4, 1, (fun _ => .mrow (.slice (some ⟨ga, 0, none⟩) l.length c) l.length 1 9 ((xs.map S).take i ++ [S x] ++ (xs.map S).drop (i + 1))))]) hst12 hfr12 (.cons rfl (zG rfl) <| .cons rfl (zG rfl) <| .cons rfl (zG rfl) <| .cons rfl (zN rfl rfl underlying41 sizeOf9 rfl (by omega)) <| .consT rfl rfl (fun _ => rfl) rfl (ob_storeM1 (i := i) (xs := xs.map S) rfl rfl rfl sizeOf9 (by omega) rfl) <| .nil) fun a13 w13 m13 hst13 hle13 hk13 => ?_
    have hfr13 := hk13.fr (.o 5 <| .o 6 <| .o 0 <| .o 1 <| .nil)
    replace hst13 := hst13.fin (L' := [_, _]) (.cons rfl <| .nil)
    try simp only [List.take_succ_cons, List.take_zero, List.drop_succ_cons, List.drop_zero, List.cons_append, List.nil_append, List.append_nil, List.length_cons, List.length_nil, Nat.zero_add, Nat.reduceAdd] at hst13
    have hlh13 := hlh12.trans hle13
    clear hst12 hfr12 hk13
    rw [show (xs.map S).take i ++ [S x] ++ (xs.map S).drop (i + 1) = (xs.take i ++ [x] ++ xs.drop (i + 1)).map S by simp [List.map_append, List.map_take, List.map_drop]] at hst13
    refine hK15 _ _ ?_
    refine rp0 hst13 hfr13 (.cons rfl (zG rfl) <| .cons rfl (zy rfl rfl ⟨by omega, by omega⟩) <| .cons rfl (zH rfl) <| .nil) fun a14 w14 m14 hst14 hle14 hk14 => ?_
    have hfr14 := hk14.fr (.o 6 <| .o 0 <| .o 1 <| .n 5 <| .nil)
    have hlh14 := hlh13.trans hle14
    clear hst13 hfr13 hk14
    rw [show ((i : Int) + 1) = ((i + 1 : Nat) : Int) by omega] at hfr14
    have hil : (xs.take i ++ [x]).length = i + 1 := by simp; omega
    refine hK12 _ _ ?_
    refine rp0 hst14 hfr14 (.cons rfl (zG rfl) <| .cons rfl (zy rfl rfl ⟨by omega, by omega⟩) <| .cons rfl (zH rfl) <| .nil) fun a15 w15 m15 hst15 hle15 hk15 => ?_
    have hfr15 := hk15.fr (.o 0 <| .o 1 <| .o 5 <| .n 6 <| .nil)
    have hlh15 := hlh14.trans hle15
    clear hst14 hfr14 hk15
    rw [show ((y : Int) + 1) = ((y + 1 : Nat) : Int) by omega] at hfr15
    exact ⟨((xs.take i ++ [x] ++ xs.drop (i + 1)), (i + 1), (y + 1), (lf.erase x)), m15, by show l.length - (y + 1) < l.length - y; omega, ⟨hst15, hlh15, hfr15.sub (.c <| .c <| .c <| .c <| .nil), ⟨by show (xs.take i ++ [x] ++ xs.drop (i + 1)).length = l.length; simp only [List.length_append, List.length_take, List.length_drop, List.length_cons, List.length_nil]; omega, by dsimp only; rw [List.drop_append, hil, List.drop_of_length_le (by omega), List.nil_append, List.drop_drop, ← hdx]; congr 1; omega, by dsimp only; rw [List.take_append, hil, List.take_of_length_le (by omega), Nat.sub_self, List.take_zero, List.append_nil, hJm, hd9, zDz hin, List.erase_of_not_mem hin]; simp, by rw [hJr, hd9, zBd], ⟨by (try dsimp only); omega, by (try dsimp only); omega⟩⟩⟩⟩
   ·try simp only [nqs] at hb29
    have hin : x ∈ lf := by simpa using hb29
    refine zR ?_
    refine hK12 _ _ ?_
    refine rp0 hst12 hfr12 (.cons rfl (zG rfl) <| .cons rfl (zy rfl rfl ⟨by omega, by omega⟩) <| .cons rfl (zH rfl) <| .nil) fun a13 w13 m13 hst13 hle13 hk13 => ?_
    have hfr13 := hk13.fr (.o 5 <| .o 0 <| .o 1 <| .n 6 <| .nil)
    have hlh13 := hlh12.trans hle13
    clear hst12 hfr12 hk13
    rw [show ((y : Int) + 1) = ((y + 1 : Nat) : Int) by omega] at hfr13
    exact ⟨(xs, i, (y + 1), (lf.erase x)), m13, by show l.length - (y + 1) < l.length - y; omega, ⟨hst13, hlh13, hfr13.sub (.c <| .c <| .c <| .c <| .nil), ⟨hJl, hdx, by rw [hJm, hd9, zEg hin], by rw [hJr, hd9, zBd], ⟨by (try dsimp only); omega, by (try dsimp only); omega⟩⟩⟩⟩
  ·try simp only [nqs] at hb19
   have hge : y = l.length := by omega
   rw [List.drop_of_length_le (by omega)] at hJm hJr
   rw [ZR, List.append_nil] at hJm
   rw [zBd] at hJr
   refine z7 ?_
   refine hK7 _ _ ?_
   refine zE fun _ hK16 => ?_
   refine ra0 (tch := [(3, 1, (fun _ => .mrow (.slice (some ⟨ga, 0, none⟩) l.length c) l.length 1 9 ((xs.map S).take i ++ List.replicate (l.length - i) (S []) ++ (xs.map S).drop (i + (l.length - i)))))]) hst8 hfr8 (.cons rfl (zG rfl) <| .cons rfl (zG rfl) <| .cons rfl (ob_sliceM (l := i) (h := l.length) rfl (.some rfl rfl) .none underlying41 sizeOf9 (by omega) (by omega) (by omega)) <| .consT rfl rfl (fun _ => rfl) rfl (ob_clearM (l := i) (k := l.length - i) (z := S []) rfl (by omega) (by omega) underlying41 zeroValue9 rfl rfl) <| .nil) fun a9 w9 m9 hst9 hle9 hk9 => ?_
   have hfr9 := hk9.fr (.o 5 <| .o 6 <| .o 0 <| .nil)
   replace hst9 := hst9.fin (L' := [_, _]) (.cons rfl <| .nil)
   have hlh9 := hlh8.trans hle9
   clear hst8 hfr8 hk9
   refine hK16 _ _ ?_
   refine zE fun _ hK17 => ?_
   refine rp0 hst9 hfr9 (.cons rfl (zG rfl) <| .cons rfl (zG rfl) <| .cons rfl (zBy rfl .none (.some rfl rfl) underlying41 sizeOf9 (by omega) (by omega)) <| .cons rfl (zH rfl) <| .nil) fun a10 w10 m10 hst10 hle10 hk10 => ?_
   have hfr10 := hk10.fr (.o 5 <| .o 6 <| .n 4 <| .nil)
   have hlh10 := hlh9.trans hle10
   clear hst9 hfr9 hk10
   have hil : (xs.take i).length = i := by rw [List.length_take]; omega
   have e8 : (.slice (if c = 0 then (some (⟨ga, 0, none⟩ : Addr)) else (some (⟨ga, 0, none⟩ : Addr)).map (·.add (0 * 1))) (i - 0) (c - 0) : Value) = .slice (some ⟨ga, 0, none⟩) i c := by rw [if_neg (by omega)]; simp [addr_add0]
   rw [e8] at hfr10
   have hst10 := hst10.take 2
   have e7 : WR (some ⟨ga, 0, none⟩, c) (ZR l left) = .mrow (.slice (some ⟨ga, 0, none⟩) i c) i 1 9 (((xs.map S).take i ++ List.replicate (l.length - i) (S []) ++ (xs.map S).drop (i + (l.length - i))).take i) := by unfold WR; rw [hJm, hil, List.append_assoc, List.take_append_of_le_length (by rw [List.length_take, List.length_map]; omega), List.take_take, Nat.min_self, List.map_take]
   replace hst10 := hst10.weaken (k := 1) (r' := WR (some ⟨ga, 0, none⟩, c) (ZR l left)) rfl (mBlock_n _ _ _ _) (fun h => by rw [e7]; exact mrow_cut h (by omega))
   simp only [List.take_succ_cons, List.take_zero, List.set_cons_succ, List.set_cons_zero] at hst10
   have hst10 : St G0 w m [WK g bs (zBd l left), WR (some ⟨ga, 0, none⟩, c) (ZR l left)] w10 m10 := by rw [hJr]; exact hst10
   refine hK17 _ _ ?_
   refine zU ?_
   repeat (with_reducible first | refine zL ?_ | refine zI ?_)
   exact zV hst10 hfr10 rfl (.tmp rfl <| .nil) (⟨hst10.loc, by rw [hJm, hil]; rfl⟩)
theorem deleteW_r {w : World} {m : Mem} {o : Option Addr} {c : Nat} {l left : List Str} {g : Nat} {bs : List Nat} (hA : Agree w m) (h : Loc ([WK g bs left, WR (o, c) l].flatMap Res.blocks) w.heap.size [WK g bs left, WR (o, c) l] w m) :
  FnR Tryz.prog 90 #[.slice o l.length c, .func (.func 91) #[] #[.pointer (some ⟨g, 0, none⟩)]] [WK g bs left, WR (o, c) l] w m fun rs' _ v => rs' = [WK g bs (zBd l left), WR (o, c) (ZR l left)] ∧ v = .slice o (ZR l left).length c :=
 FnG.mono (deleteW_g hA h) fun w' m' v _ ⟨h1, h2⟩ => ⟨_, h1, rfl, h2⟩
theorem St.packW {G0 : List Nat} {W : World} {mE : Mem} {w : World} {m : Mem} {g : Nat} {y : Option Addr × Nat} {l : List Str} (h : St G0 W mE [WB g y l, WR y l] w m) : St G0 W mE [WK g ([WB g y l, WR y l].flatMap Res.blocks) l] w m :=
 ⟨h.ext, wk_close rfl h.loc⟩
set_option maxHeartbeats 1600000 in
theorem without_c {w : World} {m : Mem} {o_l : Option Addr} {c_l : Nat} {l : List Str} {o_k : Option Addr} {c_k : Nat} {k : List Str} (hA : Agree w m) (h_l : Strs m o_l l.length c_l l) (h_k : Strs m o_k k.length c_k k) (hl : l.length ≤ 1000000000) (hk : k.length ≤ 1000000000) : FnV Tryz.prog 73 #[.slice o_l l.length c_l, .slice o_k k.length c_k] w m (fun _ m v => (MP.strs (ZR l k)).p m v) := by
 have hb_l := h_l.big; have hc_l := h_l.cap
 have hb_k := h_k.big; have hc_k := h_k.cap
 refine zY (vs := [_, _]) func73 rfl rfl rfl fun a0 hfr0 => ?_
 have hst0 := zX hA (zw [] _ w m)
 have hM : MLe m m := MLe.refl m
 have hml := zAz l k
 refine zE fun _ hK1 => ?_
 replace hst0 := hst0.more (r := .free) trivial List.nodup_nil (by simp [Res.blocks])
 refine ra0 (tch := [(0, 0, (fun v => .blk v _))]) hst0 hfr0 (.consT rfl rfl (fun _ => rfl) rfl (zAR rfl rfl) <| .cons rfl (zH rfl) <| .nil) fun a1 w1 m1 hst1 hle1 hk1 => ?_
 have hfr1 := hk1.fr (.o 0 <| .nil)
 obtain ⟨gB, e2, _⟩ := hk1.ex 3 rfl
 replace hfr1 := hfr1.cons e2
 replace hst1 := hst1.fin (L' := [_]) (.cons e2 <| .nil)
 replace h_l := h_l.mono hle1
 replace h_k := h_k.mono hle1
 replace hM := hM.trans hle1
 clear hst0 hfr0 hk1
 refine hK1 _ _ ?_
 refine zE fun _ hK3 => ?_
 refine ZE 2 (by kernel_rfl) ?_
 replace hst1 := hst1.more (r := .free) trivial List.nodup_nil (by simp [Res.blocks])
 refine ZN (tch := [(1, 1, (fun v => .mrow v k.length 1 9 (k.map S)))]) hst1 hfr1 (by kernel_rfl) (by kernel_rfl) (by kernel_rfl) (.cons rfl (zFS (j := 0) rfl rfl isAgg41 rfl) <| .consT rfl rfl (fun _ => rfl) rfl (ZV rfl (.cons rfl <| .nil) call47 (κ := .ex (MP.made' k.length)) (fun σ w m hK hr hkn => by have hle_ := KC.le hK; have hA := KC.agree hK; have hM := hM.trans hle_; have h_l := h_l.mono hle_; have h_k := h_k.mono hle_; exact zGF hA h_k (by omega))) <| .nil) fun a2 w2 m2 hst2 hle2 hk2 => ?_
 have hfr2 := hk2.fr (.o 0 <| .o 3 <| .nil)
 obtain ⟨⟨oK, cK⟩, e4, hcK⟩ := hk2.ex 6 rfl
 replace hfr2 := hfr2.cons e4
 replace hst2 := hst2.fin (L' := [_, _]) (.cons e4 <| .nil)
 replace h_l := h_l.mono hle2
 replace h_k := h_k.mono hle2
 replace hM := hM.trans hle2
 clear hst1 hfr1 hk2
 refine ZN (tch := [(0, 0, (fun _ => .blk _ _))]) hst2 hfr2 (by kernel_rfl) (by kernel_rfl) (by kernel_rfl) (.consT rfl rfl (fun _ => rfl) rfl (zm rfl rfl rfl sizeOf41 rfl rfl rfl) <| .nil) fun a3 w3 m3 hst3 hle3 hk3 => ?_
 have hfr3 := hk3.fr (.o 0 <| .o 3 <| .o 6 <| .nil)
 replace hst3 := hst3.fin (L' := [_, _]) (.cons rfl <| .nil)
 try simp only [List.take_succ_cons, List.take_zero, List.drop_succ_cons, List.drop_zero, List.cons_append, List.nil_append, List.append_nil, List.length_cons, List.length_nil, Nat.zero_add, Nat.reduceAdd] at hst3
 replace h_l := h_l.mono hle3
 replace h_k := h_k.mono hle3
 replace hM := hM.trans hle3
 clear hst2 hfr2 hk3
 have hst3 : St [] w m [WK gB _ k] w3 m3 := St.packW (y := (oK, cK)) hst3
 refine hK3 _ _ ?_
 refine zE fun _ hK5 => ?_
 refine ZE 4 (by kernel_rfl) ?_
 refine zEt 3 (by kernel_rfl) ?_
 replace hst3 := hst3.more (r := .free) trivial List.nodup_nil (by simp [Res.blocks])
 refine ZN (tch := [(1, 1, (fun v => .mrow v l.length 1 9 (l.map S)))]) hst3 hfr3 (by kernel_rfl) (by kernel_rfl) (by kernel_rfl) (.cons rfl (zG rfl) <| .consT rfl rfl (fun _ => rfl) rfl (ZV rfl (.cons rfl <| .nil) call47 (κ := .ex (MP.made' l.length)) (fun σ w m hK hr hkn => by have hle_ := KC.le hK; have hA := KC.agree hK; have hM := hM.trans hle_; have h_l := h_l.mono hle_; have h_k := h_k.mono hle_; exact zGF hA h_l (by omega))) <| .cons rfl (zCB (.cons rfl <| .nil)) <| .nil) fun a4 w4 m4 hst4 hle4 hk4 => ?_
 have hfr4 := hk4.fr (.o 0 <| .o 3 <| .o 6 <| .n 9 <| .nil)
 obtain ⟨⟨oL, cL⟩, e6, hcL⟩ := hk4.ex 8 rfl
 replace hfr4 := hfr4.cons e6
 replace hst4 := hst4.fin (L' := [_, _]) (.cons e6 <| .nil)
 clear hst3 hfr3 hk4
 refine Zi [] [] [_, _] hst4 hfr4 rfl (.cons rfl <| .cons rfl <| .nil) call90 (deleteW_r hst4.agree (hst4.sub (A := []) (B := []) (rs := [_, _]))) ?_
 intro vr5 w5 m5 rs5 hst5 hle5 hp5
 obtain ⟨rfl, hvq9⟩ := hp5
 simp only [List.nil_append, List.cons_append] at hst5
 have hfr5 := (hfr4.sub (T' := [(0, _), (3, _), (6, _), (9, _), (8, _)]) (.cons rfl <| .cons rfl <| .cons rfl <| .cons rfl <| .cons rfl <| .nil)).put (d := 10) (v := vr5) (by kernel_rfl) rfl
 clear hst4 hfr4
 subst hvq9
 refine ZN (tch := []) hst5 hfr5 (by kernel_rfl) (by kernel_rfl) (by kernel_rfl) (.cons rfl (zH rfl) <| .nil) fun a6 w6 m6 hst6 hle6 hk6 => ?_
 have hfr6 := hk6.fr (.o 10 <| .o 0 <| .o 3 <| .o 6 <| .o 9 <| .o 8 <| .n 4 <| .nil)
 clear hst5 hfr5 hk6
 obtain ⟨m7, hle7, hst7, oF_q, cF_q, eF_q, hcF_q, hmF_q, hrow_q⟩ := hst6.freeze (k := 1) rfl
 simp only [List.set_cons_succ, List.set_cons_zero] at hst7
 have hfr7 := hfr6; obtain ⟨a7, rfl⟩ : ∃ a, a = a6 := ⟨_, rfl⟩; obtain ⟨w7, rfl⟩ : ∃ w, w = w6 := ⟨_, rfl⟩
 clear hst6 hfr6
 obtain ⟨rfl, rfl⟩ : oL = oF_q ∧ cL = cF_q := by injection eF_q with q1 q2 q3; exact ⟨q1, q3⟩
 refine hK5 _ _ ?_
 refine zU ?_
 repeat (with_reducible first | refine zL ?_ | refine zI ?_)
 exact zV hst7 hfr7 rfl (.tmp rfl <| .nil) (⟨(oL, cL), rfl, Strs.of_row hrow_q rfl hcF_q (by omega)⟩)
end Go.Proofs.YtlidonjpgigocaaGreat
namespace Go.Proofs.YtlidonjpgigocaaGreat
open Go.Proofs.Tryz
set_option linter.all false
set_option maxRecDepth 4000
open Go.RowKit
structure USt where
 s : Sub
 nx : Int
def zAg (n : Int) (t : Ty) : Sub := ⟨[(n, t)], []⟩
def zAe (n : Int) (r : Rw) : Sub := ⟨[], [(n, r)]⟩
structure OkS (U : USt) : Prop where
 ts : ∀ p ∈ U.s.ts, wdT p.2 ≤ 50000000 ∧ ZH p.2 ≤ 1000000 ∧ Zg p.1
 rs : ∀ p ∈ U.s.rs, p.2.labels.length ≤ 50000000 ∧ Zg p.1
 len : U.s.ts.length ≤ 1000000 ∧ U.s.rs.length ≤ 1000000
 nx : 0 ≤ U.nx ∧ U.nx ≤ 1000000000
theorem OkS.w {U : USt} (h : OkS U) : SubW 50000000 U.s := ⟨fun n t e => (h.ts _ (zBr e)).1, fun n r e => (h.rs _ (zBr e)).1⟩
theorem SubW.up {s : Sub} {A B : Nat} (h : SubW A s) (hb : A ≤ B) : SubW B s := ⟨fun n t e => Nat.le_trans (h.1 n t e) hb, fun n t e => Nat.le_trans (h.2 n t e) hb⟩
theorem oneT_w {n : Int} {t : Ty} {B : Nat} (h : wdT t ≤ B) : SubW B (zAg n t) := by
 refine ⟨fun k u e => ?_, fun k u e => (by cases e)⟩
 simp only [zAg, zP] at e; split at e
 ·injection e with e; subst e; exact h
 ·cases e
theorem oneR_w {n : Int} {r : Rw} {B : Nat} (h : r.labels.length ≤ B) : SubW B (zAe n r) := by
 refine ⟨fun k u e => (by cases e), fun k u e => ?_⟩
 simp only [zAe, zP] at e; split at e
 ·injection e with e; subst e; exact h
 ·cases e
theorem thenR_w {a b : Sub} {A B : Nat} (h : zAZ a) (ha : SubW A a) (hb : SubW B b) : SubW (A + B) (zAx a b) := (Zl h).w ha hb
def Z8 (n : Int) (ls : List Str) (rest : Int) (U : Sub) : Sub := zAx U (zAe n ⟨ls, rest⟩)
def zEB (n : Int) (t u : Ty) : Bool := decide (1000 < (ZH u : Int) + (zAI n u : Int) * ((ZH t : Int) - 1)) || zBI (zM (zAg n t) u)
def isU (n : Int) (t : Ty) (U : USt) : Int × USt :=
 if n ∈ (zi t ([], [])).1 then (5, U)
 else if (zBI t || U.s.ts.any fun p => zEB n t p.2) = true then (6, U)
 else (0, ⟨zAx U.s (zAg n t), U.nx⟩)
def zCi (a b : Rw) (p q : List Str) (U : USt) : Int × USt :=
 if p = [] ∧ q = [] then (if a.var = b.var then (0, U) else if a.var = 0 then (0, ⟨Z8 b.var [] 0 U.s, U.nx⟩) else (0, ⟨Z8 a.var [] b.var U.s, U.nx⟩))
 else if (p ≠ [] ∧ b.var = 0) ∨ (q ≠ [] ∧ a.var = 0) ∨ a.var = b.var then (5, U)
 else if q = [] then (0, ⟨Z8 b.var p a.var U.s, U.nx⟩)
 else if p = [] then (0, ⟨Z8 a.var q b.var U.s, U.nx⟩)
 else (0, ⟨Z8 b.var p U.nx (Z8 a.var q U.nx U.s), U.nx + 1⟩)
def zAc (a b : Rw) (U : USt) : Int × USt := zCi (zQ U.s a) (zQ U.s b) (ZR (zQ U.s a).labels (zQ U.s b).labels) (ZR (zQ U.s b).labels (zQ U.s a).labels) U
theorem zEc (t : Ty) : 1 ≤ ZH t := by rw [Zy]; omega
theorem cnt_one (n : Int) (t : Ty) (u : Ty) : ZH (zM (zAg n t) u) ≤ ZH u * ZH t := by
 induction u using Ty.rec_ with
 | h u ih =>
  have hp := zEc t; have hu := zEc u
  by_cases h7 : u.kind = 7
  ·rw [ZP h7]
   have e : zP u.var (zAg n t).ts = if u.var = n then some t else none := by simp [zAg, zP]
   rw [e]; split
   ·exact Nat.le_mul_of_pos_left _ hu
   ·exact Nat.le_mul_of_pos_right _ hp
  ·rw [Zb h7, Zy, Zy u]
   have key : ∀ l : List Ty, (∀ x ∈ l, x ∈ u.args) → ZS (zo (zAg n t) l) ≤ ZS l * ZH t := by
    intro l
    induction l with
    | nil => intro _; simp [zo, ZS]
    | cons x l ihl =>
     intro hl
     have h1 := ih x (hl x (.head _)); have h2 := ihl fun z hz => hl z (.tail _ hz)
     rw [zo]; simp only [ZS]; rw [Nat.add_mul]; omega
   have hk := key u.args fun x h => h
   show ZS (zo (zAg n t) u.args) + 1 ≤ (ZS u.args + 1) * ZH t
   rw [Nat.add_mul]; omega
abbrev UB (g : Nat) (q : QQ) (n : Int) : Res := .blk (.pointer (some ⟨g, 0, none⟩)) (.cells (zAJ q ++ [.int .i64 n] : List Value).toArray 74)
abbrev zDN (g : Nat) (n : Nat) (r : Int × USt) (w' : World) (m' : Mem) (v : Value) : Prop := ∃ q', Loc [g] n [UB g q' r.2.nx] w' m' ∧ SubQ m' r.2.s (zAJ q') ∧ v = .int .i64 r.1
theorem up_R {f : Nat} {args : Array Value} {g : Nat} {q : QQ} {n : Int} {w : World} {m : Mem} {r : Int × USt} (h : FnG Tryz.prog f args [g] w m (zDN g w.heap.size r)) :
  FnR Tryz.prog f args [UB g q n] w m fun rs' m' v => ∃ q', rs' = [UB g q' r.2.nx] ∧ SubQ m' r.2.s (zAJ q') ∧ v = .int .i64 r.1 :=
 FnG.mono h fun _ _ _ _ ⟨q', hL, hU, hv⟩ => ⟨_, hL, q', rfl, hU, hv⟩
def UK (g : Nat) (U : USt) : Res := .pack [g] fun w m => ∃ q : QQ, [UB g q U.nx].flatMap Res.blocks = [g] ∧ (∀ r ∈ [UB g q U.nx], r.holds w m) ∧ SubQ m U.s (zAJ q)
theorem up_T {f : Nat} {args : Array Value} {g : Nat} {q : QQ} {n : Int} {w : World} {m : Mem} {r : Int × USt} (h : FnG Tryz.prog f args [g] w m (zDN g w.heap.size r)) :
  Calls Tryz.prog f args w fun e w' => ∃ v m', e = .returned v ∧ Touch (UB g q n) (UK g r.2) w m w' m' ∧ (Kn.eq (.int .i64 r.1)).holds m' v :=
 Calls.mono h fun e w' ⟨v, m', e1, hE, q', hL, hU, hv⟩ => ⟨v, m', e1, ⟨hE, pack_of (Ly := fun q => [UB g q r.2.nx]) (J := fun q m => SubQ m r.2.s (zAJ q)) (fun q m m' hm h => h.mono hm) rfl hL.all hU, by simp [UK, Res.blocks], fun b hb => hL.own b (by simp only [UK, Res.blocks, List.mem_singleton] at hb; subst hb; simp [Res.blocks, ZB])⟩, hv⟩
theorem zCM {G0 : List Nat} {W : World} {mE : Mem} {L : List Res} {k g : Nat} {U : USt} {w : World} {m : Mem} (h : St G0 W mE L w m) (hk : L[k]? = some (UK g U)) : ∃ q, St G0 W mE (L.set k (UB g q U.nx)) w m ∧ SubQ m U.s (zAJ q) := by
 obtain ⟨q, _, hh, hU⟩ := pack_at (h.loc.at_ hk) h.agree
 exact ⟨q, h.weaken hk rfl fun _ => hh _ (.head _), hU⟩
set_option maxHeartbeats 1600000 in
theorem row_g {w : World} {m : Mem} {g : Nat} {q : QQ} {U : USt} {n : Int} {o_l : Option Addr} {c_l : Nat} {l : List Str} {rv : Int} (hA : Agree w m) (hr : (UB g q U.nx).holds w m) (hU : SubQ m U.s (zAJ q)) (h_l : Strs m o_l l.length c_l l) (hw : SubW 300000000 U.s) (hl : l.length ≤ 300000000) (hv : Zg rv) : FnG Tryz.prog 74 #[.pointer (some ⟨g, 0, none⟩), .int .i64 n, .slice o_l l.length c_l, .int .i64 rv] [g] w m (fun w' m' v => ∃ q', Loc [g] w.heap.size [UB g q' U.nx] w' m' ∧ SubQ m' (Z8 n l rv U.s) (zAJ q')) := by
 have hb_l := h_l.big; have hc_l := h_l.cap
 refine zY (vs := [_, _, _, _]) func74 rfl rfl rfl fun a0 hfr0 => ?_
 have hst0 := zX hA (zBC hr (by simp [Res.blocks, ZB]))
 have hM : MLe m m := MLe.refl m
 refine zn (tch := [(14, 0, (fun _ => .blkx _ _ _))]) (fun _ => mixed) hst0 hfr0 (by kernel_rfl) (by kernel_rfl) (by kernel_rfl) (.cons rfl (zG rfl) <| .cons rfl (zG rfl) <| .cons rfl (zg rfl) <| .cons rfl (zF (off := 0) rfl underlying74 rfl rfl sizeOf29 rfl) <| .cons rfl (Za (j := 0) rfl rfl isAgg29 sizeOf29 rfl rfl) <| .cons rfl (zZ (φ := MP.subQ zAB) rfl (.nil) call10 (fun w m hK => by have hle_ := KC.le hK; have hA := KC.agree hK; exact FnG.mono (zEf hA) fun _ _ _ _ h => h)) <| .cons rfl (zG rfl) <| .cons rfl (zG rfl) <| .cons rfl (zG rfl) <| .cons rfl (ZM (.cons rfl <| .cons rfl <| .nil) underlying43 zeroValue43 (.cons sizeOf41 <| .cons sizeOf3 <| .nil) rfl) <| .cons rfl (ZI 13 rfl rfl rfl fun y13 => zZ (φ := MP.subQ (zAe n ⟨l, rv⟩)) rfl (.cons rfl <| .cons rfl <| .cons rfl <| .nil) call24 (fun w m hK => by have hle_ := KC.le hK; have hA := KC.agree hK; have hr0_ := hK.2; have h_l := h_l.mono hle_; exact FnG.mono (setRowU_c (n := n) (r := ⟨l, rv⟩) hA hr0_ ⟨_, _, rfl, h_l, hv⟩ (by show l.length ≤ _; omega)) fun _ _ _ _ h => h)) <| .cons rfl (ZI 18 rfl rfl rfl fun y18 => zZ (φ := MP.subQ (Z8 n l rv U.s)) rfl (.cons rfl <| .cons rfl <| .nil) call85 (fun w m hK => by have hle_ := KC.le hK; have hA := KC.agree hK; have hr0_ := hK.2; have hU := hU.mono hle_; exact FnG.mono (thenU_c hA hU hr0_ hw (oneR_w (by show l.length ≤ _; omega))) fun _ _ _ _ h => h)) <| .cons rfl (zg rfl) <| .cons rfl (zF (off := 0) rfl underlying74 rfl rfl sizeOf29 rfl) <| .consT rfl rfl (fun _ => rfl) rfl (ZL 19 rfl rfl rfl fun y19 => zAH rfl rfl rfl sizeOf29 rfl rfl rfl) <| .nil) fun a1 w1 m1 hst1 hle1 hk1 => ?_
 have hfr1 := hk1.fr (.nil)
 replace hst1 := hst1.fin (L' := [_]) (.cons rfl <| .nil)
 try simp only [List.take_succ_cons, List.take_zero, List.drop_succ_cons, List.drop_zero, List.cons_append, List.nil_append, List.append_nil, List.length_cons, List.length_nil, Nat.zero_add, Nat.reduceAdd] at hst1
 obtain ⟨⟨q3, q4⟩, hS, hst1⟩ := hst1.unx (k := 0) rfl (fun _ => rfl)
 clear hst0 hfr0 hk1
 repeat (with_reducible first | refine Zx ?_ | refine Zk ?_ | refine Zc ?_)
 exact zEJ hst1 hfr1 rfl (.nil) (⟨(q3, q4), hst1.loc, hS⟩)
theorem row_r {w : World} {m : Mem} {g : Nat} {q : QQ} {U : USt} {n rv : Int} {l : List Str} {o : Option Addr} {c : Nat} (hA : Agree w m) (hr : (UB g q U.nx).holds w m) (hU : SubQ m U.s (zAJ q)) (hL : Strs m o l.length c l) (hw : SubW 300000000 U.s) (hl : l.length ≤ 300000000) (hv : Zg rv) :
  FnR Tryz.prog 74 #[.pointer (some ⟨g, 0, none⟩), .int .i64 n, .slice o l.length c, .int .i64 rv] [UB g q U.nx] w m fun rs' m' v => ∃ q', rs' = [UB g q' U.nx] ∧ SubQ m' (Z8 n l rv U.s) (zAJ q') :=
 FnG.mono (row_g hA hr hU hL hw hl hv) fun _ _ _ _ ⟨q', h1, h2⟩ => ⟨_, h1, q', rfl, h2⟩
set_option maxHeartbeats 1600000 in
theorem is1_c {w : World} {m : Mem} {k : Int} {px : Addr} {pn : Addr} {pt : Addr} {po : Addr} {g : Nat} {q q1 : QQ} {U : USt} {n : Int} {t : Ty} {yt : (Option Addr × Nat) × (Option Addr × Nat)} (hA : Agree w m) (hpx : CellsAt m px [.pointer (some ⟨g, 0, none⟩)]) (hpn : CellsAt m pn [.int .i64 n]) (hpt : CellsAt m pt (tyV t yt)) (hpo : CellsAt m po (zAJ q1)) (hg : CellsAt m ⟨g, 0, none⟩ (zAJ q ++ [.int .i64 U.nx] : List Value)) (hT : TyR m t (tyV t yt)) (hO : SubQ m (zAg n t) (zAJ q1)) (hU : SubQ m U.s (zAJ q)) (hok : OkS U) (hw : wdT t ≤ 200000000) (hc : ZH t ≤ 100000000) : FnV Tryz.prog 82 #[.int .i64 k, .pointer (some px), .pointer (some pn), .pointer (some pt), .pointer (some po)] w m (fun _ _ v => v = .bool (zEB n t ((zP k U.s.ts).getD zAu))) := by
 refine zY (vs := [_, _, _, _, _]) func82 rfl rfl rfl fun a0 hfr0 => ?_
 have hst0 := zX hA (zw [] _ w m)
 have hM : MLe m m := MLe.refl m
 have hww := hok.w
 have hwv := hww.look k
 have hcx : ZH ((zP k U.s.ts).getD zAu) ≤ 1000000 := by cases hq : zP k U.s.ts with | none => (show ZH zAu ≤ _; simp [zAu, ZH, ZS]) | some z => exact (hok.ts _ (zBr hq)).2.1
 have hc1 := zEc t
 obtain ⟨u, hu⟩ : ∃ u, u = ((zP k U.s.ts).getD zAu) := ⟨_, rfl⟩
 obtain ⟨b9, hb9⟩ : ∃ b, b = (zP k U.s.ts).isSome := ⟨_, rfl⟩
 rw [← hu] at hwv hcx ⊢
 have huc := zBq n u
 have hmu : (zAI n u : Int) * ((ZH t : Int) - 1) ≤ 1000000 * 100000000 := Int.mul_le_mul (by omega) (by omega) (by omega) (by omega)
 have hmu0 : 0 ≤ (zAI n u : Int) * ((ZH t : Int) - 1) := Int.mul_nonneg (by omega) (by omega)
 have hco := cnt_one n t u
 have hco2 : ZH u * ZH t ≤ 1000000 * 100000000 := Nat.mul_le_mul hcx hc
 refine zE fun _ hK1 => ?_
 refine rp0 hst0 hfr0 (.cons rfl (zH rfl) <| .nil) fun a1 w1 m1 hst1 hle1 hk1 => ?_
 have hfr1 := hk1.fr (.o 0 <| .o 1 <| .o 2 <| .o 3 <| .o 4 <| .nil)
 replace hpx := hpx.mono hle1
 replace hpn := hpn.mono hle1
 replace hpt := hpt.mono hle1
 replace hpo := hpo.mono hle1
 replace hg := hg.mono hle1
 replace hT := hT.mono hle1
 replace hO := hO.mono hle1
 replace hU := hU.mono hle1
 clear hst0 hfr0 hk1
 refine hK1 _ _ ?_
 refine zE fun _ hK2 => ?_
 replace hst1 := hst1.more (r := .free) trivial List.nodup_nil (by simp [Res.blocks])
 refine ra0 (tch := [(9, 0, (fun v => .blk v _)), (10, 0, (fun v => .blkx v _ _))]) hst1 hfr1 (.cons rfl (zr rfl hpx isAgg86 rfl) <| .cons rfl (zg rfl) <| .cons rfl (zF (off := 0) rfl underlying74 rfl rfl sizeOf29 rfl) <| .cons rfl (Zs rfl hg isAgg29 sizeOf29 rfl rfl) <| .cons rfl (zG rfl) <| .cons rfl (zZ (φ := MP.tyb u b9) rfl (.cons rfl <| .cons rfl <| .nil) call83 (fun w m hK => by have hle_ := KC.le hK; have hA := KC.agree hK; have hU := hU.mono hle_; exact FnG.mono (typeU_c (n := k) hA hU hu hb9 (hww.up (by omega))) fun _ _ _ _ h => h)) <| .cons rfl (ZK 15 rfl rfl rfl fun y15 => zG rfl) <| .cons rfl (ZK 9 rfl rfl rfl fun y9 => zk rfl rfl) <| .cons rfl (ZK 9 rfl rfl rfl fun y9 => zk rfl rfl) <| .consT rfl rfl (fun _ => rfl) rfl (zj zeroValue45 rfl) <| .consT rfl rfl (fun _ => rfl) rfl (ze 7 rfl rfl rfl fun y7 => ZL 16 rfl rfl rfl fun y16 => ZD rfl rfl rfl rfl rfl sizeOf45 rfl rfl rfl) <| .consA 17 rfl rfl <| .nil) fun a2 w2 m2 hst2 hle2 hk2 => ?_
 have hfr2 := hk2.fr (.o 2 <| .o 3 <| .o 4 <| .nil)
 obtain ⟨y3, e3, hy3⟩ := hk2.ex 17 rfl
 obtain ⟨g4, e4, _⟩ := hk2.ex 7 rfl
 replace hfr2 := hfr2.cons e4
 replace hst2 := hst2.fin (L' := [_]) (.cons e4 <| .cons e4 <| .nil)
 try simp only [List.take_succ_cons, List.take_zero, List.drop_succ_cons, List.drop_zero, List.cons_append, List.nil_append, List.append_nil, List.length_cons, List.length_nil, Nat.zero_add, Nat.reduceAdd] at hst2
 obtain ⟨⟨⟨oF, cF⟩, oG, cG⟩, hF, hst2⟩ := hst2.unx (k := 0) rfl (fun _ => rfl)
 replace hpn := hpn.mono hle2
 replace hpt := hpt.mono hle2
 replace hpo := hpo.mono hle2
 replace hT := hT.mono hle2
 replace hO := hO.mono hle2
 clear hst1 hfr1 hk2
 refine hK2 _ _ ?_
 refine zE fun _ hK6 => ?_
 refine Zf (fun _ => mixed) hst2 hfr2 (by kernel_rfl) (by kernel_rfl) (.cons rfl (zh (j := 0) rfl rfl isAgg45 sizeOf45 rfl) <| .cons rfl (zp rfl (.cons rfl <| .nil) call34 (fun w m hK => by have hle_ := KC.le hK; have hA := KC.agree hK; have hF := hF.mono hle_; exact zGc u hA hF (by omega))) <| .cons rfl (zh (j := 0) rfl rfl isAgg45 sizeOf45 rfl) <| .cons rfl (zr rfl hpn isAgg3 rfl) <| .cons rfl (zp rfl (.cons rfl <| .cons rfl <| .nil) call84 (fun w m hK => by have hle_ := KC.le hK; have hA := KC.agree hK; have hF := hF.mono hle_; exact uses_c u (n := n) hA hF (by omega))) <| .cons rfl (zS rfl hpt isAgg45 sizeOf45 rfl rfl) <| .cons rfl (zp rfl (.cons rfl <| .nil) call34 (fun w m hK => by have hle_ := KC.le hK; have hA := KC.agree hK; have hT := hT.mono hle_; exact zGc t hA hT (by omega))) <| .cons rfl (zGQ rfl rfl ⟨by omega, by omega⟩) <| .cons rfl (ob_mul rfl rfl ⟨by omega, by omega⟩) <| .cons rfl (zy rfl rfl ⟨by omega, by omega⟩) <| .cons rfl (zAU rfl rfl) <| .cons rfl (zG rfl) <| .cons rfl (zS rfl hpo isAgg29 sizeOf29 rfl rfl) <| .cons rfl (zh (j := 0) rfl rfl isAgg45 sizeOf45 rfl) <| .cons rfl (zZ (φ := MP.ty (zM (zAg n t) u)) rfl (.cons rfl <| .cons rfl <| .nil) call17 (fun w m hK => by have hle_ := KC.le hK; have hA := KC.agree hK; have hO := hO.mono hle_; have hF := hF.mono hle_; exact FnG.mono (zDi u hA hO hF (oneT_w (by omega)) (by omega)) fun _ _ _ _ h => h)) <| .cons rfl (ZI 32 rfl rfl rfl fun y32 => zp rfl (.cons rfl <| .nil) call12 (fun w m hK => by have hle_ := KC.le hK; have hA := KC.agree hK; have hr0_ := hK.2; exact large_c (t := zM (zAg n t) u) hA hr0_ (by omega))) <| .cons rfl (zAq rfl rfl rfl) <| .cons rfl (zH rfl) <| .nil) fun a3 w3 m3 hst3 hle3 hk3 => ?_
 have hfr3 := hk3.fr (.n 6 <| .nil)
 clear hst2 hfr2 hk3
 refine hK6 _ _ ?_
 refine zU ?_
 repeat (with_reducible first | refine zL ?_ | refine zI ?_)
 exact zV hst3 hfr3 rfl (.tmp rfl <| .nil) (by refine congrArg Value.bool ?_; unfold zEB; rw [Bool.eq_iff_iff]; (try simp))
theorem big_c {w : World} {m : Mem} {g : Nat} {q q1 : QQ} {U : USt} {n : Int} {t : Ty} {ks : List Int} {o : Option Addr} {c : Nat} {px pn pt po : Addr} {yt : (Option Addr × Nat) × (Option Addr × Nat)} (hA : Agree w m) (hr : (UB g q U.nx).holds w m) (hI : Ints m o ks.length c ks) (hp : ks.Perm (U.s.ts.map Prod.fst))
  (hx : CellsAt m px [.pointer (some ⟨g, 0, none⟩)]) (hn : CellsAt m pn [.int .i64 n]) (ht : CellsAt m pt (tyV t yt)) (hT : TyR m t (tyV t yt)) (ho : CellsAt m po (zAJ q1)) (hO : SubQ m (zAg n t) (zAJ q1)) (hU : SubQ m U.s (zAJ q)) (hok : OkS U) (hw : wdT t ≤ 200000000) (hc : ZH t ≤ 100000000) :
  FnV Tryz.prog 81 #[.slice o ks.length c, .func (.func 82) #[] #[.pointer (some px), .pointer (some pn), .pointer (some pt), .pointer (some po)]] w m fun _ _ v => v = .bool (U.s.ts.any fun p => zEB n t p.2) := by
 obtain ⟨m2, hA2, hle, hg⟩ := blk_see hA hr
 have e : (U.s.ts.any fun p => zEB n t p.2) = ks.any fun v => zEB n t ((zP v U.s.ts).getD zAu) := by
  have h1 : ks.any (fun v => zEB n t ((zP v U.s.ts).getD zAu)) = (U.s.ts.map Prod.fst).any fun v => zEB n t ((zP v U.s.ts).getD zAu) := by
   rw [Bool.eq_iff_iff, List.any_eq_true, List.any_eq_true]
   exact ⟨fun ⟨v, a, b⟩ => ⟨v, hp.mem_iff.1 a, b⟩, fun ⟨v, a, b⟩ => ⟨v, hp.mem_iff.2 a, b⟩⟩
  rw [h1, List.any_map, Bool.eq_iff_iff, List.any_eq_true, List.any_eq_true]
  have h2 : ∀ p ∈ U.s.ts, zP p.1 U.s.ts = some p.2 := fun p hp => Z7 hU.apart.1 hp
  exact ⟨fun ⟨p, a, b⟩ => ⟨p, a, by simp only [Function.comp]; rw [h2 p a]; exact b⟩, fun ⟨p, a, b⟩ => ⟨p, a, by simp only [Function.comp] at b; rw [h2 p a] at b; exact b⟩⟩
 rw [e]
 exact FnV.pure hA (containsfI_c (l := ks) (cid := 82) (cap := [.pointer (some px), .pointer (some pn), .pointer (some pt), .pointer (some po)]) (φ := fun v => zEB n t ((zP v U.s.ts).getD zAu)) hA2 (hI.mono hle) call82
  fun w' m' v hm hA' hv => is1_c hA' (hx.mono (hle.trans hm)) (hn.mono (hle.trans hm)) (ht.mono (hle.trans hm)) (ho.mono (hle.trans hm)) (hg.mono hm) (hT.mono (hle.trans hm)) (hO.mono (hle.trans hm)) (hU.mono (hle.trans hm)) hok hw hc)
set_option maxHeartbeats 3200000 in
theorem is_g {w : World} {m : Mem} {g : Nat} {q : QQ} {U : USt} {n : Int} {t : Ty} {vs_t : List Value} (hA : Agree w m) (hr : (UB g q U.nx).holds w m) (hU : SubQ m U.s (zAJ q)) (h_t : TyR m t vs_t) (hok : OkS U) (hw : wdT t ≤ 200000000) (hc : ZH t ≤ 100000000) : FnG Tryz.prog 55 #[.pointer (some ⟨g, 0, none⟩), .int .i64 n, .agg vs_t.toArray] [g] w m (zDN g w.heap.size (isU n t U)) := by
 obtain ⟨o_t, c_t, oL_t, cL_t, rfl, hk_t, hs_t, hi_t, hj_t, hr_t⟩ := h_t.open_
 have hbg_t := hk_t.big; have hcp_t := hk_t.cap; have hbs_t := hs_t.big; have hcs_t := hs_t.cap
 have hrw_t : RwR _ ⟨t.labels, t.rv⟩ _ := ⟨_, _, rfl, hs_t, hr_t⟩
 refine zY (vs := [_, _, _]) func55 rfl rfl rfl fun a0 hfr0 => ?_
 have hst0 := zX hA (zBC hr (by simp [Res.blocks, ZB]))
 have hM : MLe m m := MLe.refl m
 have hww := hok.w
 have hwr := Zu t ([], [])
 simp only [zBc, List.length_nil] at hwr
 refine zE fun _ hK1 => ?_
 refine rp0 hst0 hfr0 (.cons rfl (ZA rfl rfl) <| .cons rfl (ZA rfl rfl) <| .cons rfl (ZA rfl rfl) <| .cons rfl (zH rfl) <| .nil) fun a1 w1 m1 hst1 hle1 hk1 => ?_
 have hfr1 := hk1.fr (.nil)
 obtain ⟨g2, e2, hc3⟩ := hk1.ex 3 rfl
 replace hfr1 := hfr1.cons e2
 obtain ⟨g3, e3, hc4⟩ := hk1.ex 4 rfl
 replace hfr1 := hfr1.cons e3
 obtain ⟨g4, e4, hc5⟩ := hk1.ex 5 rfl
 replace hfr1 := hfr1.cons e4
 replace h_t := h_t.mono hle1
 replace hU := hU.mono hle1
 clear hst0 hfr0 hk1
 refine hK1 _ _ ?_
 refine zE fun _ hK5 => ?_
 refine zE fun _ hK6 => ?_
 refine ra0 (tch := []) hst1 hfr1 (.cons rfl (zS rfl hc5 isAgg45 sizeOf45 rfl rfl) <| .cons rfl (zZ (φ := MP.two (zi t ([], [])).1 (zi t ([], [])).2) rfl (.cons rfl <| .nil) call78 (fun w m hK => by have hle_ := KC.le hK; have hA := KC.agree hK; have h_t := h_t.mono hle_; exact FnG.mono (vars_c (t := t) hA h_t (by omega)) fun _ _ _ _ h => h)) <| .cons rfl (ZK 15 rfl rfl rfl fun y15 => zG rfl) <| .cons rfl (ZK 13 rfl rfl rfl fun y13 => zk rfl rfl) <| .cons rfl (ZK 13 rfl rfl rfl fun y13 => zk rfl rfl) <| .consA 16 rfl rfl <| .consA 17 rfl rfl <| .nil) fun a2 w2 m2 hst2 hle2 hk2 => ?_
 have hfr2 := hk2.fr (.o 3 <| .o 4 <| .o 5 <| .nil)
 obtain ⟨⟨⟨o1, c1⟩, q1⟩, e7, hI1, _⟩ := hk2.ex 16 rfl
 obtain ⟨y8, e8, hy8⟩ := hk2.ex 17 rfl
 replace hfr2 := hfr2.cons (hk2.same 7 rfl e7)
 replace h_t := h_t.mono hle2
 replace hU := hU.mono hle2
 replace hc3 := hc3.mono hle2
 replace hc4 := hc4.mono hle2
 replace hc5 := hc5.mono hle2
 clear hst1 hfr1 hk2
 refine hK6 _ _ ?_
 refine zE fun _ hK9 => ?_
 refine rp0 hst2 hfr2 (.cons rfl (zG rfl) <| .cons rfl (zr rfl hc4 isAgg3 rfl) <| .cons rfl (zp rfl (.cons rfl <| .cons rfl <| .nil) call79 (fun w m hK => by have hle_ := KC.le hK; have hA := KC.agree hK; have hI1 := hI1.mono hle_; exact zFd (s := n) hA hI1)) <| .nil) fun a3 w3 m3 hst3 hle3 hk3 => ?_
 have hfr3 := hk3.fr (.o 3 <| .o 4 <| .o 5 <| .n 20 <| .nil)
 replace h_t := h_t.mono hle3
 replace hU := hU.mono hle3
 replace hc3 := hc3.mono hle3
 replace hc4 := hc4.mono hle3
 replace hc5 := hc5.mono hle3
 clear hst2 hfr2 hk3
 refine hK9 _ _ ?_
 refine zJ hfr3 rfl rfl (fun hb20 => ?_) (fun hb20 => ?_)
 ·try simp only [nqs] at hb20
  have hmr : isU n t U = (5, U) := by unfold isU; rw [if_pos hb20]
  refine zE fun _ hK10 => ?_
  refine rp0 hst3 hfr3 (.cons rfl (zH rfl) <| .nil) fun a4 w4 m4 hst4 hle4 hk4 => ?_
  have hfr4 := hk4.fr (.n 6 <| .nil)
  clear hst3 hfr3 hk4
  refine hK10 _ _ ?_
  refine zU ?_
  repeat (with_reducible first | refine zL ?_ | refine zI ?_)
  replace hU := hU.mono hle4
  exact zV hst4 hfr4 rfl (.tmp rfl <| .nil) (⟨q, by rw [hmr]; exact (hst4.take 1).loc, by rw [hmr]; exact hU, by rw [hmr]; rfl⟩)
 ·try simp only [nqs] at hb20
  have hn9 : ¬ n ∈ (zi t ([], [])).1 := hb20
  refine zR ?_
  refine hK5 _ _ ?_
  refine zE fun _ hK12 => ?_
  replace hst3 := hst3.more (r := .free) trivial List.nodup_nil (by simp [Res.blocks])
  refine zn (tch := [(4, 1, (fun v => .blk v _)), (5, 1, (fun v => .blkx v _ _))]) (fun _ => mixed) hst3 hfr3 (by kernel_rfl) (by kernel_rfl) (by kernel_rfl) (.cons rfl (zZ (φ := MP.subQ zAB) rfl (.nil) call10 (fun w m hK => by have hle_ := KC.le hK; have hA := KC.agree hK; exact FnG.mono (zEf hA) fun _ _ _ _ h => h)) <| .cons rfl (zr rfl hc4 isAgg3 rfl) <| .cons rfl (zS rfl hc5 isAgg45 sizeOf45 rfl rfl) <| .cons rfl (ZI 21 rfl rfl rfl fun y21 => zZ (φ := MP.subQ (zAg n t)) rfl (.cons rfl <| .cons rfl <| .cons rfl <| .nil) call26 (fun w m hK => by have hle_ := KC.le hK; have hA := KC.agree hK; have hr0_ := hK.2; have h_t := h_t.mono hle_; exact FnG.mono (setTypeU_c (n := n) (t := t) hA hr0_ h_t (by omega)) fun _ _ _ _ h => h)) <| .consT rfl rfl (fun _ => rfl) rfl (zj zeroValue29 rfl) <| .consT rfl rfl (fun _ => rfl) rfl (ze 9 rfl rfl rfl fun y9 => ZL 24 rfl rfl rfl fun y24 => ZD rfl rfl rfl rfl rfl sizeOf29 rfl rfl rfl) <| .nil) fun a4 w4 m4 hst4 hle4 hk4 => ?_
  have hfr4 := hk4.fr (.o 3 <| .o 4 <| .o 5 <| .nil)
  obtain ⟨gO, e13, _⟩ := hk4.ex 9 rfl
  replace hfr4 := hfr4.cons e13
  replace hst4 := hst4.fin (L' := [_, _]) (.cons e13 <| .cons e13 <| .nil)
  try simp only [List.take_succ_cons, List.take_zero, List.drop_succ_cons, List.drop_zero, List.cons_append, List.nil_append, List.append_nil, List.length_cons, List.length_nil, Nat.zero_add, Nat.reduceAdd] at hst4
  obtain ⟨⟨q5, q6⟩, hO, hst4⟩ := hst4.unx (k := 1) rfl (fun _ => rfl)
  clear hst3 hfr3 hk4
  obtain ⟨m5, hle5, hst5, hB_O⟩ := hst4.freezeB (k := 1) rfl
  simp only [List.set_cons_succ, List.set_cons_zero] at hst5
  have hfr5 := hfr4; obtain ⟨a5, rfl⟩ : ∃ a, a = a4 := ⟨_, rfl⟩; obtain ⟨w5, rfl⟩ : ∃ w, w = w4 := ⟨_, rfl⟩
  clear hst4 hfr4
  refine hK12 _ _ ?_
  refine zE fun _ hK15 => ?_
  have zq1 := hle4.trans hle5
  replace hU := hU.mono zq1
  replace hc3 := hc3.mono zq1
  refine ra0 (tch := []) hst5 hfr5 (.cons rfl (zr rfl hc3 isAgg86 rfl) <| .cons rfl (zg rfl) <| .cons rfl (zF (off := 0) rfl underlying74 rfl rfl sizeOf29 rfl) <| .cons rfl (Za (j := 0) rfl rfl isAgg29 sizeOf29 rfl rfl) <| .cons rfl (zZ (φ := MP.keys2 (U.s.ts.map Prod.fst) (U.s.rs.map Prod.fst)) rfl (.cons rfl <| .nil) call80 (fun w m hK => by have hle_ := KC.le hK; have hA := KC.agree hK; have hU := hU.mono hle_; exact FnG.mono (varsU_c hA hU (fun p hp => (hok.ts p hp).2.2) (fun p hp => (hok.rs p hp).2) (by have := hok.len; omega)) fun _ _ _ _ h => h)) <| .cons rfl (ZK 30 rfl rfl rfl fun y30 => zG rfl) <| .cons rfl (ZK 25 rfl rfl rfl fun y25 => zk rfl rfl) <| .cons rfl (ZK 25 rfl rfl rfl fun y25 => zk rfl rfl) <| .consA 31 rfl rfl <| .consA 32 rfl rfl <| .nil) fun a6 w6 m6 hst6 hle6 hk6 => ?_
  have hfr6 := hk6.fr (.o 3 <| .o 4 <| .o 5 <| .o 9 <| .nil)
  obtain ⟨⟨⟨k1, o3, c3⟩, q3⟩, e16, ⟨hI3, hp3⟩, _⟩ := hk6.ex 31 rfl
  obtain ⟨y17, e17, hy17⟩ := hk6.ex 32 rfl
  replace hfr6 := hfr6.cons (hk6.same 10 rfl e16)
  clear hst5 hfr5 hk6
  refine hK15 _ _ ?_
  refine zE fun _ hK18 => ?_
  have zq2 := zq1.trans hle6
  replace h_t := h_t.mono zq2
  replace hc4 := hc4.mono zq2
  replace hc5 := hc5.mono zq2
  have zq3 := hle5.trans hle6
  replace hO := hO.mono zq3
  replace hU := hU.mono hle6
  replace hc3 := hc3.mono hle6
  replace hB_O := hB_O.mono hle6
  refine rp0 hst6 hfr6 (.cons rfl (zS rfl hc5 isAgg45 sizeOf45 rfl rfl) <| .cons rfl (zp rfl (.cons rfl <| .nil) call12 (fun w m hK => by have hle_ := KC.le hK; have hA := KC.agree hK; have h_t := h_t.mono hle_; exact large_c (t := t) hA h_t (by omega))) <| .cons rfl (zG rfl) <| .cons rfl (zG rfl) <| .cons rfl (zCB (.cons rfl <| .cons rfl <| .cons rfl <| .cons rfl <| .nil)) <| .cons rfl (zp rfl (.cons rfl <| .cons rfl <| .nil) call81 (fun w m hK => by have hle_ := KC.le hK; have hA := KC.agree hK; have h_t := h_t.mono hle_; have hU := hU.mono hle_; have hc3 := hc3.mono hle_; have hc4 := hc4.mono hle_; have hc5 := hc5.mono hle_; have hO := hO.mono hle_; have hB_O := hB_O.mono hle_; have hI3 := hI3.mono hle_; exact (show FnV Tryz.prog 81 #[_, _] _ _ (fun _ _ v => v = .bool (U.s.ts.any fun p => zEB n t p.2)) from big_c (yt := ((o_t, c_t), (oL_t, cL_t))) hA (KC.at_ hK (k := 0) rfl) hI3 hp3 hc3 hc4 hc5 h_t hB_O hO hU hok hw hc))) <| .cons rfl (zAq rfl rfl rfl) <| .cons rfl (zH rfl) <| .nil) fun a7 w7 m7 hst7 hle7 hk7 => ?_
  have hfr7 := hk7.fr (.o 3 <| .o 9 <| .n 12 <| .nil)
  clear hst6 hfr6 hk7
  refine hK18 _ _ ?_
  refine zE fun _ hK19 => ?_
  refine zE fun _ hK20 => ?_
  refine rp0 hst7 hfr7 (.cons rfl (zG rfl) <| .nil) fun a8 w8 m8 hst8 hle8 hk8 => ?_
  have hfr8 := hk8.fr (.o 3 <| .o 9 <| .n 40 <| .nil)
  clear hst7 hfr7 hk8
  refine hK20 _ _ ?_
  refine zJ hfr8 rfl rfl (fun hb40 => ?_) (fun hb40 => ?_)
  ·try simp only [nqs] at hb40
   have hmr : isU n t U = (6, U) := by unfold isU; rw [if_neg hn9, if_pos (by simpa using hb40)]
   refine zE fun _ hK21 => ?_
   refine rp0 hst8 hfr8 (.cons rfl (zH rfl) <| .nil) fun a9 w9 m9 hst9 hle9 hk9 => ?_
   have hfr9 := hk9.fr (.n 6 <| .nil)
   clear hst8 hfr8 hk9
   refine hK21 _ _ ?_
   refine zU ?_
   repeat (with_reducible first | refine zL ?_ | refine zI ?_)
   have zq4 := hle8.trans hle9
   have zq5 := hle7.trans zq4
   replace hU := hU.mono zq5
   exact zV hst9 hfr9 rfl (.tmp rfl <| .nil) (⟨q, by rw [hmr]; exact (hst9.take 1).loc, by rw [hmr]; exact hU, by rw [hmr]; rfl⟩)
  ·try simp only [nqs] at hb40
   have hmr : isU n t U = (0, ⟨zAx U.s (zAg n t), U.nx⟩) := by unfold isU; rw [if_neg hn9, if_neg (by simpa using hb40)]
   refine zR ?_
   refine hK19 _ _ ?_
   refine zE fun _ hK23 => ?_
   have zq6 := hle7.trans hle8
   replace hU := hU.mono zq6
   replace hc3 := hc3.mono zq6
   replace hO := hO.mono zq6
   replace hB_O := hB_O.mono zq6
   refine zn (tch := [(9, 0, (fun _ => .blkx _ _ _))]) (fun _ => mixed) hst8 hfr8 (by kernel_rfl) (by kernel_rfl) (by kernel_rfl) (.cons rfl (zr rfl hc3 isAgg86 rfl) <| .cons rfl (zr rfl hc3 isAgg86 rfl) <| .cons rfl (zg rfl) <| .cons rfl (zF (off := 0) rfl underlying74 rfl rfl sizeOf29 rfl) <| .cons rfl (Za (j := 0) rfl rfl isAgg29 sizeOf29 rfl rfl) <| .cons rfl (zS rfl hB_O isAgg29 sizeOf29 rfl rfl) <| .cons rfl (zZ (φ := MP.subQ (zAx U.s (zAg n t))) rfl (.cons rfl <| .cons rfl <| .nil) call85 (fun w m hK => by have hle_ := KC.le hK; have hA := KC.agree hK; have hU := hU.mono hle_; have hO := hO.mono hle_; exact FnG.mono (thenU_c hA hU hO (hww.up (by omega)) (oneT_w (by omega))) fun _ _ _ _ h => h)) <| .cons rfl (zg rfl) <| .cons rfl (zF (off := 0) rfl underlying74 rfl rfl sizeOf29 rfl) <| .consT rfl rfl (fun _ => rfl) rfl (ZL 47 rfl rfl rfl fun y47 => zAH rfl rfl rfl sizeOf29 rfl rfl rfl) <| .nil) fun a9 w9 m9 hst9 hle9 hk9 => ?_
   have hfr9 := hk9.fr (.nil)
   replace hst9 := hst9.fin (L' := [_, _]) (.cons rfl <| .nil)
   try simp only [List.take_succ_cons, List.take_zero, List.drop_succ_cons, List.drop_zero, List.cons_append, List.nil_append, List.append_nil, List.length_cons, List.length_nil, Nat.zero_add, Nat.reduceAdd] at hst9
   obtain ⟨⟨q7, q8⟩, hS, hst9⟩ := hst9.unx (k := 0) rfl (fun _ => rfl)
   clear hst8 hfr8 hk9
   refine hK23 _ _ ?_
   refine zE fun _ hK25 => ?_
   refine rp0 hst9 hfr9 (.cons rfl (zH rfl) <| .nil) fun a10 w10 m10 hst10 hle10 hk10 => ?_
   have hfr10 := hk10.fr (.n 6 <| .nil)
   clear hst9 hfr9 hk10
   refine hK25 _ _ ?_
   refine zU ?_
   repeat (with_reducible first | refine zL ?_ | refine zI ?_)
   replace hS := hS.mono hle10
   exact zV hst10 hfr10 rfl (.tmp rfl <| .nil) (⟨(q7, q8), by rw [hmr]; exact (hst10.take 1).loc, by rw [hmr]; exact hS, by rw [hmr]; rfl⟩)
end Go.Proofs.YtlidonjpgigocaaGreat
