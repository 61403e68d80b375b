/-
  Apart, Alike, and what must be in any case. Conditions: those of each theorem.
-/
import Derived.Test.YteamjgbhcjojaaaDoorRen2
namespace Go.Proofs.YteamjgbhcjojaaaDoor
set_option linter.all false
set_option maxRecDepth 4000
open Go.RowKit
theorem tmV_inj {t : Tm} {y z : TmY} (h : tmV t y = tmV t z) : y = z := by
  obtain ⟨a1, a2, a3, a4, a5, a6, b0, b1, b2, b3, b4, b5, c0, c1, c2, c3, c4, c5⟩ := y
  obtain ⟨d1, d2, d3, d4, d5, d6, e0, e1, e2, e3, e4, e5, f0, f1, f2, f3, f4, f5⟩ := z
  simp only [tmV, List.cons.injEq, Value.slice.injEq, true_and, and_true] at h
  obtain ⟨⟨rfl, rfl⟩, ⟨rfl, rfl⟩, rfl, rfl, rfl, rfl, rfl, rfl, ⟨rfl, rfl⟩, rfl, rfl, rfl, rfl, rfl, rfl⟩ := h
  rfl
theorem TmR.openY {m : Mem} {t : Tm} {y : TmY} (h : TmR m t (tmV t y)) : y.one ∧ Tms m y.o1 t.kids.length y.c1 t.kids ∧ Ars m y.o2 t.arms.length y.c2 t.arms ∧ RwR m t.row [.slice y.o3 t.row.labels.length y.c3, .int .i64 t.row.var] := by
  obtain ⟨z, e, h1⟩ := h.open_
  have := tmV_inj e
  subst this; exact h1
set_option maxHeartbeats 1600000 in
theorem apart_c {w : World} {m : Mem} {t : Tm} {vs_t : List Value} (hA : Agree w m) (h_t : TmR m t vs_t) (hT : Tab w) (hsh : ShT t) (hb : bulkM t ≤ 1000000000) : FnV Tryd.prog 10 #[.agg vs_t.toArray] w m (fun _ m v => (MP.tm (apartM t)).p m v) := by
  obtain ⟨⟨oK_t, cK_t, oA_t, cA_t, oR_t, cR_t, t0_t, t1_t, t2_t, t3_t, t4_t, t5_t, u0_t, u1_t, u2_t, u3_t, u4_t, u5_t⟩, rfl, hon_t, hkk_t, haa_t, hrr_t⟩ := h_t.open_
  dsimp only at hkk_t haa_t hrr_t
  have hbg_t := hkk_t.big; have hcp_t := hkk_t.cap; have hbh_t := haa_t.big; have hcq_t := haa_t.cap
  refine fn_enter (vs := [_]) Tryd.func10 rfl rfl rfl fun a0 hfr0 => ?_
  have hst0 := st_enter hA (loc_nil [] _ w m)
  have hM : MLe m m := MLe.refl m
  refine seq_any fun _ hK1 => ?_
  replace hst0 := hst0.more (r := .free) trivial List.nodup_nil (by simp [Res.blocks])
  refine ra0 (tch := [(1, 0, (fun v => .blk v _))]) hst0 hfr0 (.cons rfl (ob_box rfl rfl) <| .consT rfl rfl (fun _ => rfl) rfl (ob_allocL Tryd.zeroValue33 rfl) <| .nil) ?_
  intro a1 w1 m1 hst1 hle1 hk1
  have hfr1 := hk1.fr (T' := []) (.nil)
  obtain ⟨g2, e2, hc1⟩ := hk1.ex 1 rfl
  replace hfr1 := hfr1.cons e2
  obtain ⟨g3, e3, _⟩ := hk1.ex 2 rfl
  replace hfr1 := hfr1.cons e3
  replace hst1 := hst1.fin (L' := [_]) (.cons e3 <| .nil)
  replace h_t := h_t.mono hle1
  replace hkk_t := hkk_t.mono hle1
  replace haa_t := haa_t.mono hle1
  replace hrr_t := hrr_t.mono hle1
  replace hM := hM.trans hle1
  clear hst0 hfr0 hk1
  refine hK1 _ _ ?_; clear hK1
  refine seq_any fun _ hK4 => ?_
  replace hst1 := hst1.more (r := .free) trivial List.nodup_nil (by simp [Res.blocks])
  refine ra0 (tch := [(1, 1, (fun v => .blk v _))]) hst1 hfr1 (.cons rfl (ob_buildS (.nil) Tryd.underlying63 Tryd.zeroValue63 (.cons Tryd.sizeOf3 <| .nil) rfl) <| .consT rfl rfl (fun _ => rfl) rfl (ob_boxL rfl rfl) <| .consA 5 rfl rfl <| .nil) ?_
  intro a2 w2 m2 hst2 hle2 hk2
  have hfr2 := hk2.fr (T' := [(1, _), (2, _)]) (.old rfl rfl <| .old rfl rfl <| .nil)
  obtain ⟨gR, e5, _⟩ := hk2.ex 5 rfl
  replace hfr2 := hfr2.cons (hk2.same 3 rfl e5)
  replace hst2 := hst2.fin (L' := [_, _]) (.cons e5 <| .nil)
  replace h_t := h_t.mono hle2
  replace hkk_t := hkk_t.mono hle2
  replace haa_t := haa_t.mono hle2
  replace hrr_t := hrr_t.mono hle2
  replace hc1 := hc1.mono hle2
  replace hM := hM.trans hle2
  clear hst1 hfr1 hk2
  have hgr : w.heap.size ≤ gR := (hst2.loc.own gR (List.mem_flatMap.2 ⟨_, List.mem_of_getElem? (i := 1) rfl, by show gR ∈ [gR]; exact List.mem_singleton.2 rfl⟩)).resolve_left (fun h => nomatch h)
  have hNT : NotTab gR := notTab_new hT hgr
  refine hK4 _ _ ?_; clear hK4
  refine seq_any fun _ hK6 => ?_
  refine ra0 (tch := [(3, 1, (fun _ => .blk (.pointer (some ⟨gR, 0, none⟩)) (.cells #[.int .i64 (((renT t [] 0).2 : Nat) : Int)] 63))), (4, 0, (fun _ => .blkx _ _ _))]) hst2 hfr2 (.cons rfl (ob_move rfl) <| .cons rfl (ob_loadS' rfl hc1 Tryd.isAgg33 Tryd.sizeOf33 rfl rfl) <| .cons rfl (ob_makeMapF S) <| .consT rfl rfl (fun _ => rfl) rfl (ob_imgT 8 rfl rfl rfl fun y8 => ob_callT rfl (.cons rfl <| .cons rfl <| .cons rfl <| .nil) Tryd.call25 (κ := .ex (MP.tm (apartM t))) (fun σ w m hK hr hkn => by have hle_ := KC.le hK; have hA := KC.agree hK; have hM := hM.trans hle_; have hr0_ := hK.2; have h_t := h_t.mono hle_; have hkk_t := hkk_t.mono hle_; have haa_t := haa_t.mono hle_; have hrr_t := hrr_t.mono hle_; have hc1 := hc1.mono hle_; have hT := tab_keepG hT hK.1.st.ext (fun q hq => nomatch hq); exact (Calls.mono (rterm_c t (n := 0) (es := []) hA hr h_t hr0_ hT hsh (by omega) hNT) fun e w2 ⟨v, m2, e1, hE, hL, hv⟩ => ⟨v, m2, e1, touch_of hE hL, hv⟩))) <| .consT rfl rfl (fun _ => rfl) rfl (ob_imgTX 9 rfl rfl rfl fun y9 => ob_storeK' rfl rfl rfl Tryd.sizeOf33 rfl rfl (fun w m hK => hK.2.one)) <| .nil) ?_
  intro a3 w3 m3 hst3 hle3 hk3
  have hfr3 := hk3.fr (T' := [(2, _)]) (.old rfl rfl <| .nil)
  obtain ⟨y7, e7, hy7⟩ := hk3.ex 9 rfl
  replace hst3 := hst3.fin (L' := [_, _]) (.cons e7 <| .cons rfl <| .nil)
  try simp only [List.take_succ_cons, List.take_zero, List.drop_succ_cons, List.drop_zero, List.cons_append, List.nil_append, List.append_nil, List.length_cons, List.length_nil, Nat.zero_add, Nat.reduceAdd] at hst3
  obtain ⟨yb, hcb, hst3⟩ := hst3.unx (k := 0) rfl (fun _ => rfl)
  clear hst2 hfr2 hk3
  refine hK6 _ _ ?_; clear hK6
  refine wp_ret ?_
  repeat (with_reducible first | refine then_ret ?_ | refine block_ret ?_)
  exact fn_ret hst3 hfr3 rfl (.cell rfl (load_blk (blk_heap (hst3.loc.at_ (k := 0) rfl)) Tryd.isAgg33 Tryd.sizeOf33) <| .nil) (⟨yb, rfl, hcb⟩)

set_option maxHeartbeats 400000 in
theorem alikeF_c {w : World} {m : Mem} {a : Tm} {vs_a : List Value} {b : Tm} {vs_b : List Value} (hA : Agree w m) (h_a : TmR m a vs_a) (h_b : TmR m b vs_b) (hba : bulkM a ≤ 1000000000) (hbb : bulkM b ≤ 1000000000) : FnV Tryd.prog 11 #[.agg vs_a.toArray, .agg vs_b.toArray] w m (fun _ _ v => v = .bool (alikeT a [] [] b)) := by
  obtain ⟨⟨oK_a, cK_a, oA_a, cA_a, oR_a, cR_a, t0_a, t1_a, t2_a, t3_a, t4_a, t5_a, u0_a, u1_a, u2_a, u3_a, u4_a, u5_a⟩, rfl, hon_a, hkk_a, haa_a, hrr_a⟩ := h_a.open_
  dsimp only at hkk_a haa_a hrr_a
  have hbg_a := hkk_a.big; have hcp_a := hkk_a.cap; have hbh_a := haa_a.big; have hcq_a := haa_a.cap
  obtain ⟨⟨oK_b, cK_b, oA_b, cA_b, oR_b, cR_b, t0_b, t1_b, t2_b, t3_b, t4_b, t5_b, u0_b, u1_b, u2_b, u3_b, u4_b, u5_b⟩, rfl, hon_b, hkk_b, haa_b, hrr_b⟩ := h_b.open_
  dsimp only at hkk_b haa_b hrr_b
  have hbg_b := hkk_b.big; have hcp_b := hkk_b.cap; have hbh_b := haa_b.big; have hcq_b := haa_b.cap
  refine fn_enter (vs := [_, _]) Tryd.func11 rfl rfl rfl fun a0 hfr0 => ?_
  have hst0 := st_enter hA (loc_nil [] _ w m)
  have hM : MLe m m := MLe.refl m
  refine seq_any fun _ hK1 => ?_
  refine rp0 hst0 hfr0 (.cons rfl (ob_box rfl rfl) <| .cons rfl (ob_box rfl rfl) <| .cons rfl (ob_assign rfl) <| .nil) ?_
  intro a1 w1 m1 hst1 hle1 hk1
  have hfr1 := hk1.fr (T' := []) (.nil)
  obtain ⟨g2, e2, hc2⟩ := hk1.ex 2 rfl
  replace hfr1 := hfr1.cons e2
  obtain ⟨g3, e3, hc3⟩ := hk1.ex 3 rfl
  replace hfr1 := hfr1.cons e3
  replace h_a := h_a.mono hle1
  replace h_b := h_b.mono hle1
  clear hst0 hfr0 hk1
  refine hK1 _ _ ?_; clear hK1
  refine seq_any fun _ hK4 => ?_
  refine rp0 hst1 hfr1 (.cons rfl (ob_buildS (.nil) Tryd.underlying68 Tryd.zeroValue68 (.cons Tryd.sizeOf27 <| .cons Tryd.sizeOf27 <| .nil) rfl) <| .cons rfl (ob_loadS' rfl hc2 Tryd.isAgg33 Tryd.sizeOf33 rfl rfl) <| .cons rfl (ob_loadS' rfl hc3 Tryd.isAgg33 Tryd.sizeOf33 rfl rfl) <| .cons rfl (ob_callE rfl (.cons rfl <| .cons rfl <| .cons rfl <| .nil) Tryd.call26 (fun w m hK => by have hle_ := KC.le hK; have hA := KC.agree hK; have h_a := h_a.mono hle_; have h_b := h_b.mono hle_; exact alike_c a (p := ⟨[], []⟩) hA ⟨none, 0, none, 0, rfl, Sl.empty, Sl.empty⟩ h_a h_b (by show 0 + bulkM a ≤ _; omega) (by show 0 + bulkM b ≤ _; omega))) <| .cons rfl (ob_assign rfl) <| .nil) ?_
  intro a2 w2 m2 hst2 hle2 hk2
  have hfr2 := hk2.fr (T' := [(4, _)]) (.new rfl <| .nil)
  clear hst1 hfr1 hk2
  refine hK4 _ _ ?_; clear hK4
  refine wp_ret ?_
  repeat (with_reducible first | refine then_ret ?_ | refine block_ret ?_)
  exact fn_ret hst2 hfr2 rfl (.tmp rfl <| .nil) (rfl)

end Go.Proofs.YteamjgbhcjojaaaDoor
