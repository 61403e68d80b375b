/-
  Variables and functions as terms. Conditions: those of each theorem.
-/
import Derived.Test.YteamjgbhcjojaaaDoorBinders1
namespace Go.Proofs.YteamjgbhcjojaaaDoor
set_option linter.all false
set_option maxRecDepth 4000
open Go.RowKit
def varT (s : Str) : Tm := ⟨1, 0, s, [], 0, [], [], ⟨[], 0⟩⟩
theorem inI0 : InI64 0 := ⟨by decide, by decide⟩
def funT (s : Str) (t : Tm) : Tm := ⟨5, 0, s, [], 0, [t], [], ⟨[], 0⟩⟩
set_option maxHeartbeats 1600000 in
theorem v_c {w : World} {m : Mem} {s : Str} (hA : Agree w m)  : FnV Tryd.prog 19 #[S s] w m (fun _ m v => (MP.tm (varT s)).p m v) := by
  refine fn_enter (vs := [_]) Tryd.func19 rfl rfl rfl fun a0 hfr0 => ?_
  have hst0 := st_enter hA (loc_nil [] _ w m)
  have hM : MLe m m := MLe.refl m
  refine seq_any fun _ hK1 => ?_
  replace hst0 := hst0.more (r := .free) trivial List.nodup_nil (by simp [Res.blocks])
  refine ra0 (tch := [(0, 0, (fun v => .blk v _))]) hst0 hfr0 (.consT rfl rfl (fun _ => rfl) rfl (ob_allocL Tryd.zeroValue33 rfl) <| .nil) ?_
  intro a1 w1 m1 hst1 hle1 hk1
  have hfr1 := hk1.fr (T' := [(0, _)]) (.old rfl rfl <| .nil)
  obtain ⟨g2, e2, _⟩ := hk1.ex 2 rfl
  replace hfr1 := hfr1.cons e2
  replace hst1 := hst1.fin (L' := [_]) (.cons e2 <| .nil)
  clear hst0 hfr0 hk1
  refine hK1 _ _ ?_; clear hK1
  refine seq_any fun _ hK3 => ?_
  refine ra0 (tch := [(2, 0, (fun _ => .blk _ _))]) hst1 hfr1 (.cons rfl (ob_move rfl) <| .cons rfl (ob_buildS (.cons rfl <| .cons rfl <| .nil) Tryd.underlying33 Tryd.zeroValue33 (.cons Tryd.sizeOf3 <| .cons Tryd.sizeOf3 <| .cons Tryd.sizeOf9 <| .cons Tryd.sizeOf9 <| .cons Tryd.sizeOf3 <| .cons Tryd.sizeOf24 <| .cons Tryd.sizeOf25 <| .cons Tryd.sizeOf31 <| .cons Tryd.sizeOf29 <| .cons Tryd.sizeOf31 <| .nil) rfl) <| .consT rfl rfl (fun _ => rfl) rfl (ob_store' rfl rfl rfl Tryd.sizeOf33 rfl rfl rfl) <| .nil) ?_
  intro a2 w2 m2 hst2 hle2 hk2
  have hfr2 := hk2.fr (T' := [(2, _)]) (.old rfl rfl <| .nil)
  replace hst2 := hst2.fin (L' := [_]) (.cons rfl <| .nil)
  try simp only [List.take_succ_cons, List.take_zero, List.drop_succ_cons, List.drop_zero, List.cons_append, List.nil_append, List.append_nil, List.length_cons, List.length_nil, Nat.zero_add, Nat.reduceAdd] at hst2
  clear hst1 hfr1 hk2
  refine hK3 _ _ ?_; clear hK3
  refine wp_ret ?_
  repeat (with_reducible first | refine then_ret ?_ | refine block_ret ?_)
  exact fn_ret hst2 hfr2 rfl (.cell rfl (load_blk (blk_heap (hst2.loc.at_ (k := 0) rfl)) Tryd.isAgg33 Tryd.sizeOf33) <| .nil) (⟨TmY.zero none 0 none 0, rfl, TmR.build TmY.zero_one Sl.empty Sl.empty ⟨_, _, rfl, Sl.empty, inI0⟩⟩)

set_option maxHeartbeats 1600000 in
theorem fun_c {w : World} {m : Mem} {s : Str} {t : Tm} {vs_t : List Value} (hA : Agree w m) (h_t : TmR m t vs_t) : FnV Tryd.prog 17 #[S s, .agg vs_t.toArray] w m (fun _ m v => (MP.tm (funT s t)).p m v) := by
  obtain ⟨⟨oK_t, cK_t, oA_t, cA_t, oR_t, cR_t, t0_t, t1_t, t2_t, t3_t, t4_t, t5_t, u0_t, u1_t, u2_t, u3_t, u4_t, u5_t⟩, rfl, hon_t, hkk_t, haa_t, hrr_t⟩ := h_t.open_
  dsimp only at hkk_t haa_t hrr_t
  have hbg_t := hkk_t.big; have hcp_t := hkk_t.cap; have hbh_t := haa_t.big; have hcq_t := haa_t.cap
  refine fn_enter (vs := [_, _]) Tryd.func17 rfl rfl rfl fun a0 hfr0 => ?_
  have hst0 := st_enter hA (loc_nil [] _ w m)
  have hM : MLe m m := MLe.refl m
  refine seq_any fun _ hK1 => ?_
  replace hst0 := hst0.more (r := .free) trivial List.nodup_nil (by simp [Res.blocks])
  refine ra0 (tch := [(1, 0, (fun v => .blk v _))]) hst0 hfr0 (.cons rfl (ob_box rfl rfl) <| .consT rfl rfl (fun _ => rfl) rfl (ob_allocL Tryd.zeroValue33 rfl) <| .nil) ?_
  intro a1 w1 m1 hst1 hle1 hk1
  have hfr1 := hk1.fr (T' := [(0, _)]) (.old rfl rfl <| .nil)
  obtain ⟨g2, e2, hc3⟩ := hk1.ex 3 rfl
  replace hfr1 := hfr1.cons e2
  obtain ⟨g3, e3, _⟩ := hk1.ex 4 rfl
  replace hfr1 := hfr1.cons e3
  replace hst1 := hst1.fin (L' := [_]) (.cons e3 <| .nil)
  replace h_t := h_t.mono hle1
  clear hst0 hfr0 hk1
  refine hK1 _ _ ?_; clear hK1
  refine seq_any fun _ hK4 => ?_
  refine ra0 (tch := [(4, 0, (fun _ => .blkx _ _ _))]) hst1 hfr1 (.cons rfl (ob_move rfl) <| .cons rfl (ob_loadS' rfl hc3 Tryd.isAgg33 Tryd.sizeOf33 rfl rfl) <| .cons rfl (ob_buildSlice1 rfl Tryd.underlying24 Tryd.sizeOf33 Tryd.zeroValue33 rfl rfl rfl rfl) <| .cons rfl (ob_imgV 7 rfl rfl rfl fun y7 => ob_buildS (.cons rfl <| .cons rfl <| .cons rfl <| .nil) Tryd.underlying33 Tryd.zeroValue33 (.cons Tryd.sizeOf3 <| .cons Tryd.sizeOf3 <| .cons Tryd.sizeOf9 <| .cons Tryd.sizeOf9 <| .cons Tryd.sizeOf3 <| .cons Tryd.sizeOf24 <| .cons Tryd.sizeOf25 <| .cons Tryd.sizeOf31 <| .cons Tryd.sizeOf29 <| .cons Tryd.sizeOf31 <| .nil) rfl) <| .consT rfl rfl (fun _ => rfl) rfl (ob_imgTX 8 rfl rfl rfl fun y8 => ob_store' rfl rfl rfl Tryd.sizeOf33 rfl rfl rfl) <| .nil) ?_
  intro a2 w2 m2 hst2 hle2 hk2
  have hfr2 := hk2.fr (T' := [(4, _)]) (.old rfl rfl <| .nil)
  replace hst2 := hst2.fin (L' := [_]) (.cons rfl <| .nil)
  try simp only [List.take_succ_cons, List.take_zero, List.drop_succ_cons, List.drop_zero, List.cons_append, List.nil_append, List.append_nil, List.length_cons, List.length_nil, Nat.zero_add, Nat.reduceAdd] at hst2
  obtain ⟨gf, hgf, hst2⟩ := hst2.unx (k := 0) rfl (fun _ => rfl)
  replace h_t := h_t.mono hle2
  clear hst1 hfr1 hk2
  refine hK4 _ _ ?_; clear hK4
  refine wp_ret ?_
  repeat (with_reducible first | refine then_ret ?_ | refine block_ret ?_)
  exact fn_ret hst2 hfr2 rfl (.cell rfl (load_blk (blk_heap (hst2.loc.at_ (k := 0) rfl)) Tryd.isAgg33 Tryd.sizeOf33) <| .nil) (⟨TmY.zero (some ⟨gf, 0, none⟩) 1 none 0, rfl, TmR.build TmY.zero_one (Sl.one (R := fun m vs t => TmR m t vs) hgf rfl h_t) Sl.empty ⟨_, _, rfl, Sl.empty, inI0⟩⟩)

end Go.Proofs.YteamjgbhcjojaaaDoor
