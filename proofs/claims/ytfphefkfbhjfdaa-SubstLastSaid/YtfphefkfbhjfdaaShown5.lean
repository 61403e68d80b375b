/-
  'brocadelaw05': what is shown in any case. Conditions: those of each theorem.
-/
import Derived.Test.YtfphefkfbhjfdaaSaid5
namespace Go.Proofs.Ytfphefkfbhjfdaa
set_option linter.all false
set_option maxRecDepth 4000
open Go.RowKit
def leafT (k : Int) : Ty := ⟨k, [], 0, [], [], 0⟩
def tvarT (n : Int) : Ty := ⟨7, [], n, [], [], 0⟩
def refT (t : Ty) : Ty := ⟨6, [], 0, [t], [], 0⟩
def oneS : Sub := ⟨aset 1 (leafT 1) [], []⟩
theorem leafR {m : Mem} {k : Int} (h : InI64 k) : TyR m (leafT k) [.int .i64 k, S [], .int .i64 0, .slice none 0 0, .slice none 0 0, .int .i64 0] := TyR.build (ks := []) (ls := []) Sl.empty Sl.empty h ⟨by omega, by omega⟩ ⟨by omega, by omega⟩
theorem tvarR {m : Mem} {n : Int} (h : InI64 n) : TyR m (tvarT n) [.int .i64 7, S [], .int .i64 n, .slice none 0 0, .slice none 0 0, .int .i64 0] := TyR.build (ks := []) (ls := []) Sl.empty Sl.empty ⟨by omega, by omega⟩ h ⟨by omega, by omega⟩
theorem oneS_w : SubW 17592186044416 40 oneS := by
  refine ⟨fun n t h => ?_, fun n r h => by cases h⟩
  simp only [oneS, aset, alook] at h
  split at h
  · injection h with h; subst h; decide
  · cases h
theorem tyV_open {m : Mem} {t : Ty} {y : (Option Addr × Nat) × (Option Addr × Nat)} (h : TyR m t (tyV t y)) : Tys m y.1.1 t.args.length y.1.2 t.args ∧ Strs m y.2.1 t.labels.length y.2.2 t.labels := by
  obtain ⟨o, c, o2, c2, e, h1, h2, -⟩ := h.open_
  simp only [tyV, List.cons.injEq, Value.slice.injEq, true_and, and_true] at e
  obtain ⟨⟨rfl, rfl⟩, rfl, rfl⟩ := e
  exact ⟨h1, h2⟩
theorem shown_apply {w : World} {m : Mem} {q : QQ} {p : Addr} (hA : Agree w m) (hS : SubR m oneS (subV q)) (hc : CellsAt m p [.int .i64 7, S [], .int .i64 1, .slice none 0 0, .slice none 0 0, .int .i64 0]) :
    FnV Try.prog 18 #[.agg (subV q).toArray, .agg #[.int .i64 6, S [], .int .i64 0, .slice (some p) 1 1, .slice none 0 0, .int .i64 0]] w m fun _ m v => (MP.ty (refT (leafT 1))).p m v :=
  apply_c (refT (tvarT 1)) hA hS (TyR.build (k := 6) (s := []) (v := 0) (ks := [tvarT 1]) (ls := []) (r := 0) (Sl.one (vs := [_, _, _, _, _, _]) hc rfl (tvarR ⟨by omega, by omega⟩)) Sl.empty ⟨by omega, by omega⟩ ⟨by omega, by omega⟩ ⟨by omega, by omega⟩) oneS_w (by decide)
set_option maxHeartbeats 1600000 in
theorem shown_c {w : World} {m : Mem}  (hA : Agree w m)  : FnV Try.prog 7 #[] w m (fun _ _ v => v = .bool true) := by
  refine fn_enter (vs := []) Try.func7 rfl rfl rfl fun a0 hfr0 => ?_
  have hst0 := st_enter hA (loc_nil [] _ w m)
  have hM : MLe m m := MLe.refl m
  refine seq_any fun _ hK1 => ?_
  refine rp0 hst0 hfr0 (.cons rfl (ob_assign rfl) <| .nil) ?_
  intro a1 w1 m1 hst1 hle1 hk1
  have hfr1 := hk1.fr (T' := []) (.nil)
  clear hst0 hfr0 hk1
  refine hK1 _ _ ?_; clear hK1
  refine seq_any fun _ hK2 => ?_
  replace hst1 := hst1.more (r := .free) trivial List.nodup_nil (by simp [Res.blocks])
  refine ra0 (tch := [(3, 0, (fun v => .blk v _)), (4, 0, (fun v => .blkx v _ _))]) hst1 hfr1 (.cons rfl (ob_call (φ := MP.sub ⟨[], []⟩) rfl (.nil) Try.call20 (fun w m hK => by have hle_ := KC.le hK; have hA := KC.agree hK; exact FnG.mono (none_c hA) fun _ _ _ _ h => h)) <| .cons rfl (ob_buildS (.cons rfl <| .nil) Try.underlying28 Try.zeroValue28 (.cons Try.sizeOf3 <| .cons Try.sizeOf9 <| .cons Try.sizeOf3 <| .cons Try.sizeOf23 <| .cons Try.sizeOf26 <| .nil) rfl) <| .cons rfl (ob_imgE 7 rfl rfl rfl fun y7 => ob_call (φ := MP.sub oneS) rfl (.cons rfl <| .cons rfl <| .cons rfl <| .nil) Try.call10 (fun w m hK => by have hle_ := KC.le hK; have hA := KC.agree hK; have hr0_ := hK.2; exact FnG.mono (setType_c (s := ⟨[], []⟩) (n := 1) (t := leafT 1) hA hr0_ (leafR ⟨by omega, by omega⟩) (by decide)) fun _ _ _ _ h => h)) <| .consT rfl rfl (fun _ => rfl) rfl (ob_allocL Try.zeroValue36 rfl) <| .consT rfl rfl (fun _ => rfl) rfl (ob_imgT 1 rfl rfl rfl fun y1 => ob_imgTX 9 rfl rfl rfl fun y9 => ob_storeF rfl rfl rfl rfl rfl Try.sizeOf36 rfl rfl rfl) <| .nil) ?_
  intro a2 w2 m2 hst2 hle2 hk2
  have hfr2 := hk2.fr (T' := []) (.nil)
  obtain ⟨g3, e3, _⟩ := hk2.ex 1 rfl
  replace hfr2 := hfr2.cons e3
  replace hst2 := hst2.fin (L' := [_]) (.cons e3 <| .cons e3 <| .nil)
  try simp only [List.take_succ_cons, List.take_zero, List.drop_succ_cons, List.drop_zero, List.cons_append, List.nil_append, List.append_nil, List.length_cons, List.length_nil, Nat.zero_add, Nat.reduceAdd] at hst2
  obtain ⟨⟨q1, q2⟩, hS, hst2⟩ := hst2.unx (k := 0) rfl (fun _ => rfl)
  clear hst1 hfr1 hk2
  refine hK2 _ _ ?_; clear hK2
  refine seq_any fun _ hK5 => ?_
  replace hst2 := hst2.more (r := .free) trivial List.nodup_nil (by simp [Res.blocks])
  refine ra0 (tch := [(5, 1, (fun v => .blk v _)), (6, 1, (fun v => .blkx v _ _))]) hst2 hfr2 (.cons rfl (ob_loadLA (j := 0) rfl rfl Try.isAgg36 Try.sizeOf36 rfl) <| .cons rfl (ob_buildS (.cons rfl <| .cons rfl <| .nil) Try.underlying28 Try.zeroValue28 (.cons Try.sizeOf3 <| .cons Try.sizeOf9 <| .cons Try.sizeOf3 <| .cons Try.sizeOf23 <| .cons Try.sizeOf26 <| .nil) rfl) <| .cons rfl (ob_buildSlice1 rfl Try.underlying23 Try.sizeOf28 Try.zeroValue28 rfl rfl rfl rfl) <| .cons rfl (ob_imgV 12 rfl rfl rfl fun y12 => ob_buildS (.cons rfl <| .cons rfl <| .nil) Try.underlying28 Try.zeroValue28 (.cons Try.sizeOf3 <| .cons Try.sizeOf9 <| .cons Try.sizeOf3 <| .cons Try.sizeOf23 <| .cons Try.sizeOf26 <| .nil) rfl) <| .cons rfl (ob_imgE 13 rfl rfl rfl fun y13 => ob_call (φ := MP.ty (refT (leafT 1))) rfl (.cons rfl <| .cons rfl <| .nil) Try.call18 (fun w m hK => by have hle_ := KC.le hK; have hA := KC.agree hK; have hr0_ := hK.2; have hS := hS.mono hle_; exact FnG.mono (shown_apply (q := (q1, q2)) hA hS hr0_) fun _ _ _ _ h => h)) <| .consT rfl rfl (fun _ => rfl) rfl (ob_allocL Try.zeroValue28 rfl) <| .consT rfl rfl (fun _ => rfl) rfl (ob_imgT 2 rfl rfl rfl fun y2 => ob_imgTX 14 rfl rfl rfl fun y14 => ob_storeF rfl rfl rfl rfl rfl Try.sizeOf28 rfl rfl rfl) <| .nil) ?_
  intro a3 w3 m3 hst3 hle3 hk3
  have hfr3 := hk3.fr (T' := [(1, _)]) (.old rfl rfl <| .nil)
  obtain ⟨g6, e6, _⟩ := hk3.ex 2 rfl
  replace hfr3 := hfr3.cons e6
  replace hst3 := hst3.fin (L' := [_, _]) (.cons e6 <| .cons e6 <| .nil)
  try simp only [List.take_succ_cons, List.take_zero, List.drop_succ_cons, List.drop_zero, List.cons_append, List.nil_append, List.append_nil, List.length_cons, List.length_nil, Nat.zero_add, Nat.reduceAdd] at hst3
  obtain ⟨⟨⟨oa, ca⟩, ol, cl⟩, hcv, hst3⟩ := hst3.unx (k := 1) rfl (fun _ => rfl)
  replace hS := hS.mono hle3
  clear hst2 hfr2 hk3
  have hkk : Tys _ oa [leafT 1].length ca [leafT 1] := (tyV_open hcv).1
  refine hK5 _ _ ?_; clear hK5
  refine seq_any fun _ hK8 => ?_
  replace hst3 := hst3.more (r := .free) trivial List.nodup_nil (by simp [Res.blocks])
  refine ra0 (tch := [(5, 2, (fun v => .blk v _)), (6, 2, (fun v => .blkx v _ _))]) hst3 hfr3 (.cons rfl (ob_loadLA (j := 0) rfl rfl Try.isAgg36 Try.sizeOf36 rfl) <| .cons rfl (ob_call (φ := MP.tyb (leafT 1) true) rfl (.cons rfl <| .cons rfl <| .nil) Try.call12 (fun w m hK => by have hle_ := KC.le hK; have hA := KC.agree hK; have hS := hS.mono hle_; exact FnG.mono (type_c (s := oneS) (n := 1) hA hS (fun t h => Nat.le_trans (oneS_w.1 _ _ h) (by omega))) fun _ _ _ _ h => h)) <| .cons rfl (ob_imgV 17 rfl rfl rfl fun y17 => ob_move rfl) <| .cons rfl (ob_imgV 15 rfl rfl rfl fun y15 => ob_extract rfl rfl) <| .cons rfl (ob_imgE 15 rfl rfl rfl fun y15 => ob_extract rfl rfl) <| .consT rfl rfl (fun _ => rfl) rfl (ob_allocL Try.zeroValue28 rfl) <| .consT rfl rfl (fun _ => rfl) rfl (ob_imgT 3 rfl rfl rfl fun y3 => ob_imgTX 18 rfl rfl rfl fun y18 => ob_storeF rfl rfl rfl rfl rfl Try.sizeOf28 rfl rfl rfl) <| .cons rfl (ob_assign rfl) <| .nil) ?_
  intro a4 w4 m4 hst4 hle4 hk4
  have hfr4 := hk4.fr (T' := [(1, _), (2, _), (4, _)]) (.old rfl rfl <| .old rfl rfl <| .new rfl <| .nil)
  obtain ⟨g9, e9, _⟩ := hk4.ex 3 rfl
  replace hst4 := hst4.fin (L' := [_, _, _]) (.cons e9 <| .cons e9 <| .nil)
  try simp only [List.take_succ_cons, List.take_zero, List.drop_succ_cons, List.drop_zero, List.cons_append, List.nil_append, List.append_nil, List.length_cons, List.length_nil, Nat.zero_add, Nat.reduceAdd] at hst4
  obtain ⟨y10, hy10, hst4⟩ := hst4.unx (k := 2) rfl (fun _ => rfl)
  replace hS := hS.mono hle4
  replace hkk := hkk.mono hle4
  clear hst3 hfr3 hk4
  refine hK8 _ _ ?_; clear hK8
  refine seq_any fun _ hK11 => ?_
  replace hst4 := hst4.more (r := .free) trivial List.nodup_nil (by simp [Res.blocks])
  refine ra0 (tch := [(5, 3, (fun v => .blk v _)), (6, 3, (fun v => .blkx v _ _))]) hst4 hfr4 (.cons rfl (ob_loadLA (j := 0) rfl rfl Try.isAgg36 Try.sizeOf36 rfl) <| .cons rfl (ob_call (φ := MP.tyb (zeroTy) false) rfl (.cons rfl <| .cons rfl <| .nil) Try.call12 (fun w m hK => by have hle_ := KC.le hK; have hA := KC.agree hK; have hS := hS.mono hle_; exact FnG.mono (type_c (s := oneS) (n := 2) hA hS (fun t h => Nat.le_trans (oneS_w.1 _ _ h) (by omega))) fun _ _ _ _ h => h)) <| .cons rfl (ob_imgV 22 rfl rfl rfl fun y22 => ob_move rfl) <| .cons rfl (ob_imgV 20 rfl rfl rfl fun y20 => ob_extract rfl rfl) <| .cons rfl (ob_imgE 20 rfl rfl rfl fun y20 => ob_extract rfl rfl) <| .consT rfl rfl (fun _ => rfl) rfl (ob_allocL Try.zeroValue28 rfl) <| .consT rfl rfl (fun _ => rfl) rfl (ob_imgT 5 rfl rfl rfl fun y5 => ob_imgTX 23 rfl rfl rfl fun y23 => ob_storeF rfl rfl rfl rfl rfl Try.sizeOf28 rfl rfl rfl) <| .cons rfl (ob_assign rfl) <| .nil) ?_
  intro a5 w5 m5 hst5 hle5 hk5
  have hfr5 := hk5.fr (T' := [(2, _), (4, _), (6, _)]) (.old rfl rfl <| .old rfl rfl <| .new rfl <| .nil)
  obtain ⟨g12, e12, _⟩ := hk5.ex 5 rfl
  replace hst5 := hst5.fin (L' := [_, _, _, _]) (.cons e12 <| .cons e12 <| .nil)
  try simp only [List.take_succ_cons, List.take_zero, List.drop_succ_cons, List.drop_zero, List.cons_append, List.nil_append, List.append_nil, List.length_cons, List.length_nil, Nat.zero_add, Nat.reduceAdd] at hst5
  obtain ⟨y13, hy13, hst5⟩ := hst5.unx (k := 3) rfl (fun _ => rfl)
  replace hkk := hkk.mono hle5
  clear hst4 hfr4 hk5
  refine hK11 _ _ ?_; clear hK11
  refine seq_any fun _ hK14 => ?_
  have hln1 : (refT (leafT 1)).args.length = 1 := rfl
  obtain ⟨p15, vs15, x15, ho15, hd15, hm_x15, ht15, hcv15, hl15, hv15⟩ := hkk.nth (k := 0) (by decide)
  cases ho15
  obtain ⟨o15, c15, oL15, cL15, rfl, hkd15, hs15, hi15, hj15, hr15⟩ := hv15.open_
  have hbg15 := hkd15.big; have hcp15 := hkd15.cap; have hbs15 := hs15.big; have hcs15 := hs15.cap
  have hrw15 : RwR _ ⟨x15.labels, x15.rv⟩ _ := ⟨_, _, rfl, hs15, hr15⟩
  refine rp0 hst5 hfr5 (.cons rfl (ob_fieldAddrO (off := 3) rfl Try.underlying28 rfl rfl Try.sizeOf23 rfl) <| .cons rfl (ob_loadL (j := 1) rfl rfl Try.isAgg23 rfl) <| .cons rfl (ob_len rfl Try.underlying23) <| .cons rfl (ob_eql rfl rfl) <| .cons rfl (ob_move rfl) <| .cons rfl (ob_fieldAddrO (off := 3) rfl Try.underlying28 rfl rfl Try.sizeOf23 rfl) <| .cons rfl (ob_loadL (j := 1) rfl rfl Try.isAgg23 rfl) <| .cons rfl (ob_indexAddr (k := 0) rfl rfl Try.underlying23 Try.sizeOf28 (by omega) (by omega)) <| .cons rfl (ob_fieldAddrO (off := 0) rfl Try.underlying28 rfl rfl Try.sizeOf3 rfl) <| .cons rfl (ob_load1 rfl hcv15 Try.isAgg3 rfl) <| .cons rfl (ob_eql rfl rfl) <| .cons rfl (ob_and rfl rfl rfl) <| .cons rfl (ob_move rfl) <| .cons rfl (ob_move rfl) <| .cons rfl (ob_and rfl rfl rfl) <| .cons rfl (ob_move rfl) <| .cons rfl (ob_move rfl) <| .cons rfl (ob_not rfl) <| .cons rfl (ob_and rfl rfl rfl) <| .cons rfl (ob_assign rfl) <| .nil) ?_
  intro a6 w6 m6 hst6 hle6 hk6
  have hfr6 := hk6.fr (T' := [(0, _)]) (.new rfl <| .nil)
  clear hst5 hfr5 hk6
  have e9 : leafT 1 = x15 := by simpa using hd15
  subst e9
  refine hK14 _ _ ?_; clear hK14
  refine wp_ret ?_
  repeat (with_reducible first | refine then_ret ?_ | refine block_ret ?_)
  exact fn_ret hst6 hfr6 rfl (.tmp rfl <| .nil) (rfl)

end Go.Proofs.Ytfphefkfbhjfdaa
