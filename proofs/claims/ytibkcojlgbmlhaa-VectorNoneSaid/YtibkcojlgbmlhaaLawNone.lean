/-
  A law's function. Conditions: those of each theorem.
-/
import Derived.Test.YtibkcojlgbmlhaaShown
namespace Go.Proofs.Ytibkcojlgbmlhaa
open Go.RowKit
set_option maxHeartbeats 400000 in
theorem law_none {w : World} {m : Mem} {e : Str} {k n : Int} (hA : Agree w m) (hn : InI64 n) :
    FnV Try.prog 7 #[S e, .int .i64 k, .int .i64 n] w m (fun _ _ v => v = .bool true) := by
  refine fn_enter (vs := [S e, .int .i64 k, .int .i64 n]) Try.func7 rfl rfl rfl fun a0 hfr0 => ?_
  have hst0 := st_enter hA (loc_nil [] _ w m)
  refine seq_any fun K1 hK1 => ?_
  refine region_plain (fun h => by cases h) hst0 hfr0 (by kernel_rfl) (by kernel_rfl) (.cons rfl (ob_assign rfl) <|
      .nil) ?_
  intro a1 w1 m1 hst1 hle1 hk1
  have hfr1 := hk1.fr (T' := [(0, _), (1, _), (2, _), (6, _)]) (.old rfl rfl <| .old rfl rfl <| .old rfl rfl <| .new rfl <| .nil)
  clear hst0 hfr0 hk1
  refine hK1 _ _ ?_; try clear hK1 K1
  refine seq_any fun K2 hK2 => ?_
  refine region_plain (fun h => by cases h) hst1 hfr1 (by kernel_rfl) (by kernel_rfl) (.cons rfl (ob_callE rfl (.nil) Try.call8 (fun w m hK => by exact shown_c (KC.agree hK))) <|
      .cons rfl (ob_assign rfl) <|
      .nil) ?_
  intro a2 w2 m2 hst2 hle2 hk2
  have hfr2 := hk2.fr (T' := [(0, _), (1, _), (2, _), (6, _), (7, _)]) (.old rfl rfl <| .old rfl rfl <| .old rfl rfl <| .old rfl rfl <| .new rfl <| .nil)
  clear hst1 hfr1 hk2
  refine hK2 _ _ ?_; try clear hK2 K2
  refine seq_any fun K3 hK3 => ?_
  replace hst2 := hst2.more (r := .free) trivial List.nodup_nil (by simp [Res.blocks])
  refine region_any (tch := [(0, 0, (fun v => .blk v _))]) (fun h => by cases h) hst2 hfr2 (by kernel_rfl) (by kernel_rfl) (by kernel_rfl) (.consT rfl rfl (fun _ => rfl) rfl (ob_allocL Try.zeroValue52 rfl) <|
      .nil) ?_
  intro a3 w3 m3 hst3 hle3 hk3
  have hfr3 := hk3.fr (T' := [(0, _), (1, _), (2, _), (6, _), (7, _)]) (.old rfl rfl <| .old rfl rfl <| .old rfl rfl <| .old rfl rfl <| .old rfl rfl <| .nil)
  obtain ⟨g4, e4, _⟩ := hk3.ex 8 rfl
  replace hfr3 := hfr3.cons e4
  replace hst3 := hst3.fin (L' := [_]) (.cons e4 <| .nil)
  clear hst2 hfr2 hk3
  refine hK3 _ _ ?_; try clear hK3 K3
  refine seq_any fun K5 hK5 => ?_
  replace hst3 := hst3.more (r := .free) trivial List.nodup_nil (by simp [Res.blocks])
  refine region_any (tch := [(8, 1, (fun v => .blk v _)), (11, 1, (fun v => .blk v _))]) (fun h => by cases h) hst3 hfr3 (by kernel_rfl) (by kernel_rfl) (by kernel_rfl) (.cons rfl (ob_loadLS' (j := 0) rfl rfl Try.isAgg52 Try.sizeOf52 rfl rfl) <|
      .cons rfl (ob_move rfl) <|
      .cons rfl (ob_callE rfl (.cons rfl <| .cons rfl <| .nil) Try.call21 (fun w m hK => by exact find_noneI (l := []) (e := e) (KC.agree hK) rfl rfl)) <|
      .cons rfl (ob_move rfl) <|
      .cons rfl (ob_extract rfl rfl) <|
      .cons rfl (ob_extract rfl rfl) <|
      .cons rfl (ob_extract rfl rfl) <|
      .cons rfl (ob_extract rfl rfl) <|
      .consT rfl rfl (fun _ => rfl) rfl (ob_allocL Try.zeroValue52 rfl) <|
      .cons rfl (ob_assign rfl) <|
      .cons rfl (ob_assign rfl) <|
      .consT rfl rfl (fun _ => rfl) rfl (ob_imgT 11 rfl rfl rfl fun y11 => ob_storeF rfl rfl rfl rfl Try.sizeOf52 rfl rfl rfl) <|
      .cons rfl (ob_assign rfl) <|
      .nil) ?_
  intro a4 w4 m4 hst4 hle4 hk4
  have hfr4 := hk4.fr (T' := [(0, _), (1, _), (2, _), (6, _), (7, _), (8, _), (9, _), (10, _), (12, _)]) (.old rfl rfl <| .old rfl rfl <| .old rfl rfl <| .old rfl rfl <| .old rfl rfl <| .old rfl rfl <| .new rfl <| .new rfl <| .new rfl <| .nil)
  obtain ⟨g6, e6, _⟩ := hk4.ex 11 rfl
  replace hfr4 := hfr4.cons e6
  replace hst4 := hst4.fin (L' := [_, _]) (.cons e6 <| .cons e6 <| .nil)
  clear hst3 hfr3 hk4
  refine hK5 _ _ ?_; try clear hK5 K5
  refine seq_any fun K7 hK7 => ?_
  replace hst4 := hst4.more (r := .free) trivial List.nodup_nil (by simp [Res.blocks])
  refine region_any (tch := [(7, 2, (fun v => .blk v _)), (9, 2, (fun v => .blk v _))]) (fun h => by cases h) hst4 hfr4 (by kernel_rfl) (by kernel_rfl) (by kernel_rfl) (.cons rfl (ob_loadLS' (j := 0) rfl rfl Try.isAgg52 Try.sizeOf52 rfl rfl) <|
      .cons rfl (ob_move rfl) <|
      .cons rfl (ob_callE rfl (.cons rfl <| .cons rfl <| .nil) Try.call22 (fun w m hK => by exact at_noneI (l := []) (k := k) (KC.agree hK) rfl rfl)) <|
      .cons rfl (ob_move rfl) <|
      .cons rfl (ob_extract rfl rfl) <|
      .cons rfl (ob_extract rfl rfl) <|
      .cons rfl (ob_extract rfl rfl) <|
      .consT rfl rfl (fun _ => rfl) rfl (ob_allocL Try.zeroValue52 rfl) <|
      .cons rfl (ob_assign rfl) <|
      .consT rfl rfl (fun _ => rfl) rfl (ob_imgT 14 rfl rfl rfl fun y14 => ob_storeF rfl rfl rfl rfl Try.sizeOf52 rfl rfl rfl) <|
      .cons rfl (ob_assign rfl) <|
      .nil) ?_
  intro a5 w5 m5 hst5 hle5 hk5
  have hfr5 := hk5.fr (T' := [(0, _), (1, _), (2, _), (6, _), (7, _), (8, _), (9, _), (10, _), (12, _), (11, _), (13, _), (15, _)]) (.old rfl rfl <| .old rfl rfl <| .old rfl rfl <| .old rfl rfl <| .old rfl rfl <| .old rfl rfl <| .old rfl rfl <| .old rfl rfl <| .old rfl rfl <| .old rfl rfl <| .new rfl <| .new rfl <| .nil)
  obtain ⟨g8, e8, _⟩ := hk5.ex 14 rfl
  replace hfr5 := hfr5.cons e8
  replace hst5 := hst5.fin (L' := [_, _, _]) (.cons e8 <| .cons e8 <| .nil)
  clear hst4 hfr4 hk5
  refine hK7 _ _ ?_; try clear hK7 K7
  refine seq_any fun K9 hK9 => ?_
  refine region_plain (fun h => by cases h) hst5 hfr5 (by kernel_rfl) (by kernel_rfl) (.cons rfl (ob_loadLS' (j := 0) rfl rfl Try.isAgg52 Try.sizeOf52 rfl rfl) <|
      .cons rfl (ob_move rfl) <|
      .cons rfl (ob_callE rfl (.cons rfl <| .cons rfl <| .nil) Try.call23 (fun w m hK => by exact (show FnV Try.prog _ _ _ _ (fun _ _ v => v = .tuple #[.int .i64 0, .bool false]) from first_cI (l := []) (e := e) (KC.agree hK) rfl (by simp)))) <|
      .cons rfl (ob_move rfl) <|
      .cons rfl (ob_extract rfl rfl) <|
      .cons rfl (ob_extract rfl rfl) <|
      .cons rfl (ob_assign rfl) <|
      .cons rfl (ob_assign rfl) <|
      .nil) ?_
  intro a6 w6 m6 hst6 hle6 hk6
  have hfr6 := hk6.fr (T' := [(0, _), (1, _), (2, _), (6, _), (7, _), (8, _), (9, _), (10, _), (12, _), (11, _), (13, _), (15, _), (14, _), (16, _), (17, _)]) (.old rfl rfl <| .old rfl rfl <| .old rfl rfl <| .old rfl rfl <| .old rfl rfl <| .old rfl rfl <| .old rfl rfl <| .old rfl rfl <| .old rfl rfl <| .old rfl rfl <| .old rfl rfl <| .old rfl rfl <| .old rfl rfl <| .new rfl <| .new rfl <| .nil)
  clear hst5 hfr5 hk6
  refine hK9 _ _ ?_; try clear hK9 K9
  refine seq_any fun K10 hK10 => ?_
  replace hst6 := hst6.more (r := .free) trivial List.nodup_nil (by simp [Res.blocks])
  refine region_any (tch := [(4, 3, (fun v => .blk v _)), (5, 3, (fun v => .blkx v _ _))]) (fun h => by cases h) hst6 hfr6 (by kernel_rfl) (by kernel_rfl) (by kernel_rfl) (.cons rfl (ob_loadLS' (j := 0) rfl rfl Try.isAgg52 Try.sizeOf52 rfl rfl) <|
      .cons rfl (ob_move rfl) <|
      .cons rfl (ob_move rfl) <|
      .cons rfl (ob_call (φ := MP.mem (fun a => .agg #[.pointer a]) (fun a m => Chain m ([⟨e, k, .int .i64 5⟩] : List VE) a) (fun hm h => h.mono hm)) rfl (.cons rfl <| .cons rfl <| .cons rfl <| .cons rfl <| .nil) Try.call24 (fun w m hK => by exact FnG.mono (push_cI (l := []) (e := e) (n := k) (k := 5) (KC.agree hK) rfl (by simp)) fun _ _ _ _ h => h)) <|
      .consT rfl rfl (fun _ => rfl) rfl (ob_allocL Try.zeroValue52 rfl) <|
      .consT rfl rfl (fun _ => rfl) rfl (ob_imgT 18 rfl rfl rfl fun y18 => ob_imgTX 47 rfl rfl rfl fun y47 => ob_storeF rfl rfl rfl rfl Try.sizeOf52 rfl rfl rfl) <|
      .nil) ?_
  intro a7 w7 m7 hst7 hle7 hk7
  have hfr7 := hk7.fr (T' := [(0, _), (1, _), (2, _), (6, _), (7, _), (8, _), (9, _), (10, _), (12, _), (11, _), (13, _), (15, _), (14, _), (16, _), (17, _)]) (.old rfl rfl <| .old rfl rfl <| .old rfl rfl <| .old rfl rfl <| .old rfl rfl <| .old rfl rfl <| .old rfl rfl <| .old rfl rfl <| .old rfl rfl <| .old rfl rfl <| .old rfl rfl <| .old rfl rfl <| .old rfl rfl <| .old rfl rfl <| .old rfl rfl <| .nil)
  obtain ⟨g11, e11, _⟩ := hk7.ex 18 rfl
  replace hfr7 := hfr7.cons e11
  replace hst7 := hst7.fin (L' := [_, _, _, _]) (.cons e11 <| .cons e11 <| .nil)
  obtain ⟨y6, hy6, hst7⟩ := hst7.unx (k := 3) rfl (fun _ => rfl)
  clear hst6 hfr6 hk7
  refine hK10 _ _ ?_; try clear hK10 K10
  refine seq_any fun K13 hK13 => ?_
  replace hst7 := hst7.more (r := .free) trivial List.nodup_nil (by simp [Res.blocks])
  refine region_any (tch := [(7, 4, (fun v => .blk v _)), (9, 4, (fun v => .blkx v _ _))]) (fun h => by cases h) hst7 hfr7 (by kernel_rfl) (by kernel_rfl) (by kernel_rfl) (.cons rfl (ob_loadLS' (j := 3) rfl rfl Try.isAgg52 Try.sizeOf52 rfl rfl) <|
      .cons rfl (ob_move rfl) <|
      .cons rfl (ob_call (φ := MP.mem (fun o => .tuple #[.int .i64 5, .agg #[.pointer o], .bool true]) (fun o m => Chain m [] o) (fun hm h => h.mono hm)) rfl (.cons rfl <| .cons rfl <| .nil) Try.call22 (fun w m hK => by exact FnG.mono (at_someI (l := ([⟨e, k, .int .i64 5⟩] : List VE)) (k := k) (x := ⟨e, k, .int .i64 5⟩) (xs := []) (KC.agree hK) (hy6.mono (KC.le hK)) (by simp [List.dropWhile])) fun _ _ _ _ h => h)) <|
      .cons rfl (ob_imgV 51 rfl rfl rfl fun y51 => ob_move rfl) <|
      .cons rfl (ob_imgV 48 rfl rfl rfl fun y48 => ob_extract rfl rfl) <|
      .cons rfl (ob_imgV 48 rfl rfl rfl fun y48 => ob_extract rfl rfl) <|
      .cons rfl (ob_imgV 48 rfl rfl rfl fun y48 => ob_extract rfl rfl) <|
      .consT rfl rfl (fun _ => rfl) rfl (ob_allocL Try.zeroValue52 rfl) <|
      .consA 52 rfl rfl <|
      .consT rfl rfl (fun _ => rfl) rfl (ob_imgT 20 rfl rfl rfl fun y20 => ob_imgTX 53 rfl rfl rfl fun y53 => ob_storeF rfl rfl rfl rfl Try.sizeOf52 rfl rfl rfl) <|
      .consA 54 rfl rfl <|
      .nil) ?_
  intro a8 w8 m8 hst8 hle8 hk8
  have hfr8 := hk8.fr (T' := [(0, _), (1, _), (2, _), (6, _), (7, _), (8, _), (9, _), (10, _), (12, _), (11, _), (13, _), (15, _), (14, _), (16, _), (17, _), (18, _)]) (.old rfl rfl <| .old rfl rfl <| .old rfl rfl <| .old rfl rfl <| .old rfl rfl <| .old rfl rfl <| .old rfl rfl <| .old rfl rfl <| .old rfl rfl <| .old rfl rfl <| .old rfl rfl <| .old rfl rfl <| .old rfl rfl <| .old rfl rfl <| .old rfl rfl <| .old rfl rfl <| .nil)
  obtain ⟨y14, e14, hy14⟩ := hk8.ex 52 rfl
  replace hfr8 := hfr8.cons e14
  obtain ⟨y15, e15, hy15⟩ := hk8.ex 54 rfl
  replace hfr8 := hfr8.cons e15
  obtain ⟨g16, e16, _⟩ := hk8.ex 20 rfl
  replace hfr8 := hfr8.cons e16
  replace hfr8 := hfr8.cons (hk8.same 19 rfl e14)
  replace hfr8 := hfr8.cons (hk8.same 21 rfl e15)
  replace hst8 := hst8.fin (L' := [_, _, _, _, _]) (.cons e16 <| .cons e16 <| .nil)
  obtain ⟨y7, hy7, hst8⟩ := hst8.unx (k := 4) rfl (fun _ => rfl)
  replace hy6 := hy6.mono hle8
  clear hst7 hfr7 hk8
  refine hK13 _ _ ?_; try clear hK13 K13
  refine seq_any fun K18 hK18 => ?_
  refine region_plain (fun h => by cases h) hst8 hfr8 (by kernel_rfl) (by kernel_rfl) (.cons rfl (ob_move rfl) <|
      .cons rfl (ob_move rfl) <|
      .cons rfl (ob_move rfl) <|
      .cons rfl (ob_eql rfl rfl) <|
      .cons rfl (ob_and rfl rfl rfl) <|
      .cons rfl (ob_move rfl) <|
      .cons rfl (ob_move rfl) <|
      .cons rfl (ob_eql rfl rfl) <|
      .cons rfl (ob_and rfl rfl rfl) <|
      .cons rfl (ob_move rfl) <|
      .cons rfl (ob_loadLS' (j := 1) rfl rfl Try.isAgg52 Try.sizeOf52 rfl rfl) <|
      .cons rfl (ob_callE rfl (.cons rfl <| .nil) Try.call25 (fun w m hK => by exact len_cI (l := []) (KC.agree hK) rfl)) <|
      .cons rfl (ob_eql rfl rfl) <|
      .cons rfl (ob_and rfl rfl rfl) <|
      .cons rfl (ob_move rfl) <|
      .cons rfl (ob_move rfl) <|
      .cons rfl (ob_not rfl) <|
      .cons rfl (ob_and rfl rfl rfl) <|
      .cons rfl (ob_move rfl) <|
      .cons rfl (ob_move rfl) <|
      .cons rfl (ob_eql rfl rfl) <|
      .cons rfl (ob_and rfl rfl rfl) <|
      .cons rfl (ob_move rfl) <|
      .cons rfl (ob_loadLS' (j := 2) rfl rfl Try.isAgg52 Try.sizeOf52 rfl rfl) <|
      .cons rfl (ob_callE rfl (.cons rfl <| .nil) Try.call25 (fun w m hK => by exact len_cI (l := []) (KC.agree hK) rfl)) <|
      .cons rfl (ob_eql rfl rfl) <|
      .cons rfl (ob_and rfl rfl rfl) <|
      .cons rfl (ob_move rfl) <|
      .cons rfl (ob_move rfl) <|
      .cons rfl (ob_not rfl) <|
      .cons rfl (ob_and rfl rfl rfl) <|
      .cons rfl (ob_move rfl) <|
      .cons rfl (ob_move rfl) <|
      .cons rfl (ob_eql rfl rfl) <|
      .cons rfl (ob_and rfl rfl rfl) <|
      .cons rfl (ob_move rfl) <|
      .cons rfl (ob_move rfl) <|
      .cons rfl (ob_not rfl) <|
      .cons rfl (ob_and rfl rfl rfl) <|
      .cons rfl (ob_move rfl) <|
      .cons rfl (ob_loadLS' (j := 0) rfl rfl Try.isAgg52 Try.sizeOf52 rfl rfl) <|
      .cons rfl (ob_move rfl) <|
      .cons rfl (ob_call (φ := MP.mem (fun a => .agg #[.pointer a]) (fun a m => Chain m [] a) (fun hm h => h.mono hm)) rfl (.cons rfl <| .cons rfl <| .nil) Try.call26 (fun w m hK => by exact FnG.mono ((drop_cI (l := []) (KC.agree hK) rfl hn).mono fun _ _ _ _ ⟨o, e, h⟩ => ⟨o, e, by rw [List.drop_nil] at h; exact h⟩) fun _ _ _ _ h => h)) <|
      .cons rfl (ob_imgE 97 rfl rfl rfl fun y97 => ob_callE rfl (.cons rfl <| .nil) Try.call25 (fun w m hK => by exact len_cI (l := []) (KC.agree hK.1) hK.2)) <|
      .cons rfl (ob_eql rfl rfl) <|
      .cons rfl (ob_and rfl rfl rfl) <|
      .cons rfl (ob_move rfl) <|
      .cons rfl (ob_loadLS' (j := 0) rfl rfl Try.isAgg52 Try.sizeOf52 rfl rfl) <|
      .cons rfl (ob_call (φ := MP.mem (fun y : Option Addr × Nat => .slice y.1 0 y.2) (fun _ _ => True) (fun _ h => h)) rfl (.cons rfl <| .nil) Try.call27 (fun w m hK => by exact FnG.mono ((markers_cI (l := []) (KC.agree hK) rfl (by simp)).mono fun _ _ _ _ ⟨y, e, _⟩ => ⟨y, e, trivial⟩) fun _ _ _ _ h => h)) <|
      .cons rfl (ob_imgE 103 rfl rfl rfl fun y103 => ob_len rfl Try.underlying41) <|
      .cons rfl (ob_eql rfl rfl) <|
      .cons rfl (ob_and rfl rfl rfl) <|
      .cons rfl (ob_move rfl) <|
      .cons rfl (ob_move rfl) <|
      .cons rfl (ob_eql rfl rfl) <|
      .cons rfl (ob_and rfl rfl rfl) <|
      .cons rfl (ob_move rfl) <|
      .cons rfl (ob_loadLS' (j := 4) rfl rfl Try.isAgg52 Try.sizeOf52 rfl rfl) <|
      .cons rfl (ob_callE rfl (.cons rfl <| .nil) Try.call25 (fun w m hK => by exact len_cI (l := []) (KC.agree hK) (hy7.mono (KC.le hK)))) <|
      .cons rfl (ob_eql rfl rfl) <|
      .cons rfl (ob_and rfl rfl rfl) <|
      .cons rfl (ob_move rfl) <|
      .cons rfl (ob_move rfl) <|
      .cons rfl (ob_and rfl rfl rfl) <|
      .cons rfl (ob_move rfl) <|
      .cons rfl (ob_loadLS' (j := 3) rfl rfl Try.isAgg52 Try.sizeOf52 rfl rfl) <|
      .cons rfl (ob_callE rfl (.cons rfl <| .nil) Try.call25 (fun w m hK => by exact len_cI (l := ([⟨e, k, .int .i64 5⟩] : List VE)) (KC.agree hK) (hy6.mono (KC.le hK)))) <|
      .cons rfl (ob_eql rfl rfl) <|
      .cons rfl (ob_and rfl rfl rfl) <|
      .cons rfl (ob_assign rfl) <|
      .nil) ?_
  intro a9 w9 m9 hst9 hle9 hk9
  have hfr9 := hk9.fr (T' := [(0, _), (1, _), (2, _), (7, _), (8, _), (9, _), (10, _), (12, _), (11, _), (13, _), (15, _), (14, _), (16, _), (17, _), (18, _), (20, _), (19, _), (21, _), (6, _)]) (.old rfl rfl <| .old rfl rfl <| .old rfl rfl <| .old rfl rfl <| .old rfl rfl <| .old rfl rfl <| .old rfl rfl <| .old rfl rfl <| .old rfl rfl <| .old rfl rfl <| .old rfl rfl <| .old rfl rfl <| .old rfl rfl <| .old rfl rfl <| .old rfl rfl <| .old rfl rfl <| .old rfl rfl <| .old rfl rfl <| .new rfl <| .nil)
  replace hy6 := hy6.mono hle9
  replace hy7 := hy7.mono hle9
  clear hst8 hfr8 hk9
  refine hK18 _ _ ?_; try clear hK18 K18
  refine wp_ret ?_
  repeat (with_reducible first | refine then_ret ?_ | refine block_ret ?_)
  exact fn_ret hst9 hfr9 rfl (.tmp rfl <| .nil) (by simp [bundle])

end Go.Proofs.Ytibkcojlgbmlhaa
