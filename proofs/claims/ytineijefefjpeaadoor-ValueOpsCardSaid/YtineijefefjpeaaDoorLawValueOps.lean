/-
  'brocadelaw11': the walk of the law. Conditions: those of each theorem.
-/
import Derived.Test.YtineijefefjpeaaDoorShown1
namespace Go.Proofs.YtineijefefjpeaaDoor
set_option linter.all false
open Go.RowKit
open Go.Lib (itoa formatBool decDigits)
theorem opRes_ok (s : Str) (a b : Int) : ∃ k n, (opRes s a b).1 = Vl k n [] nilK ∧ InI64 k ∧ InI64 n := by
  have hw : ∀ z, InI64 (IntKind.i64.wrap z) := fun z => by rw [IntKind.wrap_i64]; exact ⟨by omega, by omega⟩
  have h01 : ∀ c : Prop, [Decidable c] → InI64 (if c then 1 else 0) := fun c _ => by split <;> exact ⟨by omega, by omega⟩
  unfold opRes
  repeat' split
  all_goals exact ⟨_, _, rfl, ⟨by omega, by omega⟩, by first | exact hw _ | exact ⟨by omega, by omega⟩⟩
theorem sameV_self (t : VT) : sameV t t = true := by
  induction t using VT.rec_ with
  | h t ih =>
    have key : ∀ l : List VT, (∀ u ∈ l, u ∈ t.kids) → sameL l l = true := by
      intro l
      induction l with
      | nil => intro _; simp [sameL]
      | cons x xs ihx => intro hl; simp [sameL, ih x (hl x (.head _)), ihx fun u hu => hl u (.tail _ hu)]
    rw [sameV_eq, key t.kids fun u hu => hu]; simp

set_option maxHeartbeats 400000 in
theorem valueOps_c {w : World} {m : Mem} {s : Str} {a : Int} {b : Int} (hA : Agree w m) (hT : Tab w) (ha : InI64 a) (hb : InI64 b) : FnV Tryd.prog 4 #[S s, .int .i64 a, .int .i64 b] w m (fun _ _ v => v = .bool true) := by
  refine fn_enter (vs := [_, _, _]) Tryd.func4 rfl rfl rfl fun a0 hfr0 => ?_
  have hst0 := st_enter hA (loc_nil [] _ w m)
  have hM : MLe m m := MLe.refl m
  obtain ⟨kk, nn, ek, hkk, hnn⟩ := opRes_ok s a b
  refine seq_any fun K1 hK1 => ?_
  refine region_plain (fun h => by cases h) hst0 hfr0 (by kernel_rfl) (by kernel_rfl) (.cons rfl (ob_assign rfl) <|
      .nil) ?_
  intro a1 w1 m1 hst1 hle1 hk1
  have hfr1 := hk1.fr (T' := [(0, _), (1, _), (2, _), (6, _)]) (.old rfl rfl <| .old rfl rfl <| .old rfl rfl <| .new rfl <| .nil)
  replace hM := hM.trans hle1
  clear hst0 hfr0 hk1
  refine hK1 _ _ ?_; try clear hK1 K1
  refine seq_any fun K2 hK2 => ?_
  refine region_plain (fun h => by cases h) hst1 hfr1 (by kernel_rfl) (by kernel_rfl) (.cons rfl (ob_callE rfl (.nil) Tryd.call11 (fun w m hK => by have hle_ := KC.le hK; have hA := KC.agree hK; have hM := hM.trans hle_; have hT := tab_keep hT hK.st.ext; exact shown_c hA (by first | assumption | omega | simp_all))) <|
      .cons rfl (ob_assign rfl) <|
      .nil) ?_
  intro a2 w2 m2 hst2 hle2 hk2
  have hfr2 := hk2.fr (T' := [(0, _), (1, _), (2, _), (6, _), (7, _)]) (.old rfl rfl <| .old rfl rfl <| .old rfl rfl <| .old rfl rfl <| .new rfl <| .nil)
  replace hM := hM.trans hle2
  clear hst1 hfr1 hk2
  refine hK2 _ _ ?_; try clear hK2 K2
  refine seq_any fun K3 hK3 => ?_
  replace hst2 := hst2.more (r := .free) trivial List.nodup_nil (by simp [Res.blocks])
  refine region_any (tch := [(7, 0, (fun v => .blk v _)), (8, 0, (fun v => .blk v _))]) (fun h => by cases h) hst2 hfr2 (by kernel_rfl) (by kernel_rfl) (by kernel_rfl) (.cons rfl (ob_move rfl) <|
      .cons rfl (ob_move rfl) <|
      .cons rfl (ob_move rfl) <|
      .cons rfl (ob_callE rfl (.cons rfl <| .cons rfl <| .cons rfl <| .nil) Tryd.call20 (fun w m hK => by have hle_ := KC.le hK; have hA := KC.agree hK; have hM := hM.trans hle_; have hT := tab_keep hT hK.st.ext; exact (show FnV Tryd.prog _ _ _ _ (fun _ _ v => v = .tuple #[Vl kk nn [] nilK, .bool (opRes s a b).2]) from by rw [← ek]; exact op_c hA))) <|
      .cons rfl (ob_move rfl) <|
      .cons rfl (ob_extract rfl rfl) <|
      .cons rfl (ob_extract rfl rfl) <|
      .consT rfl rfl (fun _ => rfl) rfl (ob_allocL Tryd.zeroValue24 rfl) <|
      .consT rfl rfl (fun _ => rfl) rfl (ob_imgT 8 rfl rfl rfl fun y8 => ob_storeF rfl rfl rfl rfl Tryd.sizeOf24 rfl rfl rfl) <|
      .cons rfl (ob_assign rfl) <|
      .nil) ?_
  intro a3 w3 m3 hst3 hle3 hk3
  have hfr3 := hk3.fr (T' := [(0, _), (1, _), (2, _), (6, _), (7, _), (9, _)]) (.old rfl rfl <| .old rfl rfl <| .old rfl rfl <| .old rfl rfl <| .old rfl rfl <| .new rfl <| .nil)
  obtain ⟨g4, e4, _⟩ := hk3.ex 8 rfl
  replace hfr3 := hfr3.cons e4
  replace hst3 := hst3.fin (L' := [_]) (.cons e4 <| .cons e4 <| .nil)
  replace hM := hM.trans hle3
  clear hst2 hfr2 hk3
  refine hK3 _ _ ?_; try clear hK3 K3
  refine seq_any fun K5 hK5 => ?_
  replace hst3 := hst3.more (r := .free) trivial List.nodup_nil (by simp [Res.blocks])
  refine region_any (tch := [(7, 1, (fun v => .blk v _)), (8, 1, (fun v => .blk v _))]) (fun h => by cases h) hst3 hfr3 (by kernel_rfl) (by kernel_rfl) (by kernel_rfl) (.cons rfl (ob_move rfl) <|
      .cons rfl (ob_move rfl) <|
      .cons rfl (ob_move rfl) <|
      .cons rfl (ob_callE rfl (.cons rfl <| .cons rfl <| .cons rfl <| .nil) Tryd.call21 (fun w m hK => by have hle_ := KC.le hK; have hA := KC.agree hK; have hM := hM.trans hle_; have hT := tab_keep hT hK.st.ext; exact (show FnV Tryd.prog _ _ _ _ (fun _ _ v => v = .tuple #[Vl kk nn [] nilK, .bool (opRes s a b).2]) from by rw [← ek]; exact rop_c hA ha hb))) <|
      .cons rfl (ob_move rfl) <|
      .cons rfl (ob_extract rfl rfl) <|
      .cons rfl (ob_extract rfl rfl) <|
      .consT rfl rfl (fun _ => rfl) rfl (ob_allocL Tryd.zeroValue24 rfl) <|
      .consT rfl rfl (fun _ => rfl) rfl (ob_imgT 10 rfl rfl rfl fun y10 => ob_storeF rfl rfl rfl rfl Tryd.sizeOf24 rfl rfl rfl) <|
      .cons rfl (ob_assign rfl) <|
      .nil) ?_
  intro a4 w4 m4 hst4 hle4 hk4
  have hfr4 := hk4.fr (T' := [(0, _), (1, _), (2, _), (6, _), (7, _), (9, _), (8, _), (11, _)]) (.old rfl rfl <| .old rfl rfl <| .old rfl rfl <| .old rfl rfl <| .old rfl rfl <| .old rfl rfl <| .old rfl rfl <| .new rfl <| .nil)
  obtain ⟨g6, e6, _⟩ := hk4.ex 10 rfl
  replace hfr4 := hfr4.cons e6
  replace hst4 := hst4.fin (L' := [_, _]) (.cons e6 <| .cons e6 <| .nil)
  replace hM := hM.trans hle4
  clear hst3 hfr3 hk4
  refine hK5 _ _ ?_; try clear hK5 K5
  refine seq_any fun K7 hK7 => ?_
  refine region_plain (fun h => by cases h) hst4 hfr4 (by kernel_rfl) (by kernel_rfl) (.cons rfl (ob_move rfl) <|
      .cons rfl (ob_move rfl) <|
      .cons rfl (ob_move rfl) <|
      .cons rfl (ob_move rfl) <|
      .cons rfl (ob_beql rfl rfl Tryd.underlying4) <|
      .cons rfl (ob_and rfl rfl rfl) <|
      .cons rfl (ob_move rfl) <|
      .cons rfl (ob_loadLS' (j := 0) rfl rfl Tryd.isAgg24 Tryd.sizeOf24 rfl rfl) <|
      .cons rfl (ob_loadLS' (j := 1) rfl rfl Tryd.isAgg24 Tryd.sizeOf24 rfl rfl) <|
      .cons rfl (ob_callE rfl (.cons rfl <| .cons rfl <| .nil) Tryd.call19 (fun w m hK => by have hle_ := KC.le hK; have hA := KC.agree hK; have hM := hM.trans hle_; have hT := tab_keep hT hK.st.ext; exact rsame_c ⟨kk, nn, [], []⟩ (u := ⟨kk, nn, [], []⟩) hA (VR.leaf hkk hnn) (VR.leaf hkk hnn))) <|
      .cons rfl (ob_and rfl rfl rfl) <|
      .cons rfl (ob_assign rfl) <|
      .nil) ?_
  intro a5 w5 m5 hst5 hle5 hk5
  have hfr5 := hk5.fr (T' := [(0, _), (1, _), (2, _), (7, _), (9, _), (8, _), (11, _), (10, _), (6, _)]) (.old rfl rfl <| .old rfl rfl <| .old rfl rfl <| .old rfl rfl <| .old rfl rfl <| .old rfl rfl <| .old rfl rfl <| .old rfl rfl <| .new rfl <| .nil)
  replace hM := hM.trans hle5
  clear hst4 hfr4 hk5
  refine hK7 _ _ ?_; try clear hK7 K7
  refine wp_ret ?_
  repeat (with_reducible first | refine then_ret ?_ | refine block_ret ?_)
  exact fn_ret hst5 hfr5 rfl (.tmp rfl <| .nil) (by refine congrArg Value.bool ?_; rw [sameV_self]; simp)

end Go.Proofs.YtineijefefjpeaaDoor
