/-
  What must be in any case (chapter 14). Conditions: those of the theorem.
-/
import Derived.Test.YteamjgbhcjojaaaDoorRen4
namespace Go.Proofs.YteamjgbhcjojaaaDoor
set_option linter.all false
set_option maxRecDepth 4000
open Go.RowKit
set_option maxHeartbeats 3200000 in
theorem shown_c {w : World} {m : Mem}  (hA : Agree w m) (hT : Tab w) : FnV Tryd.prog 7 #[] w m (fun _ _ v => v = .bool true) := by
  refine fn_enter (vs := []) Tryd.func7 rfl rfl rfl fun a0 hfr0 => ?_
  have hst0 := st_enter hA (loc_nil [] _ w m)
  have hM : MLe m m := MLe.refl m
  refine seq_any fun _ hK1 => ?_
  refine rp0 hst0 hfr0 (.cons rfl (ob_assign rfl) <| .nil) ?_
  intro a1 w1 m1 hst1 hle1 hk1
  have hfr1 := hk1.fr (T' := []) (.nil)
  clear hst0 hfr0 hk1
  refine hK1 _ _ ?_; clear hK1
  refine seq_any fun _ hK2 => ?_
  replace hst1 := hst1.more (r := .free) trivial List.nodup_nil (by simp [Res.blocks])
  refine ra0 (tch := [(4, 0, (fun v => .blk v _)), (5, 0, (fun v => .blkx v _ _))]) hst1 hfr1 (.cons rfl (ob_call (φ := MP.tm (varT [120])) rfl (.cons rfl <| .nil) Tryd.call19 (fun w m hK => by have hle_ := KC.le hK; have hA := KC.agree hK; exact FnG.mono (v_c (s := [120]) hA) fun _ _ _ _ h => h)) <| .cons rfl (ob_imgE 2 rfl rfl rfl fun y2 => ob_call (φ := MP.tm (funT [120] (varT [120]))) rfl (.cons rfl <| .cons rfl <| .nil) Tryd.call17 (fun w m hK => by have hle_ := KC.le hK; have hA := KC.agree hK; have hr0_ := hK.2; exact FnG.mono (fun_c (s := [120]) (t := (varT [120])) hA hr0_) fun _ _ _ _ h => h)) <| .cons rfl (ob_imgE 3 rfl rfl rfl fun y3 => ob_call (φ := MP.tm (funT [120] (funT [120] (varT [120])))) rfl (.cons rfl <| .cons rfl <| .nil) Tryd.call17 (fun w m hK => by have hle_ := KC.le hK; have hA := KC.agree hK; have hr0_ := hK.2; exact FnG.mono (fun_c (s := [120]) (t := (funT [120] (varT [120]))) hA hr0_) fun _ _ _ _ h => h)) <| .cons rfl (ob_imgE 4 rfl rfl rfl fun y4 => ob_call (φ := MP.tm (apartM (funT [120] (funT [120] (varT [120]))))) rfl (.cons rfl <| .nil) Tryd.call10 (fun w m hK => by have hle_ := KC.le hK; have hA := KC.agree hK; have hT := tab_keep hT hK.1.st.ext; have hr0_ := hK.2; exact FnG.mono (apart_c (t := (funT [120] (funT [120] (varT [120])))) hA hr0_ hT (.fun_ _ (.fun_ _ (.var _))) (by decide)) fun _ _ _ _ h => h)) <| .consT rfl rfl (fun _ => rfl) rfl (ob_allocL Tryd.zeroValue33 rfl) <| .consT rfl rfl (fun _ => rfl) rfl (ob_imgT 1 rfl rfl rfl fun y1 => ob_imgTX 5 rfl rfl rfl fun y5 => ob_storeKF rfl rfl rfl rfl rfl Tryd.sizeOf33 rfl rfl (fun w m hK => hK.2.one)) <| .nil) ?_
  intro a2 w2 m2 hst2 hle2 hk2
  have hfr2 := hk2.fr (T' := []) (.nil)
  obtain ⟨g3, e3, _⟩ := hk2.ex 1 rfl
  replace hfr2 := hfr2.cons e3
  replace hst2 := hst2.fin (L' := [_]) (.cons e3 <| .cons e3 <| .nil)
  try simp only [List.take_succ_cons, List.take_zero, List.drop_succ_cons, List.drop_zero, List.cons_append, List.nil_append, List.append_nil, List.length_cons, List.length_nil, Nat.zero_add, Nat.reduceAdd] at hst2
  obtain ⟨yb, hcb, hst2⟩ := hst2.unx (k := 0) rfl (fun _ => rfl)
  clear hst1 hfr1 hk2
  dsimp only at hcb hst2
  rw [apart_shown] at hcb hst2
  obtain ⟨oK_1, cK_1, oA_1, cA_1, oR_1, cR_1, t0_1, t1_1, t2_1, t3_1, t4_1, t5_1, u0_1, u1_1, u2_1, u3_1, u4_1, u5_1⟩ := yb
  obtain ⟨hon_1, hkk_1, haa_1, hrr_1⟩ := hcb.openY
  dsimp only at hkk_1 haa_1
  have hl1 : shT1.kids.length = 1 := rfl
  refine hK2 _ _ ?_; clear hK2
  refine seq_any fun _ hK5 => ?_
  obtain ⟨p6, vs6, x6, ho6, hd6, hm_x6, ht6, hcv6, hl6, hv6⟩ := hkk_1.nth (k := 0) (by omega)
  cases ho6
  obtain ⟨⟨oK6, cK6, oA6, cA6, oR6, cR6, t06, t16, t26, t36, t46, t56, u06, u16, u26, u36, u46, u56⟩, rfl, hon6, hkk6, haa6, hrr6⟩ := hv6.open_
  dsimp only at hkk6 haa6 hrr6
  have hbg6 := hkk6.big; have hcp6 := hkk6.cap; have hbh6 := haa6.big; have hcq6 := haa6.cap
  have hx9 : x6 = shT2 := by injection hd6 with h; exact h.symm
  have hl2 : x6.kids.length = 1 := by rw [hx9]; rfl
  obtain ⟨p7, vs7, x7, ho7, hd7, hm_x7, ht7, hcv7, hl7, hv7⟩ := hkk6.nth (k := 0) (by omega)
  cases ho7
  obtain ⟨⟨oK7, cK7, oA7, cA7, oR7, cR7, t07, t17, t27, t37, t47, t57, u07, u17, u27, u37, u47, u57⟩, rfl, hon7, hkk7, haa7, hrr7⟩ := hv7.open_
  dsimp only at hkk7 haa7 hrr7
  have hbg7 := hkk7.big; have hcp7 := hkk7.cap; have hbh7 := haa7.big; have hcq7 := haa7.cap
  have hz9 : x7 = shT3 := by rw [hx9] at hd7; injection hd7 with h; exact h.symm
  refine rp0 hst2 hfr2 (.cons rfl (ob_fieldAddrO (off := 2) rfl Tryd.underlying33 rfl rfl Tryd.sizeOf9 rfl) <| .cons rfl (ob_loadL (j := 0) rfl rfl Tryd.isAgg9 rfl) <| .cons rfl (ob_seql rfl rfl) <| .cons rfl (ob_move rfl) <| .cons rfl (ob_fieldAddrO (off := 5) rfl Tryd.underlying33 rfl rfl Tryd.sizeOf24 rfl) <| .cons rfl (ob_loadL (j := 0) rfl rfl Tryd.isAgg24 rfl) <| .cons rfl (ob_len rfl Tryd.underlying24) <| .cons rfl (ob_eql rfl rfl) <| .cons rfl (ob_and rfl rfl rfl) <| .cons rfl (ob_move rfl) <| .cons rfl (ob_fieldAddrO (off := 5) rfl Tryd.underlying33 rfl rfl Tryd.sizeOf24 rfl) <| .cons rfl (ob_loadL (j := 0) rfl rfl Tryd.isAgg24 rfl) <| .cons rfl (ob_indexAddr (k := 0) rfl rfl Tryd.underlying24 Tryd.sizeOf33 rfl (by omega)) <| .cons rfl (ob_fieldAddrO (off := 2) rfl Tryd.underlying33 rfl rfl Tryd.sizeOf9 rfl) <| .cons rfl (ob_load1 rfl hcv6 Tryd.isAgg9 rfl) <| .cons rfl (ob_seql rfl rfl) <| .cons rfl (ob_and rfl rfl rfl) <| .cons rfl (ob_move rfl) <| .cons rfl (ob_fieldAddrO (off := 5) rfl Tryd.underlying33 rfl rfl Tryd.sizeOf24 rfl) <| .cons rfl (ob_loadL (j := 0) rfl rfl Tryd.isAgg24 rfl) <| .cons rfl (ob_indexAddr (k := 0) rfl rfl Tryd.underlying24 Tryd.sizeOf33 rfl (by omega)) <| .cons rfl (ob_fieldAddrO (off := 5) rfl Tryd.underlying33 rfl rfl Tryd.sizeOf24 rfl) <| .cons rfl (ob_load1 rfl hcv6 Tryd.isAgg24 rfl) <| .cons rfl (ob_len rfl Tryd.underlying24) <| .cons rfl (ob_eql rfl rfl) <| .cons rfl (ob_and rfl rfl rfl) <| .cons rfl (ob_move rfl) <| .cons rfl (ob_fieldAddrO (off := 5) rfl Tryd.underlying33 rfl rfl Tryd.sizeOf24 rfl) <| .cons rfl (ob_loadL (j := 0) rfl rfl Tryd.isAgg24 rfl) <| .cons rfl (ob_indexAddr (k := 0) rfl rfl Tryd.underlying24 Tryd.sizeOf33 rfl (by omega)) <| .cons rfl (ob_fieldAddrO (off := 5) rfl Tryd.underlying33 rfl rfl Tryd.sizeOf24 rfl) <| .cons rfl (ob_load1 rfl hcv6 Tryd.isAgg24 rfl) <| .cons rfl (ob_indexAddr (k := 0) rfl rfl Tryd.underlying24 Tryd.sizeOf33 rfl (by omega)) <| .cons rfl (ob_fieldAddrO (off := 2) rfl Tryd.underlying33 rfl rfl Tryd.sizeOf9 rfl) <| .cons rfl (ob_load1 rfl hcv7 Tryd.isAgg9 rfl) <| .cons rfl (ob_seql rfl rfl) <| .cons rfl (ob_and rfl rfl rfl) <| .cons rfl (ob_move rfl) <| .cons rfl (ob_call (φ := MP.tm (varT [120])) rfl (.cons rfl <| .nil) Tryd.call19 (fun w m hK => by have hle_ := KC.le hK; have hA := KC.agree hK; exact FnG.mono (v_c (s := [120]) hA) fun _ _ _ _ h => h)) <| .cons rfl (ob_imgE 44 rfl rfl rfl fun y44 => ob_call (φ := MP.tm (funT [120] (varT [120]))) rfl (.cons rfl <| .cons rfl <| .nil) Tryd.call17 (fun w m hK => by have hle_ := KC.le hK; have hA := KC.agree hK; have hr0_ := hK.2; exact FnG.mono (fun_c (s := [120]) (t := varT [120]) hA hr0_) fun _ _ _ _ h => h)) <| .cons rfl (ob_call (φ := MP.tm (varT [121])) rfl (.cons rfl <| .nil) Tryd.call19 (fun w m hK => by have hle_ := KC.le hK; have hA := KC.agree hK; exact FnG.mono (v_c (s := [121]) hA) fun _ _ _ _ h => h)) <| .cons rfl (ob_imgE 46 rfl rfl rfl fun y46 => ob_call (φ := MP.tm (funT [121] (varT [121]))) rfl (.cons rfl <| .cons rfl <| .nil) Tryd.call17 (fun w m hK => by have hle_ := KC.le hK; have hA := KC.agree hK; have hr0_ := hK.2; exact FnG.mono (fun_c (s := [121]) (t := varT [121]) hA hr0_) fun _ _ _ _ h => h)) <| .cons rfl (ob_imgE 45 rfl rfl rfl fun y45 => ob_imgE 47 rfl rfl rfl fun y47 => ob_callE rfl (.cons rfl <| .cons rfl <| .nil) Tryd.call11 (fun w m hK => by have hle_ := KC.le hK; have hA := KC.agree hK; have hr0_ := hK.2; have hr1_ := hK.1.2; exact alikeF_c (a := funT [120] (varT [120])) (b := funT [121] (varT [121])) hA hr1_ hr0_ (by decide) (by decide))) <| .cons rfl (ob_and rfl rfl rfl) <| .cons rfl (ob_move rfl) <| .cons rfl (ob_call (φ := MP.tm (varT [120])) rfl (.cons rfl <| .nil) Tryd.call19 (fun w m hK => by have hle_ := KC.le hK; have hA := KC.agree hK; exact FnG.mono (v_c (s := [120]) hA) fun _ _ _ _ h => h)) <| .cons rfl (ob_call (φ := MP.tm (varT [121])) rfl (.cons rfl <| .nil) Tryd.call19 (fun w m hK => by have hle_ := KC.le hK; have hA := KC.agree hK; exact FnG.mono (v_c (s := [121]) hA) fun _ _ _ _ h => h)) <| .cons rfl (ob_imgE 51 rfl rfl rfl fun y51 => ob_imgE 52 rfl rfl rfl fun y52 => ob_callE rfl (.cons rfl <| .cons rfl <| .nil) Tryd.call11 (fun w m hK => by have hle_ := KC.le hK; have hA := KC.agree hK; have hr0_ := hK.2; have hr1_ := hK.1.2; exact alikeF_c (a := varT [120]) (b := varT [121]) hA hr1_ hr0_ (by decide) (by decide))) <| .cons rfl (ob_not rfl) <| .cons rfl (ob_and rfl rfl rfl) <| .cons rfl (ob_assign rfl) <| .nil) ?_
  intro a3 w3 m3 hst3 hle3 hk3
  have hfr3 := hk3.fr (T' := [(0, _)]) (.new rfl <| .nil)
  clear hst2 hfr2 hk3
  refine hK5 _ _ ?_; clear hK5
  refine wp_ret ?_
  repeat (with_reducible first | refine then_ret ?_ | refine block_ret ?_)
  exact fn_ret hst3 hfr3 rfl (.tmp rfl <| .nil) (by refine congrArg Value.bool ?_; rw [hx9, hz9, alike_sh1, alike_var]; decide)

end Go.Proofs.YteamjgbhcjojaaaDoor
