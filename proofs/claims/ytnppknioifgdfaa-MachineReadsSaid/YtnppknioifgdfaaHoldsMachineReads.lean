/-
  The law's proof, whole. Conditions: those of each theorem.
-/
import Derived.Test.YtnppknioifgdfaaSqD
import Derived.ProofKit
import Derived.Carry
import Derived.ChangeSame
import Derived.ShutString
import Derived.Deep.Slices
import Derived.Deep.Fields
import Derived.LaidSub
import Derived.MakeChecks
import Derived.LaidLaws
import Derived.Lib.LaidTab
import Derived.OpenShut
import Derived.Deep.DeepHandedRow
import Derived.Test.YtnppknioifgdfaaRows
namespace Go.Proofs.Ytnppknioifgdfaa
open Go.Proofs.Try
set_option linter.all false
set_option maxRecDepth 4000
open Go.RowKit
set_option maxHeartbeats 12800000 in
theorem run_c {w : World} {m : Mem} {c : Cd} {vs_c : List Value} {o_es : Option Addr} {c_es : Nat} {es : List Ef} {o_input : Option Addr} {c_input : Nat} {input : List Int} {fuel : Nat} {r : Rn} (hA : Agree w m) (h_c : CdR m c vs_c) (h_es : Efs m o_es es.length c_es es) (h_input : Ints m o_input input.length c_input input) (hin0 : ∀ n ∈ input, zq n) (hrun : runR c es input fuel = some r) (hli : input.length ≤ 1000000) (hfu : fuel ≤ 1000000) : FnV Try.prog 14 #[.agg vs_c.toArray, .slice o_es es.length c_es, .slice o_input input.length c_input, .int .i64 (fuel : Int)] w m (fun _ m v => (MP.rn r).p m v) := by
 obtain ⟨⟨oK_c, cK_c, oA_c, cA_c⟩, rfl, ⟨hik_c, hin_c⟩, hkk_c, haa_c⟩ := h_c.open_
 dsimp only at hkk_c haa_c
 have hbg_c := hkk_c.big; have hcp_c := hkk_c.cap; have hbh_c := haa_c.big; have hcq_c := haa_c.cap
 have hb_es := h_es.big; have hc_es := h_es.cap
 have hb_input := h_input.big; have hc_input := h_input.cap
 refine fn_enterM (vs := [_, _, _, _]) func14 rfl rfl fun a0 hfr0 => ?_
 have hst0 := zV hA (zg [] _ w m)
 have hM : MLe m m := MLe.refl m
 refine zB fun _ hK1 => ?_
 replace hst0 := hst0.more (r := .free) trivial List.nodup_nil (by simp [Res.blocks])
 refine ra0 (tch := [(1, 0, (fun v => .blk v _))]) hst0 hfr0 (.cons rfl (zt rfl rfl) <| .consT rfl rfl (fun _ => rfl) rfl (zQ zeroValue35 rfl) <| .nil) fun a1 w1 m1 hst1 hle1 hk1 => ?_
 have hfr1 := hk1.fr (.o 0 <| .o 1 <| .o 2 <| .o 3 <| .nil)
 obtain ⟨g4, e2, hc4⟩ := hk1.ex 4 rfl
 replace hfr1 := hfr1.cons e2
 obtain ⟨g8, e3, _⟩ := hk1.ex 8 rfl
 replace hfr1 := hfr1.cons e3
 replace hst1 := hst1.fin (L' := [_]) (.cons e3 <| .nil)
 replace h_c := h_c.mono hle1
 replace hkk_c := hkk_c.mono hle1
 replace haa_c := haa_c.mono hle1
 replace h_es := h_es.mono hle1
 replace h_input := h_input.mono hle1
 replace hM := hM.trans hle1
 clear hst0 hfr0 hk1
 refine hK1 _ _ ?_
 refine zB fun _ hK4 => ?_
 refine zB fun _ hK5 => ?_
 refine rp0 hst1 hfr1 (.cons rfl (zc rfl hc4 isAgg25 sizeOf25 rfl rfl) <| .cons rfl (zZ rfl (.cons rfl <| .nil) call28 (fun w m hK => by have hle_ := KC.le hK; have hA := KC.agree hK; have h_c := h_c.mono hle_; exact right_c c hA h_c)) <| .cons rfl (zw rfl) <| .nil) fun a2 w2 m2 hst2 hle2 hk2 => ?_
 have hfr2 := hk2.fr (.o 0 <| .o 1 <| .o 2 <| .o 3 <| .o 4 <| .o 8 <| .n 17 <| .nil)
 replace h_c := h_c.mono hle2
 replace hkk_c := hkk_c.mono hle2
 replace haa_c := haa_c.mono hle2
 replace h_es := h_es.mono hle2
 replace h_input := h_input.mono hle2
 replace hc4 := hc4.mono hle2
 replace hM := hM.trans hle2
 clear hst1 hfr1 hk2
 refine hK5 _ _ ?_
 refine zE hfr2 rfl rfl (fun hb17 => ?_) (fun hb17 => ?_)
 ·try simp only [nqs] at hb17
  have hr0 : r = ⟨4, 0, 0, [], [], 0, 0⟩ := by unfold runR at hrun; rw [if_neg (by rw [hb17]; decide)] at hrun; injection hrun with hrun; exact hrun.symm
  refine zB fun _ hK6 => ?_
  refine ra0 (tch := [(2, 0, (fun _ => .blk _ _))]) hst2 hfr2 (.cons rfl (zP (.cons rfl <| .nil) underlying33 zeroValue33 (.cons sizeOf3 <| .cons sizeOf31 <| .nil) rfl) <| .cons rfl (zP (.cons rfl <| .nil) underlying35 zeroValue35 (.cons sizeOf33 <| .cons sizeOf26 <| .cons sizeOf3 <| .cons sizeOf3 <| .nil) rfl) <| .consT rfl rfl (fun _ => rfl) rfl (zY rfl rfl rfl sizeOf35 rfl rfl rfl) <| .nil) fun a3 w3 m3 hst3 hle3 hk3 => ?_
  have hfr3 := hk3.fr (.o 0 <| .o 1 <| .o 2 <| .o 3 <| .o 4 <| .o 8 <| .nil)
  replace hst3 := hst3.fin (L' := [_]) (.cons rfl <| .nil)
  try simp only [List.take_succ_cons, List.take_zero, List.drop_succ_cons, List.drop_zero, List.cons_append, List.nil_append, List.append_nil, List.length_cons, List.length_nil, Nat.zero_add, Nat.reduceAdd] at hst3
  clear hst2 hfr2 hk3
  refine hK6 _ _ ?_
  refine zN ?_
  repeat (with_reducible first | refine zH ?_ | refine zF ?_)
  exact zBS hst3 hfr3 rfl (.cell rfl (zh (zd (hst3.loc.at_ (k := 0) rfl)) isAgg35 sizeOf35) <| .nil) (by rw [hr0]; exact ⟨(none, 0), rfl, Sl.empty⟩)
 ·try simp only [nqs] at hb17
  obtain ⟨sF, hsF, heF⟩ : ∃ sF, Z7 fuel ((zBI input (zBL es)).goes c .nil) = some sF ∧ endM sF = some r := by unfold runR at hrun; rw [if_pos hb17] at hrun; cases hq : Z7 fuel ((zBI input (zBL es)).goes c .nil) with | none => rw [hq] at hrun; cases hrun | some s => rw [hq] at hrun; exact ⟨s, rfl, hrun⟩
  refine zR ?_
  refine hK4 _ _ ?_
  refine zB fun _ hK8 => ?_
  refine z1 3 (by kernel_rfl) ?_
  replace hst2 := hst2.more (r := .free) trivial List.nodup_nil (by simp [Res.blocks])
  refine zo (tch := [(2, 1, (fun v => .map v _))]) hst2 hfr2 (by kernel_rfl) (by kernel_rfl) (by kernel_rfl) (.cons rfl (zC rfl) <| .cons rfl (zp (φ := MP.ints input) rfl (.cons rfl <| .nil) call29 (fun w m hK => by have hle_ := KC.le hK; have hA := KC.agree hK; have h_input := h_input.mono hle_; exact FnG.mono (cloneI_c hA h_input hli) fun _ _ _ _ h => h)) <| .consT rfl rfl (fun _ => rfl) rfl (zBZ S) <| .nil) fun a3 w3 m3 hst3 hle3 hk3 => ?_
  have hfr3 := hk3.fr (.o 0 <| .o 1 <| .o 2 <| .o 3 <| .o 4 <| .o 8 <| .nil)
  obtain ⟨⟨oi9, ci9⟩, e9, hii9⟩ := hk3.ex 21 rfl
  replace hfr3 := hfr3.cons e9
  obtain ⟨gm9, e10, _⟩ := hk3.ex 22 rfl
  replace hfr3 := hfr3.cons e10
  replace hst3 := hst3.fin (L' := [_, _]) (.cons e10 <| .nil)
  clear hst2 hfr2 hk3
  dsimp only [MP.ints, MP.mapv, MP.mem] at hfr3 hii9
  refine zBd 2 (by kernel_rfl) ?_
  replace hst3 := hst3.more (r := .free) trivial List.nodup_nil (by simp [Res.blocks])
  refine zo (tch := [(1, 2, (fun v => .blk v _))]) hst3 hfr3 (by kernel_rfl) (by kernel_rfl) (by kernel_rfl) (.cons rfl (zP (.cons rfl <| .cons rfl <| .nil) underlying79 zeroValue79 (.cons sizeOf77 <| .cons sizeOf70 <| .cons sizeOf68 <| .cons sizeOf26 <| .cons sizeOf66 <| .cons sizeOf35 <| .nil) rfl) <| .consT rfl rfl (fun _ => rfl) rfl (ob_boxL rfl rfl) <| .nil) fun a4 w4 m4 hst4 hle4 hk4 => ?_
  have hfr4 := hk4.fr (.o 0 <| .o 1 <| .o 2 <| .o 3 <| .o 4 <| .o 8 <| .o 21 <| .o 22 <| .nil)
  obtain ⟨g24, e11, _⟩ := hk4.ex 24 rfl
  replace hfr4 := hfr4.cons e11
  replace hst4 := hst4.fin (L' := [_, _, _]) (.cons e11 <| .nil)
  clear hst3 hfr3 hk4
  replace hst4 := hst4.more (r := .free) trivial List.nodup_nil (by simp [Res.blocks])
  refine zo (tch := [(0, 3, (fun v => .blk v _)), (1, 3, (fun v => .blk v _))]) hst4 hfr4 (by kernel_rfl) (by kernel_rfl) (by kernel_rfl) (.consT rfl rfl (fun _ => rfl) rfl (zQ zeroValue64 rfl) <| .consT rfl rfl (fun _ => rfl) rfl (zf 9 rfl rfl rfl fun y9 => za rfl rfl rfl rfl rfl sizeOf64 rfl rfl rfl) <| .nil) fun a5 w5 m5 hst5 hle5 hk5 => ?_
  have hfr5 := hk5.fr (.o 0 <| .o 1 <| .o 2 <| .o 3 <| .o 4 <| .o 8 <| .o 21 <| .o 22 <| .o 24 <| .nil)
  obtain ⟨g9, e12, _⟩ := hk5.ex 9 rfl
  replace hfr5 := hfr5.cons e12
  replace hst5 := hst5.fin (L' := [_, _, _, _]) (.cons e12 <| .cons e12 <| .nil)
  try simp only [List.take_succ_cons, List.take_zero, List.drop_succ_cons, List.drop_zero, List.cons_append, List.nil_append, List.append_nil, List.length_cons, List.length_nil, Nat.zero_add, Nat.reduceAdd] at hst5
  clear hst4 hfr4 hk5
  replace hst5 : St _ _ _ [_, .map (.map (some gm9)) (Zy S (zDv S [])), MB g24 (zBI input ([] : List (Str × Str))) (iniY oi9 ci9 gm9), _] _ _ := hst5
  refine hK8 _ _ ?_
  refine zB fun _ hK13 => ?_
  refine zB fun _ hK14 => ?_
  have zq1 := hle4.trans hle5
  have zq2 := hle3.trans zq1
  replace h_es := h_es.mono zq2
  refine rp0 hst5 hfr5 (.cons rfl (zC rfl) <| .cons rfl (zp (φ := MP.backV es) rfl (.cons rfl <| .nil) call30 (fun w m hK => by have hle_ := KC.le hK; have hA := KC.agree hK; have h_es := h_es.mono hle_; exact FnG.mono (back_c hA h_es) fun _ _ _ _ h => h)) <| .nil) fun a6 w6 m6 hst6 hle6 hk6 => ?_
  have hfr6 := hk6.fr (.o 0 <| .o 1 <| .o 2 <| .o 3 <| .o 4 <| .o 8 <| .o 21 <| .o 22 <| .o 24 <| .o 9 <| .nil)
  obtain ⟨⟨gq9, oq9, cq9⟩, e15, hq9, hlq9⟩ := hk6.ex 26 rfl
  replace hfr6 := hfr6.cons e15
  clear hst5 hfr5 hk6
  refine hK14 _ _ ?_
  refine zW ?_
  refine zAb (T := [(0, _), (1, _), (2, _), (3, _), (4, _), (8, _), (21, _), (22, _), (24, _), (9, _), (26, _)]) (fun (y : (List (Str × Str)) × (Unit)) => ([_, .map (.map (some gm9)) (Zy S (zDv S y.1)), MB g24 (zBI input ([] : List (Str × Str))) (iniY oi9 ci9 gm9), _] : List Res)) (es.length) (BackY es) (fun i (y : (List (Str × Str)) × (Unit)) m => (fun (cur : List (Str × Str)) (du : Unit) => (zBL es = zAv (es.take (es.length - i)) cur) ∧ (True)) y.1 y.2) (fun (y : (List (Str × Str)) × (Unit)) m => (fun (cur : List (Str × Str)) (du : Unit) => (False)) y.1 y.2) ([], ()) hst6 (hfr6.sub (.c <| .c <| .c <| .c <| .c <| .c <| .c <| .c <| .c <| .c <| .c <| .nil)) rfl call44 ⟨by decide, by decide⟩ (fun _ _ _ _ _ h => h) (fun _ _ _ _ h => h) (⟨by rw [Nat.sub_zero, List.take_length]; rfl, trivial⟩) (back_iter hq9 hlq9) (fun i hi y w7 m7 args l rc hle7 hY hrel _ => ?_) (fun y D l rc a7 w7 m7 hst7 hle7 hrel hfr7 => ?_) (fun y D l rc a7 w7 m7 hst7 hle7 hrel hfr7 => ?_)
  ·obtain ⟨cur, du⟩ := y
   dsimp only at hrel
   obtain ⟨hj9, _⟩ := hrel
   clear hst6 hfr6
   obtain ⟨k9, e9, ve9, rfl, hef9, hat9⟩ := hY
   obtain ⟨oE_e9, cE_e9, rfl, hop_e9⟩ := hef9.open_
   have hbo_e9 := hop_e9.big; have hco_e9 := hop_e9.cap
   refine ⟨rfl, fun G1 a7 hfr7 hst7 _ hKrf => ?_⟩
   replace hfr7 : Fr _ [(27, _), (28, _), (0, _), (1, _), (2, _), (3, _), (4, _), (8, _), (21, _), (22, _), (24, _), (9, _), (26, _)] a7 := hfr7
   replace hst7 : St G1 w7 m7 [_, _, _, _, _] w7 m7 := hst7
   replace hst7 := hst7.more (r := .free) trivial List.nodup_nil (by simp [Res.blocks])
   refine ra0 (tch := [(0, 5, (fun v => .blk v _)), (1, 5, (fun v => .blk v _))]) hst7 hfr7 (.consT rfl rfl (fun _ => rfl) rfl (zQ zeroValue85 rfl) <| .consT rfl rfl (fun _ => rfl) rfl (zf 11 rfl rfl rfl fun y11 => za rfl rfl rfl rfl rfl sizeOf85 rfl rfl rfl) <| .nil) fun a8 w8 m8 hst8 hle8 hk8 => ?_
   have hfr8 := hk8.fr (.o 27 <| .o 28 <| .o 0 <| .o 1 <| .o 2 <| .o 3 <| .o 4 <| .o 8 <| .o 21 <| .o 22 <| .o 24 <| .o 9 <| .o 26 <| .nil)
   obtain ⟨g11, e16, _⟩ := hk8.ex 11 rfl
   replace hfr8 := hfr8.cons e16
   replace hst8 := hst8.fin (L' := [_, _, _, _, _, _]) (.cons e16 <| .cons e16 <| .nil)
   try simp only [List.take_succ_cons, List.take_zero, List.drop_succ_cons, List.drop_zero, List.cons_append, List.nil_append, List.append_nil, List.length_cons, List.length_nil, Nat.zero_add, Nat.reduceAdd] at hst8
   clear hst7 hfr7 hk8
   refine hKrf _ _ _ [_, _, _, _, _, _] 4 hst8 rfl fun w9 hst9 => ?_; clear hKrf
   simp only [List.set_cons_succ, List.set_cons_zero] at hst9
   have hfr9 := hfr8; obtain ⟨a9, rfl⟩ : ∃ a, a = a8 := ⟨_, rfl⟩; obtain ⟨m9, rfl⟩ : ∃ m, m = m8 := ⟨_, rfl⟩; clear hst8 hfr8
   refine zW ?_
   refine zB fun _ hK17 => ?_
   refine rp0 hst9 hfr9 (.cons rfl (zA (off := 1) rfl underlying85 rfl rfl sizeOf83 rfl) <| .cons rfl (zL (j := 5) rfl rfl isAgg83 rfl) <| .cons rfl (zm rfl underlying83) <| .cons rfl (zC rfl) <| .nil) fun a10 w10 m10 hst10 hle10 hk10 => ?_
   have hfr10 := hk10.fr (.o 27 <| .o 28 <| .o 0 <| .o 1 <| .o 2 <| .o 3 <| .o 4 <| .o 8 <| .o 21 <| .o 22 <| .o 24 <| .o 9 <| .o 26 <| .o 11 <| .n 30 <| .n 31 <| .n 32 <| .nil)
   clear hst9 hfr9 hk10
   refine hK17 _ _ ?_
   refine zW ?_
   refine z4 (T := [(27, _), (28, _), (0, _), (1, _), (2, _), (3, _), (4, _), (8, _), (21, _), (22, _), (24, _), (9, _), (26, _), (11, _), (30, _), (31, _)]) (fun (y : Nat × List (Str × Str)) => ([(32, .int .i64 (y.1 : Int))] : List (Nat × Value))) (fun y => [_, .map (.map (some gm9)) (Zy S (zDv S y.2)), MB g24 (zBI input ([] : List (Str × Str))) (iniY oi9 ci9 gm9), _, _, _]) (fun (y : Nat × List (Str × Str)) m => (fun (y : Nat) (cu : List (Str × Str)) => (y ≤ e9.ops.length) ∧ (zBB e9.name e9.ops cur = zBB e9.name (e9.ops.drop y) cu)) y.1 y.2) (fun y => e9.ops.length - y.1) ((0, cur)) ⟨hst10, MLe.refl _, hfr10.sub (.c <| .c <| .c <| .c <| .c <| .c <| .c <| .c <| .c <| .c <| .c <| .c <| .c <| .c <| .c <| .c <| .c <| .nil), ⟨Nat.zero_le _, rfl⟩⟩ fun y a11 w11 m11 hh11 => ?_
   have hst11 := hh11.st; have hle11 := hh11.le; have hfr11 := hh11.fr; have hrel := hh11.rel; clear hh11
   clear hst10 hfr10
   obtain ⟨y, cu⟩ := y
   dsimp only at hrel hfr11 hst11
   obtain ⟨hyn, hcu9⟩ := hrel
   have hlh11 := hle11
   refine zB fun _ hK19 => ?_
   refine rp0 hst11 hfr11 (.cons rfl (ZC rfl rfl) <| .nil) fun a12 w12 m12 hst12 hle12 hk12 => ?_
   have hfr12 := hk12.fr (.o 32 <| .o 27 <| .o 28 <| .o 0 <| .o 1 <| .o 2 <| .o 3 <| .o 4 <| .o 8 <| .o 21 <| .o 22 <| .o 24 <| .o 9 <| .o 26 <| .o 11 <| .o 30 <| .o 31 <| .n 33 <| .nil)
   clear hst11 hfr11 hk12
   refine hK19 _ _ ?_
   refine zB fun _ hK20 => ?_
   refine zE hfr12 rfl rfl (fun hb33 => ?_) (fun hb33 => ?_)
   ·try simp only [nqs] at hb33
    refine zR ?_
    refine hK20 _ _ ?_
    refine zB fun _ hK21 => ?_
    refine zW ?_
    refine zB fun _ hK22 => ?_
    have zq3 := hle11.trans hle12
    have zq4 := hle10.trans zq3
    have zq5 := hle8.trans zq4
    replace hop_e9 := hop_e9.mono zq5
    obtain ⟨p23, vs23, x23, ho23, hd23, hm_x23, ht23, hcv23, hl23, hv23⟩ := hop_e9.nth (k := y) (by omega)
    cases ho23
    obtain ⟨q1_23, q2_23, q3_23, q4_23, q5_23, q6_23, q7_23, q8_23, q9_23, q10_23, q11_23, q12_23, rfl, hon23⟩ := hv23.open_
    replace hst12 := hst12.more (r := .free) trivial List.nodup_nil (by simp [Res.blocks])
    refine ra0 (tch := [(2, 6, (fun v => .blk v _)), (3, 6, (fun v => .blk v _))]) hst12 hfr12 (.cons rfl (zI (k := y) rfl rfl underlying83 sizeOf92 rfl (by omega)) <| .cons rfl (zc rfl hcv23 isAgg92 sizeOf92 rfl rfl) <| .consT rfl rfl (fun _ => rfl) rfl (zQ zeroValue92 rfl) <| .consT rfl rfl (fun _ => rfl) rfl (zf 13 rfl rfl rfl fun y13 => za rfl rfl rfl rfl rfl sizeOf92 rfl rfl hon23) <| .nil) fun a13 w13 m13 hst13 hle13 hk13 => ?_
    have hfr13 := hk13.fr (.o 32 <| .o 27 <| .o 28 <| .o 0 <| .o 1 <| .o 2 <| .o 3 <| .o 4 <| .o 8 <| .o 21 <| .o 22 <| .o 24 <| .o 9 <| .o 26 <| .o 11 <| .o 30 <| .o 31 <| .nil)
    obtain ⟨g13, e24, _⟩ := hk13.ex 13 rfl
    replace hfr13 := hfr13.cons e24
    replace hst13 := hst13.fin (L' := [_, _, _, _, _, _, _]) (.cons e24 <| .cons e24 <| .nil)
    try simp only [List.take_succ_cons, List.take_zero, List.drop_succ_cons, List.drop_zero, List.cons_append, List.nil_append, List.append_nil, List.length_cons, List.length_nil, Nat.zero_add, Nat.reduceAdd] at hst13
    clear hst12 hfr12 hk13
    refine hK22 _ _ ?_
    refine zb (tch := [(8, 1, (fun _ => .map _ _))]) (fun _ => zy) hst13 hfr13 (by kernel_rfl) (by kernel_rfl) (by kernel_rfl) (.cons rfl (z9 (j := 3) rfl rfl isAgg64 rfl) <| .cons rfl (zK rfl) <| .cons rfl (zA (off := 20) rfl underlying79 rfl rfl sizeOf66 rfl) <| .cons rfl (zL (j := 2) rfl rfl isAgg66 rfl) <| .cons rfl (zA (off := 0) rfl underlying92 rfl rfl sizeOf9 rfl) <| .cons rfl (zL (j := 6) rfl rfl isAgg9 rfl) <| .cons rfl (zA (off := 0) rfl underlying85 rfl rfl sizeOf9 rfl) <| .cons rfl (zL (j := 5) rfl rfl isAgg9 rfl) <| .consT rfl rfl (fun _ => rfl) rfl (ob_mapUpdate Zo rfl rfl rfl underlying66 underlying9) <| .nil) fun a14 w14 m14 hst14 hle14 hk14 => ?_
    have hfr14 := hk14.fr (.o 32 <| .o 27 <| .o 28 <| .o 0 <| .o 1 <| .o 2 <| .o 3 <| .o 4 <| .o 8 <| .o 21 <| .o 22 <| .o 24 <| .o 9 <| .o 26 <| .o 11 <| .o 30 <| .o 31 <| .o 13 <| .nil)
    replace hst14 := hst14.fin (L' := [_, _, _, _, _, _, _]) (.cons rfl <| .nil)
    clear hst13 hfr13 hk14
    rw [encW_set] at hst14
    refine hK21 _ _ ?_
    refine rp0 hst14 hfr14 (.cons rfl (ZO rfl rfl ⟨by omega, by omega⟩) <| .cons rfl (zC rfl) <| .nil) fun a15 w15 m15 hst15 hle15 hk15 => ?_
    have hfr15 := hk15.fr (.o 27 <| .o 28 <| .o 0 <| .o 1 <| .o 2 <| .o 3 <| .o 4 <| .o 8 <| .o 21 <| .o 22 <| .o 24 <| .o 9 <| .o 26 <| .o 11 <| .o 30 <| .o 31 <| .o 13 <| .n 32 <| .nil)
    clear hst14 hfr14 hk15
    have hst15 := hst15.take 6
    have zq6 := hle14.trans hle15
    have zq7 := hle13.trans zq6
    have zq8 := hle12.trans zq7
    have hlh15 := hlh11.trans zq8
    exact ⟨(y + 1, (zAd x23 e9.name cu)), m15, by show e9.ops.length - (y + 1) < e9.ops.length - y; omega, ⟨hst15, hlh15, hfr15.sub (.c <| .c <| .c <| .c <| .c <| .c <| .c <| .c <| .c <| .c <| .c <| .c <| .c <| .c <| .c <| .c <| .c <| .nil), ⟨by show y + 1 ≤ e9.ops.length; omega, by rw [hcu9, hd23, zBB]⟩⟩⟩
   ·try simp only [nqs] at hb33
    have hge : y = e9.ops.length := by omega
    rw [List.drop_of_length_le (by omega), zBB] at hcu9
    rw [← hcu9] at hst12
    refine z3 ?_
    repeat (with_reducible first | refine Z3 ?_ | refine Zr ?_ | refine ZU ?_)
    exact RoundQ.next ((zBB e9.name e9.ops cur), du) (n0 := 4) (k := 4) hst12 rfl rfl rfl (⟨eff_step hj9 hi hat9, trivial⟩)
  ·obtain ⟨cur, du⟩ := y
   dsimp only at hrel
   obtain ⟨hj9, _⟩ := hrel
   clear hst6 hfr6
   replace hst7 : St _ _ _ [_, _, _, _, ZJ l rc, zBK D] w7 m7 := hst7
   rw [Nat.sub_self, List.take_zero] at hj9
   have hj8 : cur = zBL es := hj9.symm
   subst hj8
   refine hK13 _ _ ?_
   refine zB fun _ hK25 => ?_
   obtain ⟨m8, hle8, hst8, gF_ef, eF_ef, hm_ef⟩ := hst7.freezeMap (k := 1) rfl
   simp only [List.set_cons_succ, List.set_cons_zero] at hst8
   injection eF_ef with eF_ef; injection eF_ef with eF_ef; subst eF_ef
   have hfr8 := hfr7; obtain ⟨a8, rfl⟩ : ∃ a, a = a7 := ⟨_, rfl⟩; obtain ⟨w8, rfl⟩ : ∃ w, w = w7 := ⟨_, rfl⟩
   clear hst7 hfr7
   replace hst8 : St _ _ _ [_, .free, MB g24 (zBI input (zBL es)) (iniY oi9 ci9 gm9), _, _, _] _ _ := hst8
   replace hst8 := hst8.fill (k := 1) (r := .rowx (nz (.slice none 0 0)) 0 1 3 (MP.reads (fun _ vs (x : Int) => vs = [Value.int .i64 x]) 1 [])) rfl rowx_new rfl
   simp only [List.set_cons_succ, List.set_cons_zero] at hst8
   replace hst8 := hst8.perm perm3
   have zq9 := hle7.trans hle8
   have zq10 := hle6.trans zq9
   have zq11 := zq1.trans zq10
   replace hii9 := hii9.mono zq11
   have hS0 : McR m8 (zBI input (zBL es)) (iniY oi9 ci9 gm9) := ini_R hii9 hin0 hm_ef
   have zq12 := zq2.trans zq10
   replace h_c := h_c.mono zq12
   replace hkk_c := hkk_c.mono zq12
   replace haa_c := haa_c.mono zq12
   replace h_input := h_input.mono zq12
   replace hc4 := hc4.mono zq12
   replace hM := hM.trans zq12
   replace h_es := h_es.mono zq10
   replace hq9 := hq9.mono zq9
   replace hlq9 := hlq9.mono zq9
   refine ra0 (tch := [(2, 0, (fun _ => MK g24 ((zBI input (zBL es)).goes c .nil) (iniY oi9 ci9 gm9)))]) hst8 hfr8 (.cons rfl (z9 (j := 3) rfl rfl isAgg64 rfl) <| .cons rfl (zc rfl hc4 isAgg25 sizeOf25 rfl rfl) <| .consT rfl rfl (fun _ => rfl) rfl (zj rfl (.cons rfl <| .cons rfl <| .cons rfl <| .nil) call31 (κ := .eq (.bool true)) (fun σ w m hK hr hkn => by have hle_ := KC.le hK; have hA := KC.agree hK; have hM := hM.trans hle_; have h_c := h_c.mono hle_; have hkk_c := hkk_c.mono hle_; have haa_c := haa_c.mono hle_; have h_es := h_es.mono hle_; have h_input := h_input.mono hle_; have hc4 := hc4.mono hle_; have hii9 := hii9.mono hle_; have hq9 := hq9.mono hle_; have hlq9 := hlq9.mono hle_; have hm_ef := hm_ef.mono hle_; have hS0 := hS0.mono hle_; exact Zq (s := (zBI input (zBL es))) (Z6 (s := (zBI input (zBL es))) (y := (iniY oi9 ci9 gm9)) (e := .nil) (pe := none) hA hr hS0 h_c (by simp only [EnvR])))) <| .nil) fun a9 w9 m9 hst9 hle9 hk9 => ?_
   have hfr9 := hk9.fr (.o 0 <| .o 1 <| .o 2 <| .o 3 <| .o 4 <| .o 8 <| .o 21 <| .o 22 <| .o 24 <| .o 9 <| .o 26 <| .nil)
   replace hst9 := hst9.fin (L' := [_, _, _, _, _, _]) (.cons rfl <| .nil)
   clear hst8 hfr8 hk9
   obtain ⟨y0, hst9, hSz0, hKz0⟩ := zn (k := 0) hst9 rfl
   simp only [List.set_cons_zero] at hst9
   have hq0 : (.rowx (nz (.slice none 0 0)) 0 1 3 (MP.reads (fun _ vs (x : Int) => vs = [Value.int .i64 x]) 1 []) : Res) = ZX ((zBI input (zBL es)).goes c .nil) y0 := by simp only [ZX]; rw [hKz0.to, hKz0.tc]; rfl
   replace hst9 := st_re2 hst9 hq0
   refine hK25 _ _ ?_
   refine zB fun _ hK26 => ?_
   refine zW ?_
   refine z4 (T := [(0, _), (1, _), (2, _), (3, _), (4, _), (8, _), (21, _), (22, _), (24, _), (9, _), (26, _)]) (fun (y : (Mc) × (McY) × (Nat)) => ([] : List (Nat × Value))) (fun y => [MB g24 y.1 y.2.1, ZX y.1 y.2.1, _, _, _, _]) (fun (y : (Mc) × (McY) × (Nat)) m => (fun (sq : Mc) (yq : McY) (k : Nat) => (McR m sq yq) ∧ (Z7 k sq = some sF) ∧ (sq.steps + (k : Int) = (fuel : Int))) y.1 y.2.1 y.2.2) (fun y => y.2.2) ((((zBI input (zBL es)).goes c .nil), y0, fuel)) ⟨hst9, MLe.refl _, hfr9.sub (.c <| .c <| .c <| .c <| .c <| .c <| .c <| .c <| .c <| .c <| .c <| .nil), ⟨hSz0, hsF, by show (0 : Int) + (fuel : Int) = (fuel : Int); omega⟩⟩ fun y a10 w10 m10 hh10 => ?_
   have hst10 := hh10.st; have hle10 := hh10.le; have hfr10 := hh10.fr; have hrel := hh10.rel; clear hh10
   clear hst9 hfr9
   obtain ⟨sq, yq, k⟩ := y
   dsimp only at hrel hfr10 hst10
   obtain ⟨hSq, hrk, hsk⟩ := hrel
   have hsr1 := hSq.steps.1; have hsr2 := hSq.steps.2
   have hlh10 := hle10
   refine zB fun _ hK28 => ?_
   refine zB fun _ hK29 => ?_
   refine rp0 hst10 hfr10 (.cons rfl (z9 (j := 3) rfl rfl isAgg64 rfl) <| .cons rfl (zK rfl) <| .cons rfl (zA (off := 21) rfl underlying79 rfl rfl sizeOf35 rfl) <| .cons rfl (zA (off := 6) rfl underlying35 rfl rfl sizeOf3 rfl) <| .cons rfl (zL (k := 27) (j := 0) rfl rfl isAgg3 rfl) <| .cons rfl (zC rfl) <| .cons rfl (ZC rfl rfl) <| .cons rfl (zC rfl) <| .cons rfl (z9 (j := 3) rfl rfl isAgg64 rfl) <| .cons rfl (zZ rfl (.cons rfl <| .nil) call32 (fun w m hK => by have hle_ := KC.le hK; have hA := KC.agree hK; exact ended_c (s := sq) (y := yq) hA (KC.at_ hK (k := 0) rfl))) <| .cons rfl (zw rfl) <| .cons rfl (zU rfl rfl rfl) <| .nil) fun a11 w11 m11 hst11 hle11 hk11 => ?_
   have hfr11 := hk11.fr (.o 0 <| .o 1 <| .o 2 <| .o 3 <| .o 4 <| .o 8 <| .o 21 <| .o 22 <| .o 24 <| .o 9 <| .o 26 <| .n 59 <| .nil)
   clear hst10 hfr10 hk11
   refine hK29 _ _ ?_
   refine zE hfr11 rfl rfl (fun hb59 => ?_) (fun hb59 => ?_)
   ·try simp only [nqs] at hb59
    obtain ⟨k9, rfl⟩ : ∃ k9, k = k9 + 1 := ⟨k - 1, by omega⟩
    have hwy9 := run_step hrk hb59.2
    refine zR ?_
    refine hK28 _ _ ?_
    refine zW ?_
    refine zB fun _ hK30 => ?_
    refine ra0 (tch := [(9, 0, (fun _ => .blk _ _))]) hst11 hfr11 (.cons rfl (z9 (j := 3) rfl rfl isAgg64 rfl) <| .cons rfl (zK rfl) <| .cons rfl (zA (off := 21) rfl underlying79 rfl rfl sizeOf35 rfl) <| .cons rfl (zA (off := 6) rfl underlying35 rfl rfl sizeOf3 rfl) <| .cons rfl (zL (k := 27) (j := 0) rfl rfl isAgg3 rfl) <| .cons rfl (ZO rfl rfl ⟨by omega, by omega⟩) <| .cons rfl (zK rfl) <| .cons rfl (zA (off := 21) rfl underlying79 rfl rfl sizeOf35 rfl) <| .cons rfl (zA (off := 6) rfl underlying35 rfl rfl sizeOf3 rfl) <| .consT rfl rfl (fun _ => rfl) rfl (z0 (k := 27) rfl rfl rfl sizeOf3 rfl rfl rfl) <| .nil) fun a12 w12 m12 hst12 hle12 hk12 => ?_
    have hfr12 := hk12.fr (.o 0 <| .o 1 <| .o 2 <| .o 3 <| .o 4 <| .o 8 <| .o 21 <| .o 22 <| .o 24 <| .o 9 <| .o 26 <| .nil)
    replace hst12 := hst12.fin (L' := [_, _, _, _, _, _]) (.cons rfl <| .nil)
    try simp only [List.take_succ_cons, List.take_zero, List.drop_succ_cons, List.drop_zero, List.cons_append, List.nil_append, List.append_nil, List.length_cons, List.length_nil, Nat.zero_add, Nat.reduceAdd] at hst12
    clear hst11 hfr11 hk12
    have zq13 := hle11.trans hle12
    replace hSq := hSq.mono zq13
    have hS1 : McR m12 ({ sq with steps := sq.steps + 1 } : Mc) yq := ⟨hSq.c, hSq.e, hSq.v, hSq.ev, hSq.fr, hSq.inp, hSq.next, hSq.kind, hSq.eff, ⟨by show (-9223372036854775808 : Int) ≤ sq.steps + 1; omega, by show sq.steps + 1 ≤ (9223372036854775807 : Int); omega⟩, hSq.konts, hSq.tr⟩
    refine hK30 _ _ ?_
    refine zB fun _ hK31 => ?_
    refine rp0 hst12 hfr12 (.cons rfl (zD rfl) <| .nil) fun a13 w13 m13 hst13 hle13 hk13 => ?_
    have hfr13 := hk13.fr (.o 0 <| .o 1 <| .o 2 <| .o 3 <| .o 4 <| .o 8 <| .o 21 <| .o 22 <| .o 24 <| .o 9 <| .o 26 <| .n 14 <| .nil)
    clear hst12 hfr12 hk13
    refine hK31 _ _ ?_
    refine zB fun _ hK32 => ?_
    refine zB fun _ hK33 => ?_
    refine rp0 hst13 hfr13 (.cons rfl (z9 (j := 3) rfl rfl isAgg64 rfl) <| .cons rfl (zK rfl) <| .cons rfl (zA (off := 0) rfl underlying79 rfl rfl sizeOf77 rfl) <| .cons rfl (zA (off := 7) rfl underlying77 rfl rfl sizeOf4 rfl) <| .cons rfl (zL (k := 7) (j := 0) rfl rfl isAgg4 rfl) <| .nil) fun a14 w14 m14 hst14 hle14 hk14 => ?_
    have hfr14 := hk14.fr (.o 0 <| .o 1 <| .o 2 <| .o 3 <| .o 4 <| .o 8 <| .o 21 <| .o 22 <| .o 24 <| .o 9 <| .o 26 <| .o 14 <| .n 73 <| .nil)
    clear hst13 hfr13 hk14
    refine hK33 _ _ ?_
    refine zE hfr14 rfl rfl (fun hb73 => ?_) (fun hb73 => ?_)
    ·try simp only [nqs] at hb73
     obtain ⟨-, t9, b9, hl9, hr9, hts9⟩ := hwy9.resolve_right (fun h => by rw [h.1] at hb73; cases hb73)
     refine z1 2 (by kernel_rfl) ?_
     refine zBd 1 (by kernel_rfl) ?_
     refine zo (tch := []) hst14 hfr14 (by kernel_rfl) (by kernel_rfl) (by kernel_rfl) (.cons rfl (z9 (j := 3) rfl rfl isAgg64 rfl) <| .nil) fun a15 w15 m15 hst15 hle15 hk15 => ?_
     have hfr15 := hk15.fr (.o 0 <| .o 1 <| .o 2 <| .o 3 <| .o 4 <| .o 8 <| .o 21 <| .o 22 <| .o 24 <| .o 9 <| .o 26 <| .o 14 <| .n 74 <| .nil)
     clear hst14 hfr14 hk15
     have zq14 := hle14.trans hle15
     have zq15 := hle13.trans zq14
     replace hS1 := hS1.mono zq15
     refine zDm [] [_, _, _, _] [_, _] hst15 hfr15 rfl (.cons rfl <| .nil) call33 (looks_g (s := ({ sq with steps := sq.steps + 1 } : Mc)) (y := yq) hst15.agree (hst15.sub (A := []) (B := [_, _, _, _]) (rs := [_, _])) hS1 hl9) ?_
     intro vr16 w16 m16 rs16 hst16 hle16 hp16
     obtain ⟨y7, rfl, hS7, hvq9⟩ := hp16
     simp only [List.nil_append, List.cons_append] at hst16
     have hfr16 := (hfr15.sub (T' := [(0, _), (1, _), (2, _), (3, _), (4, _), (8, _), (21, _), (22, _), (24, _), (9, _), (26, _), (14, _), (74, _)]) (.cons rfl <| .cons rfl <| .cons rfl <| .cons rfl <| .cons rfl <| .cons rfl <| .cons rfl <| .cons rfl <| .cons rfl <| .cons rfl <| .cons rfl <| .cons rfl <| .cons rfl <| .nil)).put (d := 75) (v := vr16) (by kernel_rfl) rfl
     clear hst15 hfr15
     subst hvq9
     refine zo (tch := []) hst16 hfr16 (by kernel_rfl) (by kernel_rfl) (by kernel_rfl) (.cons rfl (zD rfl) <| .nil) fun a17 w17 m17 hst17 hle17 hk17 => ?_
     have hfr17 := hk17.fr (.o 75 <| .o 0 <| .o 1 <| .o 2 <| .o 3 <| .o 4 <| .o 8 <| .o 21 <| .o 22 <| .o 24 <| .o 9 <| .o 26 <| .o 74 <| .n 14 <| .nil)
     clear hst16 hfr16 hk17
     refine hK32 _ _ ?_
     refine zB fun _ hK34 => ?_
     refine rp0 hst17 hfr17 (.cons rfl (zC rfl) <| .cons rfl (zw rfl) <| .nil) fun a18 w18 m18 hst18 hle18 hk18 => ?_
     have hfr18 := hk18.fr (.o 75 <| .o 0 <| .o 1 <| .o 2 <| .o 3 <| .o 4 <| .o 8 <| .o 21 <| .o 22 <| .o 24 <| .o 9 <| .o 26 <| .o 74 <| .o 14 <| .n 79 <| .nil)
     clear hst17 hfr17 hk18
     refine hK34 _ _ ?_
     refine zE hfr18 rfl rfl (fun hb79 => ?_) (fun hb79 => ?_)
     ·try simp only [nqs] at hb79
      simp only [hb79, Bool.false_eq_true, if_false] at hr9
      have zq16 := hle17.trans hle18
      have zq17 := hle16.trans zq16
      have zq18 := zq15.trans zq17
      have zq19 := zq13.trans zq18
      have zq20 := hle10.trans zq19
      have zq21 := hle9.trans zq20
      replace h_c := h_c.mono zq21
      replace hkk_c := hkk_c.mono zq21
      replace haa_c := haa_c.mono zq21
      replace h_es := h_es.mono zq21
      replace h_input := h_input.mono zq21
      replace hc4 := hc4.mono zq21
      replace hii9 := hii9.mono zq21
      replace hq9 := hq9.mono zq21
      replace hlq9 := hlq9.mono zq21
      replace hm_ef := hm_ef.mono zq21
      replace hS0 := hS0.mono zq21
      replace hM := hM.trans zq21
      replace hSz0 := hSz0.mono zq20
      replace hSq := hSq.mono zq18
      replace hS1 := hS1.mono zq17
      replace hS7 := hS7.mono zq16
      refine ra0 (tch := [(1, 0, (fun _ => MK g24 (t9.ends 4) y7))]) hst18 hfr18 (.cons rfl (z9 (j := 3) rfl rfl isAgg64 rfl) <| .consT rfl rfl (fun _ => rfl) rfl (zj rfl (.cons rfl <| .cons rfl <| .nil) call35 (κ := .eq (.bool true)) (fun σ w m hK hr hkn => by have hle_ := KC.le hK; have hA := KC.agree hK; have hM := hM.trans hle_; have h_c := h_c.mono hle_; have hkk_c := hkk_c.mono hle_; have haa_c := haa_c.mono hle_; have h_es := h_es.mono hle_; have h_input := h_input.mono hle_; have hc4 := hc4.mono hle_; have hii9 := hii9.mono hle_; have hq9 := hq9.mono hle_; have hlq9 := hlq9.mono hle_; have hm_ef := hm_ef.mono hle_; have hS0 := hS0.mono hle_; have hSz0 := hSz0.mono hle_; have hSq := hSq.mono hle_; have hS1 := hS1.mono hle_; have hS7 := hS7.mono hle_; exact Zq (s := t9) (zCV (s := t9) (y := y7) hA hr hS7 ⟨by decide, by decide⟩))) <| .nil) fun a19 w19 m19 hst19 hle19 hk19 => ?_
      have hfr19 := hk19.fr (.o 75 <| .o 0 <| .o 1 <| .o 2 <| .o 3 <| .o 4 <| .o 8 <| .o 21 <| .o 22 <| .o 24 <| .o 9 <| .o 26 <| .o 74 <| .o 14 <| .nil)
      replace hst19 := hst19.fin (L' := [_, _, _, _, _, _]) (.cons rfl <| .nil)
      clear hst18 hfr18 hk19
      obtain ⟨y6, hst19, hSz6, hKz6⟩ := zn (k := 0) hst19 rfl
      simp only [List.set_cons_zero] at hst19
      have hq6 : ZX t9 y7 = ZX (t9.ends 4) y6 := by simp only [ZX]; rw [hKz6.to, hKz6.tc]; rfl
      replace hst19 := st_re2 hst19 hq6
      have zq22 := zq19.trans hle19
      have hlh19 := hlh10.trans zq22
      exact ⟨((t9.ends 4), y6, k9), m19, Nat.lt_succ_self _, ⟨hst19, hlh19, hfr19.sub (.c <| .c <| .c <| .c <| .c <| .c <| .c <| .c <| .c <| .c <| .c <| .nil), ⟨hSz6, hr9, by show t9.steps + (k9 : Int) = (fuel : Int); omega⟩⟩⟩
     ·try simp only [nqs] at hb79
      simp only [hb79, if_true] at hr9
      refine zR ?_
      have zq23 := hle17.trans hle18
      replace hS7 := hS7.mono zq23
      have zq24 := hle16.trans zq23
      have zq25 := zq15.trans zq24
      have zq26 := zq13.trans zq25
      have hlh18 := hlh10.trans zq26
      exact ⟨(t9, y7, k9), m18, Nat.lt_succ_self _, ⟨hst18, hlh18, hfr18.sub (.c <| .c <| .c <| .c <| .c <| .c <| .c <| .c <| .c <| .c <| .c <| .nil), ⟨hS7, hr9, by show t9.steps + (k9 : Int) = (fuel : Int); omega⟩⟩⟩
    ·try simp only [nqs] at hb73
     obtain ⟨-, t9, hg9, hr9, hts9⟩ := hwy9.resolve_left (fun h => by rw [h.1] at hb73; cases hb73)
     refine z1 2 (by kernel_rfl) ?_
     refine zBd 1 (by kernel_rfl) ?_
     refine zo (tch := []) hst14 hfr14 (by kernel_rfl) (by kernel_rfl) (by kernel_rfl) (.cons rfl (z9 (j := 3) rfl rfl isAgg64 rfl) <| .nil) fun a15 w15 m15 hst15 hle15 hk15 => ?_
     have hfr15 := hk15.fr (.o 0 <| .o 1 <| .o 2 <| .o 3 <| .o 4 <| .o 8 <| .o 21 <| .o 22 <| .o 24 <| .o 9 <| .o 26 <| .o 14 <| .n 76 <| .nil)
     clear hst14 hfr14 hk15
     have zq27 := hle14.trans hle15
     have zq28 := hle13.trans zq27
     replace hS1 := hS1.mono zq28
     refine zDm [] [_, _, _, _, _] [_] hst15 hfr15 rfl (.cons rfl <| .nil) call34 (mc_R (s := ({ sq with steps := sq.steps + 1 } : Mc)) (y := yq) (gets_g (s := ({ sq with steps := sq.steps + 1 } : Mc)) (y := yq) hst15.agree (hst15.loc.at_ (k := 0) rfl) hS1 hg9)) ?_
     intro vr16 w16 m16 rs16 hst16 hle16 hp16
     obtain ⟨y7, rfl, hS7, hK7, hvq9⟩ := hp16
     simp only [List.nil_append, List.cons_append] at hst16
     have hfr16 := (hfr15.sub (T' := [(0, _), (1, _), (2, _), (3, _), (4, _), (8, _), (21, _), (22, _), (24, _), (9, _), (26, _), (14, _), (76, _)]) (.cons rfl <| .cons rfl <| .cons rfl <| .cons rfl <| .cons rfl <| .cons rfl <| .cons rfl <| .cons rfl <| .cons rfl <| .cons rfl <| .cons rfl <| .cons rfl <| .cons rfl <| .nil)).put (d := 77) (v := vr16) (by kernel_rfl) rfl
     clear hst15 hfr15
     subst hvq9
     have htr9 := gets_tr hg9
     have hq7 : ZX sq yq = ZX t9 y7 := by simp only [ZX]; rw [hK7.to, hK7.tc, htr9]
     replace hst16 := st_re2 hst16 hq7
     refine id ?_
     ·skip
      refine zo (tch := []) hst16 hfr16 (by kernel_rfl) (by kernel_rfl) (by kernel_rfl) (.cons rfl (zD rfl) <| .nil) fun a17 w17 m17 hst17 hle17 hk17 => ?_
      have hfr17 := hk17.fr (.o 77 <| .o 0 <| .o 1 <| .o 2 <| .o 3 <| .o 4 <| .o 8 <| .o 21 <| .o 22 <| .o 24 <| .o 9 <| .o 26 <| .o 76 <| .n 14 <| .nil)
      clear hst16 hfr16 hk17
      refine hK32 _ _ ?_
      refine zB fun _ hK35 => ?_
      refine rp0 hst17 hfr17 (.cons rfl (zC rfl) <| .cons rfl (zw rfl) <| .nil) fun a18 w18 m18 hst18 hle18 hk18 => ?_
      have hfr18 := hk18.fr (.o 77 <| .o 0 <| .o 1 <| .o 2 <| .o 3 <| .o 4 <| .o 8 <| .o 21 <| .o 22 <| .o 24 <| .o 9 <| .o 26 <| .o 76 <| .o 14 <| .n 79 <| .nil)
      clear hst17 hfr17 hk18
      refine hK35 _ _ ?_
      refine zE hfr18 rfl rfl (fun hb79 => ?_) (fun hb79 => ?_)
      ·simp at hb79
      ·try simp only [nqs] at hb79
       refine zR ?_
       have zq29 := hle17.trans hle18
       replace hS7 := hS7.mono zq29
       have zq30 := hle16.trans zq29
       have zq31 := zq28.trans zq30
       have zq32 := zq13.trans zq31
       have hlh18 := hlh10.trans zq32
       exact ⟨(t9, y7, k9), m18, Nat.lt_succ_self _, ⟨hst18, hlh18, hfr18.sub (.c <| .c <| .c <| .c <| .c <| .c <| .c <| .c <| .c <| .c <| .c <| .nil), ⟨hS7, hr9, by show t9.steps + (k9 : Int) = (fuel : Int); omega⟩⟩⟩
   ·try simp only [nqs] at hb59
    have hsf9 : sF = sq := run_end hrk (hb59.elim (fun h => .inl (by omega)) (fun h => .inr h))
    rw [hsf9] at heF
    refine z3 ?_
    refine hK26 _ _ ?_
    refine zB fun _ hK36 => ?_
    refine zB fun _ hK37 => ?_
    refine rp0 hst11 hfr11 (.cons rfl (z9 (j := 3) rfl rfl isAgg64 rfl) <| .cons rfl (zK rfl) <| .cons rfl (zA (off := 21) rfl underlying79 rfl rfl sizeOf35 rfl) <| .cons rfl (zA (off := 0) rfl underlying35 rfl rfl sizeOf33 rfl) <| .cons rfl (zA (off := 0) rfl underlying33 rfl rfl sizeOf3 rfl) <| .cons rfl (zL (k := 21) (j := 0) rfl rfl isAgg3 rfl) <| .cons rfl (zS rfl rfl) <| .cons rfl (zC rfl) <| .cons rfl (z9 (j := 3) rfl rfl isAgg64 rfl) <| .cons rfl (zZ rfl (.cons rfl <| .nil) call32 (fun w m hK => by have hle_ := KC.le hK; have hA := KC.agree hK; exact ended_c (s := sq) (y := yq) hA (KC.at_ hK (k := 0) rfl))) <| .cons rfl (zU rfl rfl rfl) <| .nil) fun a12 w12 m12 hst12 hle12 hk12 => ?_
    have hfr12 := hk12.fr (.o 0 <| .o 1 <| .o 2 <| .o 3 <| .o 4 <| .o 8 <| .o 21 <| .o 22 <| .o 24 <| .o 9 <| .o 26 <| .n 92 <| .nil)
    clear hst11 hfr11 hk12
    refine hK37 _ _ ?_
    refine zE hfr12 rfl rfl (fun hb92 => ?_) (fun hb92 => ?_)
    ·try simp only [nqs] at hb92
     obtain ⟨hk0, hr0⟩ := end_yes heF hb92.1 hb92.2
     have zq33 := hle11.trans hle12
     replace hSq := hSq.mono zq33
     refine zb (tch := [(11, 0, (fun _ => .blk _ _))]) (fun _ => zy) hst12 hfr12 (by kernel_rfl) (by kernel_rfl) (by kernel_rfl) (.cons rfl (z9 (j := 3) rfl rfl isAgg64 rfl) <| .cons rfl (z9 (j := 3) rfl rfl isAgg64 rfl) <| .cons rfl (zK rfl) <| .cons rfl (zA (off := 0) rfl underlying79 rfl rfl sizeOf77 rfl) <| .cons rfl (zA (off := 8) rfl underlying77 rfl rfl sizeOf72 rfl) <| .cons rfl (zv (k := 8) (j := 0) rfl rfl isAgg72 sizeOf72 rfl rfl) <| .cons rfl (zZ rfl (.cons rfl <| .nil) call36 (fun w m hK => by have hle_ := KC.le hK; have hA := KC.agree hK; have hSq := hSq.mono hle_; exact shown0_c (v := sq.v) hA hSq.v hk0)) <| .cons rfl (zP (.cons rfl <| .cons rfl <| .nil) underlying33 zeroValue33 (.cons sizeOf3 <| .cons sizeOf31 <| .nil) rfl) <| .cons rfl (zK rfl) <| .cons rfl (zA (off := 21) rfl underlying79 rfl rfl sizeOf35 rfl) <| .cons rfl (zA (off := 0) rfl underlying35 rfl rfl sizeOf33 rfl) <| .consT rfl rfl (fun _ => rfl) rfl (z0 (k := 21) rfl rfl rfl sizeOf33 rfl rfl rfl) <| .nil) fun a13 w13 m13 hst13 hle13 hk13 => ?_
     have hfr13 := hk13.fr (.o 0 <| .o 1 <| .o 2 <| .o 3 <| .o 4 <| .o 8 <| .o 21 <| .o 22 <| .o 24 <| .o 9 <| .o 26 <| .nil)
     replace hst13 := hst13.fin (L' := [_, _, _, _, _, _]) (.cons rfl <| .nil)
     try simp only [List.take_succ_cons, List.take_zero, List.drop_succ_cons, List.drop_zero, List.cons_append, List.nil_append, List.append_nil, List.length_cons, List.length_nil, Nat.zero_add, Nat.reduceAdd] at hst13
     clear hst12 hfr12 hk13
     refine hK36 _ _ ?_
     refine zB fun _ hK38 => ?_
     refine ra0 (tch := [(4, 2, (fun _ => .blk _ _))]) hst13 hfr13 (.cons rfl (z9 (j := 3) rfl rfl isAgg64 rfl) <| .cons rfl (zK rfl) <| .cons rfl (zA (off := 21) rfl underlying79 rfl rfl sizeOf35 rfl) <| .cons rfl (zv (j := 0) rfl rfl isAgg35 sizeOf35 rfl rfl) <| .consT rfl rfl (fun _ => rfl) rfl (zY rfl rfl rfl sizeOf35 rfl rfl rfl) <| .nil) fun a14 w14 m14 hst14 hle14 hk14 => ?_
     have hfr14 := hk14.fr (.o 0 <| .o 1 <| .o 2 <| .o 3 <| .o 4 <| .o 8 <| .o 21 <| .o 22 <| .o 24 <| .o 9 <| .o 26 <| .nil)
     replace hst14 := hst14.fin (L' := [_, _, _, _, _, _]) (.cons rfl <| .nil)
     try simp only [List.take_succ_cons, List.take_zero, List.drop_succ_cons, List.drop_zero, List.cons_append, List.nil_append, List.append_nil, List.length_cons, List.length_nil, Nat.zero_add, Nat.reduceAdd] at hst14
     clear hst13 hfr13 hk14
     refine hK38 _ _ ?_
     refine zN ?_
     repeat (with_reducible first | refine zH ?_ | refine zF ?_)
     have zq34 := hle13.trans hle14
     replace hSq := hSq.mono zq34
     exact zBc hst14 (k := 5) rfl hfr14 rfl (fun w hstE => .cell rfl (zh (zd (hstE.loc.at_ (k := 2) rfl)) isAgg35 sizeOf35) <| .nil) (fun w => by rw [hr0]; exact ⟨(yq.to, yq.tc), rfl, hSq.tr⟩)
    ·try simp only [nqs] at hb92
     have hr0 := end_no heF (fun h => hb92.elim (fun h1 => h1 h.1) (fun h1 => by rw [h.2] at h1; cases h1))
     refine zR ?_
     refine hK36 _ _ ?_
     refine zB fun _ hK40 => ?_
     refine ra0 (tch := [(4, 2, (fun _ => .blk _ _))]) hst12 hfr12 (.cons rfl (z9 (j := 3) rfl rfl isAgg64 rfl) <| .cons rfl (zK rfl) <| .cons rfl (zA (off := 21) rfl underlying79 rfl rfl sizeOf35 rfl) <| .cons rfl (zv (j := 0) rfl rfl isAgg35 sizeOf35 rfl rfl) <| .consT rfl rfl (fun _ => rfl) rfl (zY rfl rfl rfl sizeOf35 rfl rfl rfl) <| .nil) fun a13 w13 m13 hst13 hle13 hk13 => ?_
     have hfr13 := hk13.fr (.o 0 <| .o 1 <| .o 2 <| .o 3 <| .o 4 <| .o 8 <| .o 21 <| .o 22 <| .o 24 <| .o 9 <| .o 26 <| .nil)
     replace hst13 := hst13.fin (L' := [_, _, _, _, _, _]) (.cons rfl <| .nil)
     try simp only [List.take_succ_cons, List.take_zero, List.drop_succ_cons, List.drop_zero, List.cons_append, List.nil_append, List.append_nil, List.length_cons, List.length_nil, Nat.zero_add, Nat.reduceAdd] at hst13
     clear hst12 hfr12 hk13
     refine hK40 _ _ ?_
     refine zN ?_
     repeat (with_reducible first | refine zH ?_ | refine zF ?_)
     have zq35 := hle12.trans hle13
     have zq36 := hle11.trans zq35
     replace hSq := hSq.mono zq36
     exact zBc hst13 (k := 5) rfl hfr13 rfl (fun w hstE => .cell rfl (zh (zd (hstE.loc.at_ (k := 2) rfl)) isAgg35 sizeOf35) <| .nil) (fun w => by rw [hr0]; exact ⟨(yq.to, yq.tc), rfl, hSq.tr⟩)
  ·exact hrel.elim
end Go.Proofs.Ytnppknioifgdfaa
namespace Go.Proofs.Ytnppknioifgdfaa
open Go.Proofs.Try
set_option linter.all false
set_option maxRecDepth 4000
open Go.RowKit
abbrev noY : CdY := ⟨none, 0, none, 0⟩
def zBf (s : Str) : Cd := ⟨1, s, [], 0, [], []⟩
def zDj (n : Int) : Cd := ⟨2, [], [], n, [], []⟩
def unitC : Cd := ⟨4, [], [], 0, [], []⟩
def zAJ (k : Int) (s p : Str) (l : List Cd) (az : List Ca) : Cd := ⟨k, s, p, 0, l, az⟩
theorem i0 : zq 0 := ⟨by decide, by decide⟩
theorem var_R {m : Mem} (s : Str) : CdR m (zBf s) (cdV (zBf s) noY) := CdR.build ⟨by show -9223372036854775808 ≤ (1 : Int); decide, by show (1 : Int) ≤ 9223372036854775807; decide⟩ i0 Sl.empty Sl.empty
theorem unit_R {m : Mem} : CdR m unitC (cdV unitC noY) := CdR.build ⟨by show -9223372036854775808 ≤ (4 : Int); decide, by show (4 : Int) ≤ 9223372036854775807; decide⟩ i0 Sl.empty Sl.empty
theorem int_R {m : Mem} {n : Int} (hn : zq n) : CdR m (zDj n) (cdV (zDj n) noY) := CdR.build ⟨by show -9223372036854775808 ≤ (2 : Int); decide, by show (2 : Int) ≤ 9223372036854775807; decide⟩ hn Sl.empty Sl.empty
theorem zero_R {m : Mem} : CdR m ⟨0, [], [], 0, [], []⟩ (cdV ⟨0, [], [], 0, [], []⟩ noY) := CdR.build i0 i0 Sl.empty Sl.empty
theorem nodeL_R {m : Mem} {k : Int} {s p : Str} {l : List Cd} {o : Option Addr} {c : Nat} (hk : zq k) (h : Cds m o l.length c l) : CdR m (zAJ k s p l []) (cdV (zAJ k s p l []) ⟨o, c, none, 0⟩) := CdR.build hk i0 h Sl.empty
theorem node1_R {m : Mem} {k : Int} {s p : Str} {t : Cd} {g : Nat} {vs : List Value} (hk : zq k) (hc : CellsAt m ⟨g, 0, none⟩ vs) (h : CdR m t vs) : CdR m (zAJ k s p [t] []) (cdV (zAJ k s p [t] []) ⟨some ⟨g, 0, none⟩, 1, none, 0⟩) :=
 CdR.build hk i0 (Sl.one (R := fun m vs t => CdR m t vs) hc h.len h) Sl.empty
theorem node2_R {m : Mem} {k : Int} {s p : Str} {t u : Cd} {g : Nat} {vs us : List Value} (hk : zq k) (hc : CellsAt m ⟨g, 0, none⟩ (vs ++ us)) (h : CdR m t vs) (h2 : CdR m u us) : CdR m (zAJ k s p [t, u] []) (cdV (zAJ k s p [t, u] []) ⟨some ⟨g, 0, none⟩, 2, none, 0⟩) :=
 CdR.build hk i0 (Sl.two (R := fun m vs t => CdR m t vs) hc h.len h2.len h h2) Sl.empty
theorem node1a_R {m : Mem} {k : Int} {s p : Str} {t : Cd} {az : List Ca} {g : Nat} {vs : List Value} {o : Option Addr} {c : Nat} (hk : zq k) (hc : CellsAt m ⟨g, 0, none⟩ vs) (h : CdR m t vs) (ha : Cas m o az.length c az) : CdR m (zAJ k s p [t] az) (cdV (zAJ k s p [t] az) ⟨some ⟨g, 0, none⟩, 1, o, c⟩) :=
 CdR.build hk i0 (Sl.one (R := fun m vs t => CdR m t vs) hc h.len h) ha
theorem strs_row {m : Mem} {g : Nat} {l : List Str} (h : CellsAt m ⟨g, 0, none⟩ (l.map S)) (hb : l.length ≤ 1000000000) : Strs m (some ⟨g, 0, none⟩) l.length l.length l := Strs.of_row (.inr ⟨_, rfl, h⟩) rfl (Nat.le_refl _) (by omega)
theorem arm_R {m : Mem} {n : Str} {l : List Str} {tl : Bool} {t : Cd} {o : Option Addr} {c : Nat} {vs : List Value} (hl : Strs m o l.length c l) (h : CdR m t vs) : CaR m ⟨n, l, tl, t⟩ (S n :: .slice o l.length c :: .bool tl :: vs) := ⟨o, c, vs, rfl, hl, h⟩
theorem arms2_R {m : Mem} {a b : Ca} {g : Nat} {vs us : List Value} (hc : CellsAt m ⟨g, 0, none⟩ (vs ++ us)) (h : CaR m a vs) (h2 : CaR m b us) : Cas m (some ⟨g, 0, none⟩) 2 2 [a, b] := Sl.two (R := fun m vs t => CaR m t vs) hc h.len h2.len h h2
abbrev caV (a : Ca) (y : Option Addr × Nat × CdY) : List Value := S a.name :: .slice y.1 a.vars.length y.2.1 :: .bool a.tail :: cdV a.body y.2.2
def MP.ca (a : Ca) : MP := MP.mem (fun y : Option Addr × Nat × CdY => .agg (caV a y).toArray) (fun y m => CaR m a (caV a y)) fun hm h => h.mono hm
abbrev zCx : Str := [103, 101, 116]
abbrev putS : Str := [112, 117, 116]
abbrev retS : Str := [114, 101, 116, 117, 114, 110]
abbrev addC (a b : Cd) : Cd := zAJ 11 [43] [] [a, b] []
abbrev askC (s : Str) (t : Cd) : Cd := zAJ 14 s [] [t] []
abbrev zAZ (s : Str) (a b : Cd) : Cd := zAJ 8 s [] [a, b] []
abbrev opC (s : Str) (l : List Cd) : Cd := zAJ 11 s [] l []
abbrev sameA : Ca := ⟨retS, [[120]], false, zBf [120]⟩
abbrev promptC (t : Cd) (az : List Ca) : Cd := zAJ 15 [69] [] [t] az
def efs : List Ef := [⟨[69], [zCx, putS]⟩, ⟨[70], [[120], zCx]⟩]
def MP.efs (l : List Ef) : MP := MP.mem (fun y : Option Addr × Nat => .slice y.1 l.length y.2) (fun y m => Efs m y.1 l.length y.2 l) fun hm h => h.mono hm
theorem op_R {m : Mem} (s : Str) : OpR m [S s, .int .i64 0, S [], .int .i64 0, .slice none 0 0, .slice none 0 0, .int .i64 0, .int .i64 0, S [], .int .i64 0, .slice none 0 0, .slice none 0 0, .int .i64 0] s := ⟨_, _, _, _, _, _, _, _, _, _, _, _, rfl, rfl⟩
-- What must be in any case.
abbrev ask1 : Cd := askC zCx (zDj 1)
abbrev shTail : Ca := ⟨zCx, [[120]], true, addC (zBf [120]) (zDj 1)⟩
abbrev shC : Cd := promptC (zAZ [97] ask1 (addC (zBf [97]) (zDj 1))) [sameA, shTail]
abbrev shR : Rn := ⟨1, 1, 3, [], [], 9, 0⟩
theorem run_sh1 : runR shC efs [] 100 = some shR := by rfl
theorem run_sh2 : runR ask1 efs [] 100 = some ⟨4, 0, 0, [], [], 1, 0⟩ := by rfl
theorem run_sh3 : runR ⟨0, [], [], 0, [], []⟩ [] [] 100 = some ⟨4, 0, 0, [], [], 0, 0⟩ := by rfl
set_option maxHeartbeats 400000 in
theorem zBC {w : World} {m : Mem} {s : Str} (hA : Agree w m)  : FnV Try.prog 18 #[S s] w m (fun _ _ v => v = .agg (cdV (zBf s) noY).toArray) := by
 refine zX (vs := [_]) func18 rfl rfl rfl fun a0 hfr0 => ?_
 have hst0 := zV hA (zg [] _ w m)
 have hM : MLe m m := MLe.refl m
 refine zB fun _ hK1 => ?_
 replace hst0 := hst0.more (r := .free) trivial List.nodup_nil (by simp [Res.blocks])
 refine ra0 (tch := [(0, 0, (fun v => .blk v _))]) hst0 hfr0 (.consT rfl rfl (fun _ => rfl) rfl (zQ zeroValue25 rfl) <| .nil) fun a1 w1 m1 hst1 hle1 hk1 => ?_
 have hfr1 := hk1.fr (.o 0 <| .nil)
 obtain ⟨g2, e2, _⟩ := hk1.ex 2 rfl
 replace hfr1 := hfr1.cons e2
 replace hst1 := hst1.fin (L' := [_]) (.cons e2 <| .nil)
 clear hst0 hfr0 hk1
 refine hK1 _ _ ?_
 refine zB fun _ hK3 => ?_
 refine ra0 (tch := [(2, 0, (fun _ => .blk _ _))]) hst1 hfr1 (.cons rfl (zC rfl) <| .cons rfl (zP (.cons rfl <| .cons rfl <| .nil) underlying25 zeroValue25 (.cons sizeOf3 <| .cons sizeOf9 <| .cons sizeOf9 <| .cons sizeOf3 <| .cons sizeOf22 <| .cons sizeOf23 <| .nil) rfl) <| .consT rfl rfl (fun _ => rfl) rfl (zY rfl rfl rfl sizeOf25 rfl rfl rfl) <| .nil) fun a2 w2 m2 hst2 hle2 hk2 => ?_
 have hfr2 := hk2.fr (.o 2 <| .nil)
 replace hst2 := hst2.fin (L' := [_]) (.cons rfl <| .nil)
 try simp only [List.take_succ_cons, List.take_zero, List.drop_succ_cons, List.drop_zero, List.cons_append, List.nil_append, List.append_nil, List.length_cons, List.length_nil, Nat.zero_add, Nat.reduceAdd] at hst2
 clear hst1 hfr1 hk2
 refine hK3 _ _ ?_
 refine zN ?_
 repeat (with_reducible first | refine zH ?_ | refine zF ?_)
 exact zO hst2 hfr2 rfl (.cell rfl (zh (zd (hst2.loc.at_ (k := 0) rfl)) isAgg25 sizeOf25) <| .nil) (rfl)
set_option maxHeartbeats 400000 in
theorem lnum_c {w : World} {m : Mem} {n : Int} (hA : Agree w m)  : FnV Try.prog 19 #[.int .i64 n] w m (fun _ _ v => v = .agg (cdV (zDj n) noY).toArray) := by
 refine zX (vs := [_]) func19 rfl rfl rfl fun a0 hfr0 => ?_
 have hst0 := zV hA (zg [] _ w m)
 have hM : MLe m m := MLe.refl m
 refine zB fun _ hK1 => ?_
 replace hst0 := hst0.more (r := .free) trivial List.nodup_nil (by simp [Res.blocks])
 refine ra0 (tch := [(0, 0, (fun v => .blk v _))]) hst0 hfr0 (.consT rfl rfl (fun _ => rfl) rfl (zQ zeroValue25 rfl) <| .nil) fun a1 w1 m1 hst1 hle1 hk1 => ?_
 have hfr1 := hk1.fr (.o 0 <| .nil)
 obtain ⟨g2, e2, _⟩ := hk1.ex 2 rfl
 replace hfr1 := hfr1.cons e2
 replace hst1 := hst1.fin (L' := [_]) (.cons e2 <| .nil)
 clear hst0 hfr0 hk1
 refine hK1 _ _ ?_
 refine zB fun _ hK3 => ?_
 refine ra0 (tch := [(2, 0, (fun _ => .blk _ _))]) hst1 hfr1 (.cons rfl (zC rfl) <| .cons rfl (zP (.cons rfl <| .cons rfl <| .nil) underlying25 zeroValue25 (.cons sizeOf3 <| .cons sizeOf9 <| .cons sizeOf9 <| .cons sizeOf3 <| .cons sizeOf22 <| .cons sizeOf23 <| .nil) rfl) <| .consT rfl rfl (fun _ => rfl) rfl (zY rfl rfl rfl sizeOf25 rfl rfl rfl) <| .nil) fun a2 w2 m2 hst2 hle2 hk2 => ?_
 have hfr2 := hk2.fr (.o 2 <| .nil)
 replace hst2 := hst2.fin (L' := [_]) (.cons rfl <| .nil)
 try simp only [List.take_succ_cons, List.take_zero, List.drop_succ_cons, List.drop_zero, List.cons_append, List.nil_append, List.append_nil, List.length_cons, List.length_nil, Nat.zero_add, Nat.reduceAdd] at hst2
 clear hst1 hfr1 hk2
 refine hK3 _ _ ?_
 refine zN ?_
 repeat (with_reducible first | refine zH ?_ | refine zF ?_)
 exact zO hst2 hfr2 rfl (.cell rfl (zh (zd (hst2.loc.at_ (k := 0) rfl)) isAgg25 sizeOf25) <| .nil) (rfl)
set_option maxHeartbeats 400000 in
theorem add_c {w : World} {m : Mem} {a : Cd} {vs_a : List Value} {b : Cd} {vs_b : List Value} (hA : Agree w m) (h_a : CdR m a vs_a) (h_b : CdR m b vs_b) : FnV Try.prog 20 #[.agg vs_a.toArray, .agg vs_b.toArray] w m (fun _ m v => (MP.cd (addC a b)).p m v) := by
 obtain ⟨⟨oK_a, cK_a, oA_a, cA_a⟩, rfl, ⟨hik_a, hin_a⟩, hkk_a, haa_a⟩ := h_a.open_
 dsimp only at hkk_a haa_a
 have hbg_a := hkk_a.big; have hcp_a := hkk_a.cap; have hbh_a := haa_a.big; have hcq_a := haa_a.cap
 obtain ⟨⟨oK_b, cK_b, oA_b, cA_b⟩, rfl, ⟨hik_b, hin_b⟩, hkk_b, haa_b⟩ := h_b.open_
 dsimp only at hkk_b haa_b
 have hbg_b := hkk_b.big; have hcp_b := hkk_b.cap; have hbh_b := haa_b.big; have hcq_b := haa_b.cap
 refine zX (vs := [_, _]) func20 rfl rfl rfl fun a0 hfr0 => ?_
 have hst0 := zV hA (zg [] _ w m)
 have hM : MLe m m := MLe.refl m
 refine zB fun _ hK1 => ?_
 replace hst0 := hst0.more (r := .free) trivial List.nodup_nil (by simp [Res.blocks])
 refine ra0 (tch := [(2, 0, (fun v => .blk v _))]) hst0 hfr0 (.cons rfl (zt rfl rfl) <| .cons rfl (zt rfl rfl) <| .consT rfl rfl (fun _ => rfl) rfl (zQ zeroValue25 rfl) <| .nil) fun a1 w1 m1 hst1 hle1 hk1 => ?_
 have hfr1 := hk1.fr (.nil)
 obtain ⟨g2, e2, hc2⟩ := hk1.ex 2 rfl
 replace hfr1 := hfr1.cons e2
 obtain ⟨g3, e3, hc3⟩ := hk1.ex 3 rfl
 replace hfr1 := hfr1.cons e3
 obtain ⟨g4, e4, _⟩ := hk1.ex 4 rfl
 replace hfr1 := hfr1.cons e4
 replace hst1 := hst1.fin (L' := [_]) (.cons e4 <| .nil)
 replace h_a := h_a.mono hle1
 replace h_b := h_b.mono hle1
 clear hst0 hfr0 hk1
 refine hK1 _ _ ?_
 refine zB fun _ hK5 => ?_
 refine z1 3 (by kernel_rfl) ?_
 refine zo (tch := []) hst1 hfr1 (by kernel_rfl) (by kernel_rfl) (by kernel_rfl) (.cons rfl (zc rfl hc2 isAgg25 sizeOf25 rfl rfl) <| .cons rfl (zc rfl hc3 isAgg25 sizeOf25 rfl rfl) <| .cons rfl (ZI rfl rfl underlying22 sizeOf25 zeroValue25 rfl rfl rfl rfl rfl) <| .nil) fun a2 w2 m2 hst2 hle2 hk2 => ?_
 have hfr2 := hk2.fr (.o 2 <| .o 3 <| .o 4 <| .nil)
 obtain ⟨gK, e6, hK⟩ := hk2.ex 7 rfl
 replace hfr2 := hfr2.cons e6
 replace h_a := h_a.mono hle2
 replace h_b := h_b.mono hle2
 clear hst1 hfr1 hk2
 refine zo (tch := [(1, 0, (fun _ => .blk _ _))]) hst2 hfr2 (by kernel_rfl) (by kernel_rfl) (by kernel_rfl) (.cons rfl (zP (cs := cdV (addC a b) ⟨some ⟨gK, 0, none⟩, 2, none, 0⟩) (.cons rfl <| .cons rfl <| .cons rfl <| .nil) underlying25 zeroValue25 (.cons sizeOf3 <| .cons sizeOf9 <| .cons sizeOf9 <| .cons sizeOf3 <| .cons sizeOf22 <| .cons sizeOf23 <| .nil) (rfl)) <| .consT rfl rfl (fun _ => rfl) rfl (zY rfl rfl rfl sizeOf25 rfl rfl rfl) <| .nil) fun a3 w3 m3 hst3 hle3 hk3 => ?_
 have hfr3 := hk3.fr (.o 2 <| .o 3 <| .o 4 <| .o 7 <| .nil)
 replace hst3 := hst3.fin (L' := [_]) (.cons rfl <| .nil)
 try simp only [List.take_succ_cons, List.take_zero, List.drop_succ_cons, List.drop_zero, List.cons_append, List.nil_append, List.append_nil, List.length_cons, List.length_nil, Nat.zero_add, Nat.reduceAdd] at hst3
 replace h_a := h_a.mono hle3
 replace h_b := h_b.mono hle3
 replace hK := hK.mono hle3
 clear hst2 hfr2 hk3
 refine hK5 _ _ ?_
 refine zN ?_
 repeat (with_reducible first | refine zH ?_ | refine zF ?_)
 exact zO hst3 hfr3 rfl (.cell rfl (zh (zd (hst3.loc.at_ (k := 0) rfl)) isAgg25 sizeOf25) <| .nil) (⟨_, rfl, node2_R ⟨by decide, by decide⟩ hK h_a h_b⟩)
set_option maxHeartbeats 400000 in
theorem bind_c {w : World} {m : Mem} {s : Str} {a : Cd} {vs_a : List Value} {b : Cd} {vs_b : List Value} (hA : Agree w m) (h_a : CdR m a vs_a) (h_b : CdR m b vs_b) : FnV Try.prog 24 #[S s, .agg vs_a.toArray, .agg vs_b.toArray] w m (fun _ m v => (MP.cd (zAZ s a b)).p m v) := by
 obtain ⟨⟨oK_a, cK_a, oA_a, cA_a⟩, rfl, ⟨hik_a, hin_a⟩, hkk_a, haa_a⟩ := h_a.open_
 dsimp only at hkk_a haa_a
 have hbg_a := hkk_a.big; have hcp_a := hkk_a.cap; have hbh_a := haa_a.big; have hcq_a := haa_a.cap
 obtain ⟨⟨oK_b, cK_b, oA_b, cA_b⟩, rfl, ⟨hik_b, hin_b⟩, hkk_b, haa_b⟩ := h_b.open_
 dsimp only at hkk_b haa_b
 have hbg_b := hkk_b.big; have hcp_b := hkk_b.cap; have hbh_b := haa_b.big; have hcq_b := haa_b.cap
 refine zX (vs := [_, _, _]) func24 rfl rfl rfl fun a0 hfr0 => ?_
 have hst0 := zV hA (zg [] _ w m)
 have hM : MLe m m := MLe.refl m
 refine zB fun _ hK1 => ?_
 replace hst0 := hst0.more (r := .free) trivial List.nodup_nil (by simp [Res.blocks])
 refine ra0 (tch := [(2, 0, (fun v => .blk v _))]) hst0 hfr0 (.cons rfl (zt rfl rfl) <| .cons rfl (zt rfl rfl) <| .consT rfl rfl (fun _ => rfl) rfl (zQ zeroValue25 rfl) <| .nil) fun a1 w1 m1 hst1 hle1 hk1 => ?_
 have hfr1 := hk1.fr (.o 0 <| .nil)
 obtain ⟨g2, e2, hc4⟩ := hk1.ex 4 rfl
 replace hfr1 := hfr1.cons e2
 obtain ⟨g3, e3, hc5⟩ := hk1.ex 5 rfl
 replace hfr1 := hfr1.cons e3
 obtain ⟨g6, e4, _⟩ := hk1.ex 6 rfl
 replace hfr1 := hfr1.cons e4
 replace hst1 := hst1.fin (L' := [_]) (.cons e4 <| .nil)
 replace h_a := h_a.mono hle1
 replace h_b := h_b.mono hle1
 clear hst0 hfr0 hk1
 refine hK1 _ _ ?_
 refine zB fun _ hK5 => ?_
 refine z1 4 (by kernel_rfl) ?_
 refine zo (tch := []) hst1 hfr1 (by kernel_rfl) (by kernel_rfl) (by kernel_rfl) (.cons rfl (zC rfl) <| .cons rfl (zc rfl hc4 isAgg25 sizeOf25 rfl rfl) <| .cons rfl (zc rfl hc5 isAgg25 sizeOf25 rfl rfl) <| .cons rfl (ZI rfl rfl underlying22 sizeOf25 zeroValue25 rfl rfl rfl rfl rfl) <| .nil) fun a2 w2 m2 hst2 hle2 hk2 => ?_
 have hfr2 := hk2.fr (.o 0 <| .o 4 <| .o 5 <| .o 6 <| .n 7 <| .nil)
 obtain ⟨gK, e6, hK⟩ := hk2.ex 10 rfl
 replace hfr2 := hfr2.cons e6
 replace h_a := h_a.mono hle2
 replace h_b := h_b.mono hle2
 clear hst1 hfr1 hk2
 refine zo (tch := [(1, 0, (fun _ => .blk _ _))]) hst2 hfr2 (by kernel_rfl) (by kernel_rfl) (by kernel_rfl) (.cons rfl (zP (cs := cdV (zAZ s a b) ⟨some ⟨gK, 0, none⟩, 2, none, 0⟩) (.cons rfl <| .cons rfl <| .cons rfl <| .nil) underlying25 zeroValue25 (.cons sizeOf3 <| .cons sizeOf9 <| .cons sizeOf9 <| .cons sizeOf3 <| .cons sizeOf22 <| .cons sizeOf23 <| .nil) (rfl)) <| .consT rfl rfl (fun _ => rfl) rfl (zY rfl rfl rfl sizeOf25 rfl rfl rfl) <| .nil) fun a3 w3 m3 hst3 hle3 hk3 => ?_
 have hfr3 := hk3.fr (.o 0 <| .o 4 <| .o 5 <| .o 6 <| .o 7 <| .o 10 <| .nil)
 replace hst3 := hst3.fin (L' := [_]) (.cons rfl <| .nil)
 try simp only [List.take_succ_cons, List.take_zero, List.drop_succ_cons, List.drop_zero, List.cons_append, List.nil_append, List.append_nil, List.length_cons, List.length_nil, Nat.zero_add, Nat.reduceAdd] at hst3
 replace h_a := h_a.mono hle3
 replace h_b := h_b.mono hle3
 replace hK := hK.mono hle3
 clear hst2 hfr2 hk3
 refine hK5 _ _ ?_
 refine zN ?_
 repeat (with_reducible first | refine zH ?_ | refine zF ?_)
 exact zO hst3 hfr3 rfl (.cell rfl (zh (zd (hst3.loc.at_ (k := 0) rfl)) isAgg25 sizeOf25) <| .nil) (⟨_, rfl, node2_R ⟨by decide, by decide⟩ hK h_a h_b⟩)
set_option maxHeartbeats 400000 in
theorem lop_c {w : World} {m : Mem} {s : Str} {o_l : Option Addr} {c_l : Nat} {l : List Cd} (hA : Agree w m) (h_l : Cds m o_l l.length c_l l) : FnV Try.prog 25 #[S s, .slice o_l l.length c_l] w m (fun _ _ v => v = .agg (cdV (opC s l) ⟨o_l, c_l, none, 0⟩).toArray) := by
 have hb_l := h_l.big; have hc_l := h_l.cap
 refine zX (vs := [_, _]) func25 rfl rfl rfl fun a0 hfr0 => ?_
 have hst0 := zV hA (zg [] _ w m)
 have hM : MLe m m := MLe.refl m
 refine zB fun _ hK1 => ?_
 replace hst0 := hst0.more (r := .free) trivial List.nodup_nil (by simp [Res.blocks])
 refine ra0 (tch := [(0, 0, (fun v => .blk v _))]) hst0 hfr0 (.consT rfl rfl (fun _ => rfl) rfl (zQ zeroValue25 rfl) <| .nil) fun a1 w1 m1 hst1 hle1 hk1 => ?_
 have hfr1 := hk1.fr (.o 0 <| .o 1 <| .nil)
 obtain ⟨g4, e2, _⟩ := hk1.ex 4 rfl
 replace hfr1 := hfr1.cons e2
 replace hst1 := hst1.fin (L' := [_]) (.cons e2 <| .nil)
 clear hst0 hfr0 hk1
 refine hK1 _ _ ?_
 refine zB fun _ hK3 => ?_
 refine ra0 (tch := [(3, 0, (fun _ => .blk _ _))]) hst1 hfr1 (.cons rfl (zC rfl) <| .cons rfl (zC rfl) <| .cons rfl (zP (.cons rfl <| .cons rfl <| .cons rfl <| .nil) underlying25 zeroValue25 (.cons sizeOf3 <| .cons sizeOf9 <| .cons sizeOf9 <| .cons sizeOf3 <| .cons sizeOf22 <| .cons sizeOf23 <| .nil) rfl) <| .consT rfl rfl (fun _ => rfl) rfl (zY rfl rfl rfl sizeOf25 rfl rfl rfl) <| .nil) fun a2 w2 m2 hst2 hle2 hk2 => ?_
 have hfr2 := hk2.fr (.o 4 <| .nil)
 replace hst2 := hst2.fin (L' := [_]) (.cons rfl <| .nil)
 try simp only [List.take_succ_cons, List.take_zero, List.drop_succ_cons, List.drop_zero, List.cons_append, List.nil_append, List.append_nil, List.length_cons, List.length_nil, Nat.zero_add, Nat.reduceAdd] at hst2
 clear hst1 hfr1 hk2
 refine hK3 _ _ ?_
 refine zN ?_
 repeat (with_reducible first | refine zH ?_ | refine zF ?_)
 exact zO hst2 hfr2 rfl (.cell rfl (zh (zd (hst2.loc.at_ (k := 0) rfl)) isAgg25 sizeOf25) <| .nil) (rfl)
set_option maxHeartbeats 400000 in
theorem same_c {w : World} {m : Mem}  (hA : Agree w m)  : FnV Try.prog 21 #[] w m (fun _ m v => (MP.ca sameA).p m v) := by
 refine zX (vs := []) func21 rfl rfl rfl fun a0 hfr0 => ?_
 have hst0 := zV hA (zg [] _ w m)
 have hM : MLe m m := MLe.refl m
 refine zB fun _ hK1 => ?_
 replace hst0 := hst0.more (r := .free) trivial List.nodup_nil (by simp [Res.blocks])
 refine ra0 (tch := [(0, 0, (fun v => .blk v _))]) hst0 hfr0 (.consT rfl rfl (fun _ => rfl) rfl (zQ zeroValue47 rfl) <| .nil) fun a1 w1 m1 hst1 hle1 hk1 => ?_
 have hfr1 := hk1.fr (.nil)
 obtain ⟨g0, e2, _⟩ := hk1.ex 0 rfl
 replace hfr1 := hfr1.cons e2
 replace hst1 := hst1.fin (L' := [_]) (.cons e2 <| .nil)
 clear hst0 hfr0 hk1
 refine hK1 _ _ ?_
 refine zB fun _ hK3 => ?_
 refine z1 1 (by kernel_rfl) ?_
 refine zo (tch := []) hst1 hfr1 (by kernel_rfl) (by kernel_rfl) (by kernel_rfl) (.cons rfl (ZY (.cons rfl <| .nil) underlying45 sizeOf9 zeroValue9 rfl rfl rfl rfl) <| .nil) fun a2 w2 m2 hst2 hle2 hk2 => ?_
 have hfr2 := hk2.fr (.o 0 <| .nil)
 obtain ⟨gK, e4, hK⟩ := hk2.ex 1 rfl
 replace hfr2 := hfr2.cons e4
 clear hst1 hfr1 hk2
 refine zo (tch := [(2, 0, (fun _ => .blk _ _))]) hst2 hfr2 (by kernel_rfl) (by kernel_rfl) (by kernel_rfl) (.cons rfl (zZ rfl (.cons rfl <| .nil) call18 (fun w m hK => by have hle_ := KC.le hK; have hA := KC.agree hK; exact zBC (s := [120]) hA)) <| .cons rfl (zP (.cons rfl <| .cons rfl <| .cons rfl <| .nil) underlying47 zeroValue47 (.cons sizeOf9 <| .cons sizeOf45 <| .cons sizeOf4 <| .cons sizeOf25 <| .nil) rfl) <| .consT rfl rfl (fun _ => rfl) rfl (zY rfl rfl rfl sizeOf47 rfl rfl rfl) <| .nil) fun a3 w3 m3 hst3 hle3 hk3 => ?_
 have hfr3 := hk3.fr (.o 0 <| .o 1 <| .nil)
 replace hst3 := hst3.fin (L' := [_]) (.cons rfl <| .nil)
 try simp only [List.take_succ_cons, List.take_zero, List.drop_succ_cons, List.drop_zero, List.cons_append, List.nil_append, List.append_nil, List.length_cons, List.length_nil, Nat.zero_add, Nat.reduceAdd] at hst3
 replace hK := hK.mono hle3
 clear hst2 hfr2 hk3
 refine hK3 _ _ ?_
 refine zN ?_
 repeat (with_reducible first | refine zH ?_ | refine zF ?_)
 exact zO hst3 hfr3 rfl (.cell rfl (zh (zd (hst3.loc.at_ (k := 0) rfl)) isAgg47 sizeOf47) <| .nil) (⟨(some ⟨gK, 0, none⟩, 1, noY), rfl, arm_R (l := [[120]]) (strs_row (l := [[120]]) hK (by decide)) (var_R [120])⟩)
set_option maxHeartbeats 400000 in
theorem zCa {w : World} {m : Mem}  (hA : Agree w m)  : FnV Try.prog 15 #[] w m (fun _ m v => (MP.efs efs).p m v) := by
 refine zX (vs := []) func15 rfl rfl rfl fun a0 hfr0 => ?_
 have hst0 := zV hA (zg [] _ w m)
 have hM : MLe m m := MLe.refl m
 refine zB fun _ hK1 => ?_
 refine rp0 hst0 hfr0 (.cons rfl (zD rfl) <| .nil) fun a1 w1 m1 hst1 hle1 hk1 => ?_
 have hfr1 := hk1.fr (.nil)
 clear hst0 hfr0 hk1
 refine hK1 _ _ ?_
 refine zB fun _ hK2 => ?_
 refine z1 3 (by kernel_rfl) ?_
 refine zo (tch := []) hst1 hfr1 (by kernel_rfl) (by kernel_rfl) (by kernel_rfl) (.cons rfl (zP (cs := [S zCx, .int .i64 0, S [], .int .i64 0, .slice none 0 0, .slice none 0 0, .int .i64 0, .int .i64 0, S [], .int .i64 0, .slice none 0 0, .slice none 0 0, .int .i64 0]) (.cons rfl <| .nil) underlying92 zeroValue92 (.cons sizeOf9 <| .cons sizeOf90 <| .cons sizeOf90 <| .nil) (rfl)) <| .cons rfl (zP (cs := [S putS, .int .i64 0, S [], .int .i64 0, .slice none 0 0, .slice none 0 0, .int .i64 0, .int .i64 0, S [], .int .i64 0, .slice none 0 0, .slice none 0 0, .int .i64 0]) (.cons rfl <| .nil) underlying92 zeroValue92 (.cons sizeOf9 <| .cons sizeOf90 <| .cons sizeOf90 <| .nil) (rfl)) <| .cons rfl (ZI rfl rfl underlying83 sizeOf92 zeroValue92 rfl rfl rfl rfl rfl) <| .nil) fun a2 w2 m2 hst2 hle2 hk2 => ?_
 have hfr2 := hk2.fr (.nil)
 obtain ⟨gA, e3, hA9⟩ := hk2.ex 3 rfl
 replace hfr2 := hfr2.cons e3
 clear hst1 hfr1 hk2
 have hoA : Ops m2 (some ⟨gA, 0, none⟩) 2 2 [zCx, putS] := (Sl.two (R := fun m vs s => OpR m vs s) hA9 rfl rfl (op_R zCx) (op_R putS))
 refine zBd 4 (by kernel_rfl) ?_
 refine zo (tch := []) hst2 hfr2 (by kernel_rfl) (by kernel_rfl) (by kernel_rfl) (.cons rfl (zP (cs := [S [69], .slice (some ⟨gA, 0, none⟩) 2 2]) (.cons rfl <| .cons rfl <| .nil) underlying85 zeroValue85 (.cons sizeOf9 <| .cons sizeOf83 <| .nil) (rfl)) <| .cons rfl (zP (cs := [S [120], .int .i64 0, S [], .int .i64 0, .slice none 0 0, .slice none 0 0, .int .i64 0, .int .i64 0, S [], .int .i64 0, .slice none 0 0, .slice none 0 0, .int .i64 0]) (.cons rfl <| .nil) underlying92 zeroValue92 (.cons sizeOf9 <| .cons sizeOf90 <| .cons sizeOf90 <| .nil) (rfl)) <| .cons rfl (zP (cs := [S zCx, .int .i64 0, S [], .int .i64 0, .slice none 0 0, .slice none 0 0, .int .i64 0, .int .i64 0, S [], .int .i64 0, .slice none 0 0, .slice none 0 0, .int .i64 0]) (.cons rfl <| .nil) underlying92 zeroValue92 (.cons sizeOf9 <| .cons sizeOf90 <| .cons sizeOf90 <| .nil) (rfl)) <| .cons rfl (ZI rfl rfl underlying83 sizeOf92 zeroValue92 rfl rfl rfl rfl rfl) <| .nil) fun a3 w3 m3 hst3 hle3 hk3 => ?_
 have hfr3 := hk3.fr (.o 3 <| .n 4 <| .nil)
 obtain ⟨gB, e4, hB9⟩ := hk3.ex 7 rfl
 replace hfr3 := hfr3.cons e4
 replace hoA := hoA.mono hle3
 clear hst2 hfr2 hk3
 have hoB : Ops m3 (some ⟨gB, 0, none⟩) 2 2 [[120], zCx] := (Sl.two (R := fun m vs s => OpR m vs s) hB9 rfl rfl (op_R [120]) (op_R zCx))
 refine zo (tch := []) hst3 hfr3 (by kernel_rfl) (by kernel_rfl) (by kernel_rfl) (.cons rfl (zP (cs := [S [70], .slice (some ⟨gB, 0, none⟩) 2 2]) (.cons rfl <| .cons rfl <| .nil) underlying85 zeroValue85 (.cons sizeOf9 <| .cons sizeOf83 <| .nil) (rfl)) <| .cons rfl (ZI rfl rfl underlying37 sizeOf85 zeroValue85 rfl rfl rfl rfl rfl) <| .consA 9 rfl rfl <| .nil) fun a4 w4 m4 hst4 hle4 hk4 => ?_
 have hfr4 := hk4.fr (.o 3 <| .o 4 <| .o 7 <| .nil)
 obtain ⟨gC, e5, hC9⟩ := hk4.ex 9 rfl
 replace hfr4 := hfr4.cons e5
 replace hfr4 := hfr4.cons (hk4.same 0 rfl e5)
 replace hoA := hoA.mono hle4
 replace hoB := hoB.mono hle4
 clear hst3 hfr3 hk4
 refine hK2 _ _ ?_
 refine zN ?_
 repeat (with_reducible first | refine zH ?_ | refine zF ?_)
 exact zO hst4 hfr4 rfl (.tmp rfl <| .nil) (⟨(some ⟨gC, 0, none⟩, 2), rfl, Sl.two (R := fun m vs e => EfR m vs e) hC9 rfl rfl (⟨_, _, rfl, hoA⟩ : EfR _ _ (⟨[69], [zCx, putS]⟩ : Ef)) (⟨_, _, rfl, hoB⟩ : EfR _ _ (⟨[70], [[120], zCx]⟩ : Ef))⟩)
set_option maxHeartbeats 3200000 in
theorem shown_c {w : World} {m : Mem}  (hA : Agree w m)  : FnV Try.prog 12 #[] w m (fun _ _ v => v = .bool true) := by
 refine zX (vs := []) func12 rfl rfl rfl fun a0 hfr0 => ?_
 have hst0 := zV hA (zg [] _ w m)
 have hM : MLe m m := MLe.refl m
 refine zB fun _ hK1 => ?_
 refine rp0 hst0 hfr0 (.cons rfl (zD rfl) <| .nil) fun a1 w1 m1 hst1 hle1 hk1 => ?_
 have hfr1 := hk1.fr (.nil)
 clear hst0 hfr0 hk1
 refine hK1 _ _ ?_
 refine zB fun _ hK2 => ?_
 refine z1 2 (by kernel_rfl) ?_
 refine zo (tch := []) hst1 hfr1 (by kernel_rfl) (by kernel_rfl) (by kernel_rfl) (.cons rfl (zZ rfl (.cons rfl <| .nil) call19 (fun w m hK => by have hle_ := KC.le hK; have hA := KC.agree hK; exact lnum_c (n := 1) hA)) <| .cons rfl (Zx rfl underlying22 sizeOf25 zeroValue25 rfl rfl rfl rfl) <| .nil) fun a2 w2 m2 hst2 hle2 hk2 => ?_
 have hfr2 := hk2.fr (.nil)
 obtain ⟨gA, e3, hA9⟩ := hk2.ex 9 rfl
 replace hfr2 := hfr2.cons e3
 clear hst1 hfr1 hk2
 have hask : CdR m2 ask1 (cdV ask1 ⟨some ⟨gA, 0, none⟩, 1, none, 0⟩) := node1_R ⟨by decide, by decide⟩ hA9 (int_R ⟨by decide, by decide⟩)
 replace hst2 := hst2.more (r := .free) trivial List.nodup_nil (by simp [Res.blocks])
 refine zo (tch := [(1, 0, (fun v => .blk v _)), (2, 0, (fun v => .blk v _))]) hst2 hfr2 (by kernel_rfl) (by kernel_rfl) (by kernel_rfl) (.cons rfl (zP (cs := cdV ask1 ⟨some ⟨gA, 0, none⟩, 1, none, 0⟩) (.cons rfl <| .cons rfl <| .cons rfl <| .nil) underlying25 zeroValue25 (.cons sizeOf3 <| .cons sizeOf9 <| .cons sizeOf9 <| .cons sizeOf3 <| .cons sizeOf22 <| .cons sizeOf23 <| .nil) (rfl)) <| .consT rfl rfl (fun _ => rfl) rfl (zQ zeroValue25 rfl) <| .consT rfl rfl (fun _ => rfl) rfl (zf 1 rfl rfl rfl fun y1 => za rfl rfl rfl rfl rfl sizeOf25 rfl rfl rfl) <| .nil) fun a3 w3 m3 hst3 hle3 hk3 => ?_
 have hfr3 := hk3.fr (.o 9 <| .nil)
 obtain ⟨g1, e4, _⟩ := hk3.ex 1 rfl
 replace hfr3 := hfr3.cons e4
 replace hst3 := hst3.fin (L' := [_]) (.cons e4 <| .cons e4 <| .nil)
 try simp only [List.take_succ_cons, List.take_zero, List.drop_succ_cons, List.drop_zero, List.cons_append, List.nil_append, List.append_nil, List.length_cons, List.length_nil, Nat.zero_add, Nat.reduceAdd] at hst3
 replace hask := hask.mono hle3
 clear hst2 hfr2 hk3
 refine hK2 _ _ ?_
 refine zB fun _ hK5 => ?_
 replace hst3 := hst3.more (r := .free) trivial List.nodup_nil (by simp [Res.blocks])
 refine zb (tch := [(6, 1, (fun v => .blk v _)), (7, 1, (fun v => .blkx v _ _))]) (fun _ => zy) hst3 hfr3 (by kernel_rfl) (by kernel_rfl) (by kernel_rfl) (.cons rfl (zl (j := 0) rfl rfl isAgg25 sizeOf25 rfl) <| .cons rfl (zZ rfl (.cons rfl <| .nil) call18 (fun w m hK => by have hle_ := KC.le hK; have hA := KC.agree hK; exact zBC (s := [97]) hA)) <| .cons rfl (zZ rfl (.cons rfl <| .nil) call19 (fun w m hK => by have hle_ := KC.le hK; have hA := KC.agree hK; exact lnum_c (n := 1) hA)) <| .cons rfl (zp (φ := MP.cd (addC (zBf [97]) (zDj 1))) rfl (.cons rfl <| .cons rfl <| .nil) call20 (fun w m hK => by have hle_ := KC.le hK; have hA := KC.agree hK; exact FnG.mono (add_c hA (var_R [97]) (int_R ⟨by decide, by decide⟩)) fun _ _ _ _ h => h)) <| .cons rfl (zCM 14 rfl rfl rfl fun y14 => ZI rfl rfl underlying22 sizeOf25 zeroValue25 rfl rfl rfl rfl rfl) <| .cons rfl (zAX 15 rfl rfl rfl fun y15 => zP (.cons rfl <| .cons rfl <| .cons rfl <| .nil) underlying25 zeroValue25 (.cons sizeOf3 <| .cons sizeOf9 <| .cons sizeOf9 <| .cons sizeOf3 <| .cons sizeOf22 <| .cons sizeOf23 <| .nil) rfl) <| .consT rfl rfl (fun _ => rfl) rfl (zQ zeroValue25 rfl) <| .consT rfl rfl (fun _ => rfl) rfl (zf 2 rfl rfl rfl fun y2 => ZM 16 rfl rfl rfl fun y16 => za rfl rfl rfl rfl rfl sizeOf25 rfl rfl rfl) <| .nil) fun a4 w4 m4 hst4 hle4 hk4 => ?_
 have hfr4 := hk4.fr (.o 1 <| .nil)
 obtain ⟨g2, e6, _⟩ := hk4.ex 2 rfl
 replace hfr4 := hfr4.cons e6
 replace hst4 := hst4.fin (L' := [_, _]) (.cons e6 <| .cons e6 <| .nil)
 try simp only [List.take_succ_cons, List.take_zero, List.drop_succ_cons, List.drop_zero, List.cons_append, List.nil_append, List.append_nil, List.length_cons, List.length_nil, Nat.zero_add, Nat.reduceAdd] at hst4
 obtain ⟨⟨y14, g15⟩, ⟨h14, h15⟩, hst4⟩ := hst4.unx (k := 1) rfl (fun _ => rfl)
 replace hask := hask.mono hle4
 clear hst3 hfr3 hk4
 have h15b : CellsAt m4 ⟨g15, 0, none⟩ (cdV ask1 ⟨some ⟨gA, 0, none⟩, 1, none, 0⟩ ++ cdV (addC (zBf [97]) (zDj 1)) y14) := h15
 have hbo : CdR m4 (zAZ [97] ask1 (addC (zBf [97]) (zDj 1))) (cdV (zAZ [97] ask1 (addC (zBf [97]) (zDj 1))) ⟨some ⟨g15, 0, none⟩, 2, none, 0⟩) := node2_R ⟨by decide, by decide⟩ h15b hask h14
 refine hK5 _ _ ?_
 refine zB fun _ hK8 => ?_
 replace hst4 := hst4.more (r := .free) trivial List.nodup_nil (by simp [Res.blocks])
 refine ra0 (tch := [(5, 2, (fun v => .blk v _)), (6, 2, (fun v => .blkx v _ _))]) hst4 hfr4 (.cons rfl (ZY (.cons rfl <| .nil) underlying45 sizeOf9 zeroValue9 rfl rfl rfl rfl) <| .cons rfl (zZ rfl (.cons rfl <| .nil) call18 (fun w m hK => by have hle_ := KC.le hK; have hA := KC.agree hK; exact zBC (s := [120]) hA)) <| .cons rfl (zZ rfl (.cons rfl <| .nil) call19 (fun w m hK => by have hle_ := KC.le hK; have hA := KC.agree hK; exact lnum_c (n := 1) hA)) <| .cons rfl (zp (φ := MP.cd (addC (zBf [120]) (zDj 1))) rfl (.cons rfl <| .cons rfl <| .nil) call20 (fun w m hK => by have hle_ := KC.le hK; have hA := KC.agree hK; exact FnG.mono (add_c hA (var_R [120]) (int_R ⟨by decide, by decide⟩)) fun _ _ _ _ h => h)) <| .cons rfl (zCM 17 rfl rfl rfl fun y17 => zAX 20 rfl rfl rfl fun y20 => zP (.cons rfl <| .cons rfl <| .cons rfl <| .cons rfl <| .nil) underlying47 zeroValue47 (.cons sizeOf9 <| .cons sizeOf45 <| .cons sizeOf4 <| .cons sizeOf25 <| .nil) rfl) <| .consT rfl rfl (fun _ => rfl) rfl (zQ zeroValue47 rfl) <| .consT rfl rfl (fun _ => rfl) rfl (zf 3 rfl rfl rfl fun y3 => ZM 21 rfl rfl rfl fun y21 => za rfl rfl rfl rfl rfl sizeOf47 rfl rfl rfl) <| .nil) fun a5 w5 m5 hst5 hle5 hk5 => ?_
 have hfr5 := hk5.fr (.o 1 <| .o 2 <| .nil)
 obtain ⟨g3, e9, _⟩ := hk5.ex 3 rfl
 replace hfr5 := hfr5.cons e9
 replace hst5 := hst5.fin (L' := [_, _, _]) (.cons e9 <| .cons e9 <| .nil)
 try simp only [List.take_succ_cons, List.take_zero, List.drop_succ_cons, List.drop_zero, List.cons_append, List.nil_append, List.append_nil, List.length_cons, List.length_nil, Nat.zero_add, Nat.reduceAdd] at hst5
 obtain ⟨⟨g17, y20⟩, ⟨h17, h20⟩, hst5⟩ := hst5.unx (k := 2) rfl (fun _ => rfl)
 replace hask := hask.mono hle5
 replace hbo := hbo.mono hle5
 clear hst4 hfr4 hk5
 have htl : CaR m5 shTail (caV shTail (some ⟨g17, 0, none⟩, 1, y20)) := arm_R (l := [[120]]) (strs_row (l := [[120]]) h17 (by decide)) h20
 refine hK8 _ _ ?_
 refine zB fun _ hK11 => ?_
 replace hst5 := hst5.more (r := .free) trivial List.nodup_nil (by simp [Res.blocks])
 refine zb (tch := [(6, 3, (fun v => .blk v _)), (7, 3, (fun v => .blkx v _ _))]) (fun _ => zy) hst5 hfr5 (by kernel_rfl) (by kernel_rfl) (by kernel_rfl) (.cons rfl (zl (j := 1) rfl rfl isAgg25 sizeOf25 rfl) <| .cons rfl (Zx rfl underlying22 sizeOf25 zeroValue25 rfl rfl rfl rfl) <| .cons rfl (zp (φ := MP.ca sameA) rfl (.nil) call21 (fun w m hK => by have hle_ := KC.le hK; have hA := KC.agree hK; exact FnG.mono (same_c hA) fun _ _ _ _ h => h)) <| .cons rfl (zl (j := 2) rfl rfl isAgg47 sizeOf47 rfl) <| .cons rfl (zCM 24 rfl rfl rfl fun y24 => ZI rfl rfl underlying23 sizeOf47 zeroValue47 rfl rfl rfl rfl rfl) <| .cons rfl (zCM 23 rfl rfl rfl fun y23 => zAX 26 rfl rfl rfl fun y26 => zP (.cons rfl <| .cons rfl <| .cons rfl <| .cons rfl <| .nil) underlying25 zeroValue25 (.cons sizeOf3 <| .cons sizeOf9 <| .cons sizeOf9 <| .cons sizeOf3 <| .cons sizeOf22 <| .cons sizeOf23 <| .nil) rfl) <| .consT rfl rfl (fun _ => rfl) rfl (zQ zeroValue25 rfl) <| .consT rfl rfl (fun _ => rfl) rfl (zf 4 rfl rfl rfl fun y4 => ZM 27 rfl rfl rfl fun y27 => za rfl rfl rfl rfl rfl sizeOf25 rfl rfl rfl) <| .nil) fun a6 w6 m6 hst6 hle6 hk6 => ?_
 have hfr6 := hk6.fr (.o 1 <| .nil)
 obtain ⟨g4, e12, _⟩ := hk6.ex 4 rfl
 replace hfr6 := hfr6.cons e12
 replace hst6 := hst6.fin (L' := [_, _, _, _]) (.cons e12 <| .cons e12 <| .nil)
 try simp only [List.take_succ_cons, List.take_zero, List.drop_succ_cons, List.drop_zero, List.cons_append, List.nil_append, List.append_nil, List.length_cons, List.length_nil, Nat.zero_add, Nat.reduceAdd] at hst6
 obtain ⟨⟨g23, ⟨y24, g26⟩⟩, ⟨h23, ⟨h24, h26⟩⟩, hst6⟩ := hst6.unx (k := 3) rfl (fun _ => rfl)
 replace hask := hask.mono hle6
 replace hbo := hbo.mono hle6
 replace htl := htl.mono hle6
 clear hst5 hfr5 hk6
 have h26b : CellsAt m6 ⟨g26, 0, none⟩ (caV sameA y24 ++ caV shTail (some ⟨g17, 0, none⟩, 1, y20)) := h26
 have hsh : CdR m6 shC (cdV shC ⟨some ⟨g23, 0, none⟩, 1, some ⟨g26, 0, none⟩, 2⟩) := node1a_R ⟨by decide, by decide⟩ h23 hbo (arms2_R h26b h24 htl)
 refine hK11 _ _ ?_
 refine zB fun _ hK14 => ?_
 replace hst6 := hst6.more (r := .free) trivial List.nodup_nil (by simp [Res.blocks])
 refine zb (tch := [(3, 4, (fun v => .blk v _)), (4, 4, (fun v => .blkx v _ _))]) (fun _ => zy) hst6 hfr6 (by kernel_rfl) (by kernel_rfl) (by kernel_rfl) (.cons rfl (zl (j := 3) rfl rfl isAgg25 sizeOf25 rfl) <| .cons rfl (zp (φ := MP.efs efs) rfl (.nil) call15 (fun w m hK => by have hle_ := KC.le hK; have hA := KC.agree hK; exact FnG.mono (zCa hA) fun _ _ _ _ h => h)) <| .cons rfl (zCT 29 rfl rfl rfl fun y29 => zp (φ := MP.rn shR) rfl (.cons rfl <| .cons rfl <| .cons rfl <| .cons rfl <| .nil) call14 (fun w m hK => by have hle_ := KC.le hK; have hA := KC.agree hK; have hr0_ := hK.2; have hsh := hsh.mono hle_; exact FnG.mono (run_c (c := shC) (es := efs) (input := []) (fuel := 100) (r := shR) hA hsh hr0_ Sl.empty (by simp) run_sh1 (by simp) (by omega)) fun _ _ _ _ h => h)) <| .consT rfl rfl (fun _ => rfl) rfl (zQ zeroValue35 rfl) <| .consT rfl rfl (fun _ => rfl) rfl (zf 5 rfl rfl rfl fun y5 => ZM 30 rfl rfl rfl fun y30 => za rfl rfl rfl rfl rfl sizeOf35 rfl rfl rfl) <| .nil) fun a7 w7 m7 hst7 hle7 hk7 => ?_
 have hfr7 := hk7.fr (.o 1 <| .nil)
 obtain ⟨g5, e15, _⟩ := hk7.ex 5 rfl
 replace hfr7 := hfr7.cons e15
 replace hst7 := hst7.fin (L' := [_, _, _, _, _]) (.cons e15 <| .cons e15 <| .nil)
 try simp only [List.take_succ_cons, List.take_zero, List.drop_succ_cons, List.drop_zero, List.cons_append, List.nil_append, List.append_nil, List.length_cons, List.length_nil, Nat.zero_add, Nat.reduceAdd] at hst7
 obtain ⟨y30, h30, hst7⟩ := hst7.unx (k := 4) rfl (fun _ => rfl)
 replace hask := hask.mono hle7
 clear hst6 hfr6 hk7
 refine hK14 _ _ ?_
 refine zB fun _ hK17 => ?_
 replace hst7 := hst7.more (r := .free) trivial List.nodup_nil (by simp [Res.blocks])
 refine zb (tch := [(3, 5, (fun v => .blk v _)), (4, 5, (fun v => .blkx v _ _))]) (fun _ => zy) hst7 hfr7 (by kernel_rfl) (by kernel_rfl) (by kernel_rfl) (.cons rfl (zl (j := 0) rfl rfl isAgg25 sizeOf25 rfl) <| .cons rfl (zp (φ := MP.efs efs) rfl (.nil) call15 (fun w m hK => by have hle_ := KC.le hK; have hA := KC.agree hK; exact FnG.mono (zCa hA) fun _ _ _ _ h => h)) <| .cons rfl (zCT 32 rfl rfl rfl fun y32 => zp (φ := MP.rn ⟨4, 0, 0, [], [], 1, 0⟩) rfl (.cons rfl <| .cons rfl <| .cons rfl <| .cons rfl <| .nil) call14 (fun w m hK => by have hle_ := KC.le hK; have hA := KC.agree hK; have hr0_ := hK.2; have hask := hask.mono hle_; exact FnG.mono (run_c (c := ask1) (es := efs) (input := []) (fuel := 100) (r := ⟨4, 0, 0, [], [], 1, 0⟩) hA hask hr0_ Sl.empty (by simp) run_sh2 (by simp) (by omega)) fun _ _ _ _ h => h)) <| .consT rfl rfl (fun _ => rfl) rfl (zQ zeroValue35 rfl) <| .consT rfl rfl (fun _ => rfl) rfl (zf 6 rfl rfl rfl fun y6 => ZM 33 rfl rfl rfl fun y33 => za rfl rfl rfl rfl rfl sizeOf35 rfl rfl rfl) <| .nil) fun a8 w8 m8 hst8 hle8 hk8 => ?_
 have hfr8 := hk8.fr (.o 5 <| .nil)
 obtain ⟨g6, e18, _⟩ := hk8.ex 6 rfl
 replace hfr8 := hfr8.cons e18
 replace hst8 := hst8.fin (L' := [_, _, _, _, _, _]) (.cons e18 <| .cons e18 <| .nil)
 try simp only [List.take_succ_cons, List.take_zero, List.drop_succ_cons, List.drop_zero, List.cons_append, List.nil_append, List.append_nil, List.length_cons, List.length_nil, Nat.zero_add, Nat.reduceAdd] at hst8
 obtain ⟨y33, h33, hst8⟩ := hst8.unx (k := 5) rfl (fun _ => rfl)
 clear hst7 hfr7 hk8
 refine hK17 _ _ ?_
 refine zB fun _ hK20 => ?_
 replace hst8 := hst8.more (r := .free) trivial List.nodup_nil (by simp [Res.blocks])
 refine ra0 (tch := [(2, 6, (fun v => .blk v _)), (3, 6, (fun v => .blkx v _ _))]) hst8 hfr8 (.cons rfl (zP (cs := cdV ⟨0, [], [], 0, [], []⟩ noY) (.nil) underlying25 zeroValue25 (.cons sizeOf3 <| .cons sizeOf9 <| .cons sizeOf9 <| .cons sizeOf3 <| .cons sizeOf22 <| .cons sizeOf23 <| .nil) (rfl)) <| .cons rfl (zp (φ := MP.rn ⟨4, 0, 0, [], [], 0, 0⟩) rfl (.cons rfl <| .cons rfl <| .cons rfl <| .cons rfl <| .nil) call14 (fun w m hK => by have hle_ := KC.le hK; have hA := KC.agree hK; exact FnG.mono (run_c (c := ⟨0, [], [], 0, [], []⟩) (es := []) (input := []) (fuel := 100) (r := ⟨4, 0, 0, [], [], 0, 0⟩) hA zero_R Sl.empty Sl.empty (by simp) run_sh3 (by simp) (by omega)) fun _ _ _ _ h => h)) <| .consT rfl rfl (fun _ => rfl) rfl (zQ zeroValue35 rfl) <| .consT rfl rfl (fun _ => rfl) rfl (zf 7 rfl rfl rfl fun y7 => ZM 35 rfl rfl rfl fun y35 => za rfl rfl rfl rfl rfl sizeOf35 rfl rfl rfl) <| .nil) fun a9 w9 m9 hst9 hle9 hk9 => ?_
 have hfr9 := hk9.fr (.o 5 <| .o 6 <| .nil)
 obtain ⟨g7, e21, _⟩ := hk9.ex 7 rfl
 replace hfr9 := hfr9.cons e21
 replace hst9 := hst9.fin (L' := [_, _, _, _, _, _, _]) (.cons e21 <| .cons e21 <| .nil)
 try simp only [List.take_succ_cons, List.take_zero, List.drop_succ_cons, List.drop_zero, List.cons_append, List.nil_append, List.append_nil, List.length_cons, List.length_nil, Nat.zero_add, Nat.reduceAdd] at hst9
 obtain ⟨y35, h35, hst9⟩ := hst9.unx (k := 6) rfl (fun _ => rfl)
 clear hst8 hfr8 hk9
 refine hK20 _ _ ?_
 refine zB fun _ hK23 => ?_
 refine rp0 hst9 hfr9 (.cons rfl (zA (off := 0) rfl underlying35 rfl rfl sizeOf33 rfl) <| .cons rfl (zA (off := 0) rfl underlying33 rfl rfl sizeOf3 rfl) <| .cons rfl (zL (k := 0) (j := 4) rfl rfl isAgg3 rfl) <| .cons rfl (zS rfl rfl) <| .cons rfl (zC rfl) <| .cons rfl (zA (off := 0) rfl underlying35 rfl rfl sizeOf33 rfl) <| .cons rfl (zA (off := 1) rfl underlying33 rfl rfl sizeOf31 rfl) <| .cons rfl (zA (off := 1) rfl underlying31 rfl rfl sizeOf3 rfl) <| .cons rfl (zL (k := 2) (j := 4) rfl rfl isAgg3 rfl) <| .cons rfl (zS rfl rfl) <| .cons rfl (zU rfl rfl rfl) <| .cons rfl (zC rfl) <| .cons rfl (zA (off := 7) rfl underlying35 rfl rfl sizeOf3 rfl) <| .cons rfl (zL (j := 4) rfl rfl isAgg3 rfl) <| .cons rfl (zS rfl rfl) <| .cons rfl (zU rfl rfl rfl) <| .cons rfl (zC rfl) <| .cons rfl (zA (off := 0) rfl underlying35 rfl rfl sizeOf33 rfl) <| .cons rfl (zA (off := 0) rfl underlying33 rfl rfl sizeOf3 rfl) <| .cons rfl (zL (k := 0) (j := 5) rfl rfl isAgg3 rfl) <| .cons rfl (zS rfl rfl) <| .cons rfl (zU rfl rfl rfl) <| .cons rfl (zC rfl) <| .cons rfl (zA (off := 6) rfl underlying35 rfl rfl sizeOf3 rfl) <| .cons rfl (zL (j := 5) rfl rfl isAgg3 rfl) <| .cons rfl (zS rfl rfl) <| .cons rfl (zU rfl rfl rfl) <| .cons rfl (zC rfl) <| .cons rfl (zA (off := 0) rfl underlying35 rfl rfl sizeOf33 rfl) <| .cons rfl (zA (off := 0) rfl underlying33 rfl rfl sizeOf3 rfl) <| .cons rfl (zL (k := 0) (j := 6) rfl rfl isAgg3 rfl) <| .cons rfl (zS rfl rfl) <| .cons rfl (zU rfl rfl rfl) <| .cons rfl (zC rfl) <| .cons rfl (zA (off := 6) rfl underlying35 rfl rfl sizeOf3 rfl) <| .cons rfl (zL (j := 6) rfl rfl isAgg3 rfl) <| .cons rfl (zS rfl rfl) <| .cons rfl (zU rfl rfl rfl) <| .cons rfl (zD rfl) <| .nil) fun a10 w10 m10 hst10 hle10 hk10 => ?_
 have hfr10 := hk10.fr (.n 0 <| .nil)
 clear hst9 hfr9 hk10
 refine hK23 _ _ ?_
 refine zN ?_
 repeat (with_reducible first | refine zH ?_ | refine zF ?_)
 exact zO hst10 hfr10 rfl (.tmp rfl <| .nil) (rfl)
end Go.Proofs.Ytnppknioifgdfaa
namespace Go.Proofs.Ytnppknioifgdfaa
open Go.Proofs.Try
set_option linter.all false
set_option maxRecDepth 4000
open Go.RowKit
abbrev M (c : Cd) (e : Env) (a : Bool) (v : Vl) (ev : Ev) (nx : Int) (fr : List Fm) (inp : List Int) (tr : List Int) (st ko : Int) (ef : List (Str × Str)) : Mc := ⟨c, e, a, v, ev, nx, fr, [], inp, 0, tr, st, ko, ef⟩
theorem run_go {k : Nat} {s t : Mc} (he : s.ended = false) (hs : zBR { s with steps := s.steps + 1 } = some t) : Z7 (k + 1) s = Z7 k t := by
 rw [Z7, he, if_neg (by decide), hs]
theorem step_ok {s t : Mc} (ha : s.at_ = true) (h : zAG s = some (t, true)) : zBR s = some t := by
 unfold zBR; rw [if_pos ha, h]; rfl
theorem step_get {s t : Mc} (ha : s.at_ = false) (h : s.gets = some t) : zBR s = some t := by
 unfold zBR; rw [if_neg (by rw [ha]; decide)]; exact h
section
variable {e : Env} {v : Vl} {ev : Ev} {nx : Int} {fr : List Fm} {inp tr : List Int} {st ko : Int} {ef : List (Str × Str)} {k : Nat} {c : Cd}
theorem zDo : (M c e true v ev nx fr inp tr st ko ef).ended = false := by simp [Mc.ended]
theorem ended_fr {f : Fm} : (M c e false v ev nx (fr ++ [f]) inp tr st ko ef).ended = false := by simp [Mc.ended]
theorem go_bind {x : Str} {a b : Cd} (hb : (M (zAZ x a b) e true v ev nx fr inp tr (st + 1) ko ef).bnd = true) : Z7 (k + 1) (M (zAZ x a b) e true v ev nx fr inp tr st ko ef) = Z7 k (M a e true v ev nx (fr ++ [.bound false x b e]) inp tr (st + 1) ko ef) :=
 run_go zDo (step_ok rfl (by unfold zAG; rw [if_pos (.inr rfl)]; show (if (M (zAZ x a b) e true v ev nx fr inp tr (st + 1) ko ef).bnd = true then _ else none) = _; rw [if_pos hb]; rfl))
theorem gets_last {s : Mc} {fr : List Fm} {f : Fm} (h : s.frames = fr ++ [f]) : s.gets = ({ s with frames := fr } : Mc).getsF f := by
 unfold Mc.gets; rw [h, List.getLast?_concat, List.dropLast_concat]
theorem go_pop {q : Bool} {x : Str} {b : Cd} {e2 : Env} : Z7 (k + 1) (M c e false v ev nx (fr ++ [.bound q x b e2]) inp tr st ko ef) = Z7 k (M b (.cons x v e2) true v ev nx fr inp tr (st + 1) ko ef) :=
 run_go ended_fr (step_get rfl (by rw [gets_last rfl]; rfl))
theorem go_atom {a : Cd} {w : Vl} (hk : a.kind < 6) (ha : Zw a e = some (some w)) : Z7 (k + 1) (M a e true v ev nx fr inp tr st ko ef) = Z7 k (M a e false w ev nx fr inp tr (st + 1) ko ef) :=
 run_go zDo (step_ok rfl (by
  unfold zAG
  show (if a.kind = 7 ∨ a.kind = 8 then _ else if a.kind = 9 then _ else if a.kind = 15 then _ else if a.kind = 10 then _ else if a.kind < 6 then (match Zw a e with | none => none | some none => _ | some (some v) => _) else _) = _
  rw [if_neg (by omega), if_neg (by omega), if_neg (by omega), if_neg (by omega), if_pos hk, ha]; rfl))
theorem go_op {s : Str} {l : List Cd} {vs : List Vl} {t : Mc} (hl : l.length ≤ 1000000) (hv : zAI l e = some (some vs)) (ho : opM (M (opC s l) e true v ev nx fr inp tr (st + 1) ko ef) s vs = some (t, true)) : Z7 (k + 1) (M (opC s l) e true v ev nx fr inp tr st ko ef) = Z7 k t :=
 run_go zDo (step_ok rfl (by
  unfold zAG
  show (if l.length ≤ 1000000 then (match zAI l e with | none => none | some none => _ | some (some l) => _) else _) = _
  rw [if_pos hl, hv]; exact ho))
end
def Zn : Nat → Cd
 | 0 => unitC
 | n + 1 => zAZ [97] (opC rdS []) (zAZ [95] (opC prS [zBf [97]]) (Zn n))
theorem bnd_M {c : Cd} {e : Env} {a : Bool} {v : Vl} {ev : Ev} {nx : Int} {fr : List Fm} {inp tr : List Int} {st ko : Int} {ef : List (Str × Str)} (h1 : fr.length ≤ 1000000) (h2 : ev.len ≤ 1000000) (h3 : 0 ≤ nx ∧ nx ≤ 1000000) (h4 : tr.length ≤ 1000000) (h5 : 0 ≤ ko ∧ ko ≤ 1000000) : (M c e a v ev nx fr inp tr st ko ef).bnd = true := by
 simp [Mc.bnd, h1, h2, h3, h4, h5]
theorem run_done {k : Nat} {s : Mc} (h : s.ended = true) : Z7 k s = some s := by
 cases k with
 | zero => rfl
 | succ k => rw [Z7, if_pos h]
theorem reads_run (ef : List (Str × Str)) : ∀ (n : Nat) (inp tr : List Int) (e : Env) (v : Vl) (st : Int) (k : Nat), tr.length + n ≤ 1000 → 6 * n + 2 ≤ k →
  ∃ sF, Z7 k (M (Zn n) e true v .nil 0 [] inp tr st 0 ef) = some sF ∧ sF.trace = tr ++ inp.take n ∧ (n ≤ inp.length → sF.kind = 0 ∧ sF.ended = true ∧ sF.v.kids = []) ∧ (inp.length < n → sF.kind = 3)
 | 0, inp, tr, e, v, st, k, h1, h2 => by
  obtain ⟨k', rfl⟩ : ∃ k', k = k' + 1 := ⟨k - 1, by omega⟩
  rw [show Zn 0 = unitC from rfl, go_atom (by decide) rfl, run_done rfl]
  exact ⟨_, rfl, by simp, fun _ => ⟨rfl, rfl, rfl⟩, fun h => absurd h (by omega)⟩
 | n + 1, inp, tr, e, v, st, k, h1, h2 => by
  obtain ⟨k', rfl⟩ : ∃ k', k = k' + 1 + 1 + 1 + 1 + 1 + 1 := ⟨k - 6, by omega⟩
  rw [Zn, go_bind (bnd_M (by simp) (by simp [Ev.len]) (by omega) (by omega) (by omega))]
  cases inp with
  | nil =>
   rw [go_op (by simp) rfl rfl, run_done rfl]
   exact ⟨_, rfl, by simp [Mc.ends], fun h => absurd h (by simp), fun _ => rfl⟩
  | cons x r =>
   rw [go_op (t := M (opC rdS []) e false (zBH x) .nil 0 ([] ++ [.bound false [97] (zAZ [95] (opC prS [zBf [97]]) (Zn n)) e]) r tr (st + 1 + 1) 0 ef) (by simp) rfl rfl]
   rw [go_pop, go_bind (bnd_M (by simp) (by simp [Ev.len]) (by omega) (by omega) (by omega)), go_op (t := M (opC prS [zBf [97]]) (.cons [97] (zBH x) e) false zBu .nil 0 ([] ++ [.bound false [95] (Zn n) (.cons [97] (zBH x) e)]) r (tr ++ [x]) (st + 1 + 1 + 1 + 1 + 1) 0 ef) (by simp) rfl (by
    show (if (M _ _ true _ _ _ _ r tr _ 0 ef).bnd = true then _ else none) = _
    rw [if_pos (bnd_M (by simp) (by simp [Ev.len]) (by omega) (by omega) (by omega))]; rfl)]
   rw [go_pop]
   obtain ⟨sF, g1, g2, g3, g4⟩ := reads_run ef n r (tr ++ [x]) (.cons [95] zBu (.cons [97] (zBH x) e)) zBu (st + 1 + 1 + 1 + 1 + 1 + 1) k' (by simp; omega) (by omega)
   exact ⟨sF, g1, by rw [g2]; simp, fun h => g3 (by simpa using h), fun h => g4 (by simpa using h)⟩
theorem right_node (k : Int) (s p : Str) (l : List Cd) (az : List Ca) : z5 (zAJ k s p l az) = (zCt (zAJ k s p l az) && Z5 k 0 az && l.all z5 && az.all fun a => z5 a.body) := rightC_eq _
theorem zCp {s : Str} {a b : Cd} (hs : s ≠ []) (ha : z5 a = true) (hb : z5 b = true) : z5 (zAZ s a b) = true := by
 rw [zAZ, right_node]
 simp [zCt, zAJ, Cd.kind, Cd.kids, Cd.arms, Cd.name, Cd.param, Cd.n, ha, hb, hs, Z5]
theorem zBT : ∀ n, z5 (Zn n) = true
 | 0 => by decide
 | n + 1 => zCp (by decide) (by decide) (zCp (by decide) (by decide) (zBT n))
theorem runR_of {c : Cd} {l : List Ef} {inp : List Int} {k : Nat} {sF : Mc} {r : Rn} (hr : z5 c = true) (h : Z7 k ((zBI inp (zBL l)).goes c .nil) = some sF) (he : endM sF = some r) : runR c l inp k = some r := by
 unfold runR; rw [if_pos hr, h]; exact he
theorem reads_law {k : Nat} {inp : List Int} (hk : k < 31) (l : List Ef) : ∃ r, runR (Zn k) l inp 1500 = some r ∧ r.kind = (if inp.length < k then 3 else 1) ∧ r.trace = inp.take k := by
 obtain ⟨sF, h1, h2, h3, h4⟩ := reads_run (zBL l) k inp [] .nil Zg 0 1500 (by simp; omega) (by omega)
 rw [List.nil_append] at h2
 have h0 : (zBI inp (zBL l)).goes (Zn k) .nil = M (Zn k) .nil true Zg .nil 0 [] inp [] 0 0 (zBL l) := rfl
 by_cases hl : inp.length < k
 ·have hk := h4 hl
  exact ⟨⟨sF.kind, 0, 0, [], sF.trace, sF.steps, sF.konts⟩, runR_of (zBT k) (h0 ▸ h1) (by unfold endM; rw [if_neg (by rw [hk]; simp)]), by rw [if_pos hl]; exact hk, h2⟩
 ·obtain ⟨g1, g2, g3⟩ := h3 (by omega)
  exact ⟨⟨1, sF.v.kind, sF.v.n, sF.v.name, sF.trace, sF.steps, sF.konts⟩, runR_of (zBT k) (h0 ▸ h1) (by unfold endM; rw [if_pos ⟨g1, g2⟩, if_pos g3]), by rw [if_neg hl], h2⟩
theorem red31 (n : Int) : ∃ k : Nat, (zDI n 65535).tmod 31 = (k : Int) ∧ k < 31 := by
 have hb : 0 ≤ zDI n 65535 ∧ zDI n 65535 ≤ 65535 := band_le n 65535 (by omega)
 have e := Int.tmod_eq_emod_of_nonneg (a := zDI n 65535) (b := 31) hb.1
 have h0 := Int.emod_nonneg (zDI n 65535) (show (31 : Int) ≠ 0 by omega)
 have h1 := Int.emod_lt_of_pos (zDI n 65535) (show (0 : Int) < 31 by omega)
 exact ⟨((zDI n 65535) % 31).toNat, by rw [e]; omega, by omega⟩
theorem take_min {α : Type} (l : List α) (k : Nat) : l.take (min k l.length) = l.take k := by
 rcases Nat.le_total k l.length with h | h
 ·rw [Nat.min_eq_left h]
 ·rw [Nat.min_eq_right h, List.take_length, List.take_of_length_le h]
set_option maxHeartbeats 400000 in
theorem sametr_c {w : World} {m : Mem} {o_a : Option Addr} {c_a : Nat} {a : List Int} {o_b : Option Addr} {c_b : Nat} {b : List Int} (hA : Agree w m) (h_a : Ints m o_a a.length c_a a) (h_b : Ints m o_b b.length c_b b) : FnV Try.prog 16 #[.slice o_a a.length c_a, .slice o_b b.length c_b] w m (fun _ _ v => v = .bool (decide (a = b))) := by
 have hb_a := h_a.big; have hc_a := h_a.cap
 have hb_b := h_b.big; have hc_b := h_b.cap
 refine zX (vs := [_, _]) func16 rfl rfl rfl fun a0 hfr0 => ?_
 have hst0 := zV hA (zg [] _ w m)
 have hM : MLe m m := MLe.refl m
 refine zB fun _ hK1 => ?_
 refine rp0 hst0 hfr0 (.cons rfl (zD rfl) <| .nil) fun a1 w1 m1 hst1 hle1 hk1 => ?_
 have hfr1 := hk1.fr (.o 0 <| .o 1 <| .nil)
 replace h_a := h_a.mono hle1
 replace h_b := h_b.mono hle1
 clear hst0 hfr0 hk1
 refine hK1 _ _ ?_
 refine zB fun _ hK2 => ?_
 refine zB fun _ hK3 => ?_
 refine rp0 hst1 hfr1 (.cons rfl (zC rfl) <| .cons rfl (zm rfl underlying26) <| .cons rfl (zC rfl) <| .cons rfl (zm rfl underlying26) <| .cons rfl (zAR rfl rfl) <| .nil) fun a2 w2 m2 hst2 hle2 hk2 => ?_
 have hfr2 := hk2.fr (.o 0 <| .o 1 <| .n 10 <| .nil)
 replace h_a := h_a.mono hle2
 replace h_b := h_b.mono hle2
 clear hst1 hfr1 hk2
 refine hK3 _ _ ?_
 refine zE hfr2 rfl rfl (fun hb10 => ?_) (fun hb10 => ?_)
 ·try simp only [nqs] at hb10
  have hne : ¬ a = b := fun h => by subst h; exact hb10 rfl
  refine zB fun _ hK4 => ?_
  refine rp0 hst2 hfr2 (.cons rfl (zD rfl) <| .nil) fun a3 w3 m3 hst3 hle3 hk3 => ?_
  have hfr3 := hk3.fr (.n 4 <| .nil)
  clear hst2 hfr2 hk3
  refine hK4 _ _ ?_
  refine zN ?_
  repeat (with_reducible first | refine zH ?_ | refine zF ?_)
  exact zO hst3 hfr3 rfl (.tmp rfl <| .nil) (by rw [decide_eq_false hne]; rfl)
 ·try simp only [nqs] at hb10
  have hle9 : a.length = b.length := by omega
  refine zR ?_
  refine hK2 _ _ ?_
  refine zB fun _ hK6 => ?_
  refine zB fun _ hK7 => ?_
  refine rp0 hst2 hfr2 (.cons rfl (zD rfl) <| .nil) fun a3 w3 m3 hst3 hle3 hk3 => ?_
  have hfr3 := hk3.fr (.o 0 <| .o 1 <| .n 5 <| .nil)
  clear hst2 hfr2 hk3
  refine hK7 _ _ ?_
  refine zW ?_
  refine z4 (T := [(0, _), (1, _)]) (fun (y : Nat) => ([(5, .int .i64 (y : Int))] : List (Nat × Value))) (fun _ => _) (fun (y : Nat) m => (y ≤ a.length) ∧ (a.take y = b.take y)) (fun y => a.length - y) (0) ⟨hst3, MLe.refl _, hfr3.sub (.c <| .c <| .c <| .nil), ⟨Nat.zero_le _, rfl⟩⟩ fun y a4 w4 m4 hh4 => ?_
  have hst4 := hh4.st; have hle4 := hh4.le; have hfr4 := hh4.fr; have hrel := hh4.rel; clear hh4
  clear hst3 hfr3
  obtain ⟨hyn, htk⟩ := hrel
  have hlh4 := hle4
  refine zB fun _ hK9 => ?_
  refine zB fun _ hK10 => ?_
  refine rp0 hst4 hfr4 (.cons rfl (zC rfl) <| .cons rfl (zC rfl) <| .cons rfl (zm rfl underlying26) <| .cons rfl (ZC rfl rfl) <| .nil) fun a5 w5 m5 hst5 hle5 hk5 => ?_
  have hfr5 := hk5.fr (.o 5 <| .o 0 <| .o 1 <| .n 14 <| .nil)
  clear hst4 hfr4 hk5
  refine hK10 _ _ ?_
  refine zE hfr5 rfl rfl (fun hb14 => ?_) (fun hb14 => ?_)
  ·try simp only [nqs] at hb14
   refine zR ?_
   refine hK9 _ _ ?_
   refine zB fun _ hK11 => ?_
   refine zW ?_
   refine zB fun _ hK12 => ?_
   have zq1 := hle4.trans hle5
   have zq2 := hle3.trans zq1
   replace h_a := h_a.mono zq2
   obtain ⟨p13, vs13, x13, ho13, hd13, hm_x13, ht13, hcv13, hl13, hv13⟩ := h_a.nth (k := y) (by omega)
   cases ho13
   subst hv13
   replace h_b := h_b.mono zq2
   obtain ⟨p14, vs14, x14, ho14, hd14, hm_x14, ht14, hcv14, hl14, hv14⟩ := h_b.nth (k := y) (by omega)
   cases ho14
   subst hv14
   refine Z0 (fun _ => zy) hst5 hfr5 (by kernel_rfl) (by kernel_rfl) (.cons rfl (zC rfl) <| .cons rfl (zC rfl) <| .cons rfl (zI (k := y) rfl rfl underlying26 sizeOf3 rfl (by omega)) <| .cons rfl (zi rfl hcv13 isAgg3 rfl) <| .cons rfl (zC rfl) <| .cons rfl (zC rfl) <| .cons rfl (zI (k := y) rfl rfl underlying26 sizeOf3 rfl (by omega)) <| .cons rfl (zi rfl hcv14 isAgg3 rfl) <| .cons rfl (zAR rfl rfl) <| .nil) fun a6 w6 m6 hst6 hle6 hk6 => ?_
   have hfr6 := hk6.fr (.o 5 <| .o 0 <| .o 1 <| .n 25 <| .nil)
   clear hst5 hfr5 hk6
   refine hK12 _ _ ?_
   refine zE hfr6 rfl rfl (fun hb25 => ?_) (fun hb25 => ?_)
   ·try simp only [nqs] at hb25
    have hne : ¬ a = b := fun h => by subst h; have h1 := hd13; rw [hd14] at h1; injection h1 with h1; exact hb25 h1.symm
    refine zB fun _ hK15 => ?_
    refine rp0 hst6 hfr6 (.cons rfl (zD rfl) <| .nil) fun a7 w7 m7 hst7 hle7 hk7 => ?_
    have hfr7 := hk7.fr (.o 5 <| .n 4 <| .nil)
    clear hst6 hfr6 hk7
    refine hK15 _ _ ?_
    refine zN ?_
    repeat (with_reducible first | refine zH ?_ | refine zF ?_)
    exact zO hst7 hfr7 rfl (.tmp rfl <| .nil) (by rw [decide_eq_false hne]; rfl)
   ·try simp only [nqs] at hb25
    refine zR ?_
    refine hK11 _ _ ?_
    refine rp0 hst6 hfr6 (.cons rfl (zC rfl) <| .cons rfl (ZO rfl rfl ⟨by omega, by omega⟩) <| .cons rfl (zD rfl) <| .nil) fun a7 w7 m7 hst7 hle7 hk7 => ?_
    have hfr7 := hk7.fr (.o 0 <| .o 1 <| .n 5 <| .nil)
    clear hst6 hfr6 hk7
    have zq3 := hle6.trans hle7
    have zq4 := hle5.trans zq3
    have hlh7 := hlh4.trans zq4
    exact ⟨y + 1, m7, by show a.length - (y + 1) < a.length - y; omega, ⟨hst7, hlh7, hfr7.sub (.c <| .c <| .c <| .nil), ⟨by show y + 1 ≤ a.length; omega, by rw [ht13, ht14, htk, hb25]⟩⟩⟩
  ·try simp only [nqs] at hb14
   have hge : y = a.length := by omega
   have heq : a = b := by rw [hge, List.take_length, hle9, List.take_length] at htk; exact htk
   refine z3 ?_
   refine hK6 _ _ ?_
   refine zB fun _ hK17 => ?_
   refine rp0 hst5 hfr5 (.cons rfl (zD rfl) <| .nil) fun a6 w6 m6 hst6 hle6 hk6 => ?_
   have hfr6 := hk6.fr (.o 5 <| .n 4 <| .nil)
   clear hst5 hfr5 hk6
   refine hK17 _ _ ?_
   refine zN ?_
   repeat (with_reducible first | refine zH ?_ | refine zF ?_)
   exact zO hst6 hfr6 rfl (.tmp rfl <| .nil) (by rw [decide_eq_true heq]; rfl)
end Go.Proofs.Ytnppknioifgdfaa
namespace Go.Proofs.Ytnppknioifgdfaa
open Go.Proofs.Try
set_option linter.all false
set_option maxRecDepth 4000
open Go.RowKit
set_option maxHeartbeats 3200000 in
theorem zDS {w : World} {m : Mem} {n : Int} {o_input : Option Addr} {c_input : Nat} {input : List Int} (hA : Agree w m) (h_input : Ints m o_input input.length c_input input) (hin : ∀ x ∈ input, zq x) : FnV Try.prog 8 #[.int .i64 n, .slice o_input input.length c_input] w m (fun _ _ v => v = .bool true) := by
 have hb_input := h_input.big; have hc_input := h_input.cap
 refine zX (vs := [_, _]) func8 rfl rfl rfl fun a0 hfr0 => ?_
 have hst0 := zV hA (zg [] _ w m)
 have hM : MLe m m := MLe.refl m
 refine zB fun _ hK1 => ?_
 refine rp0 hst0 hfr0 (.cons rfl (zD rfl) <| .nil) fun a1 w1 m1 hst1 hle1 hk1 => ?_
 have hfr1 := hk1.fr (.o 0 <| .o 1 <| .nil)
 replace h_input := h_input.mono hle1
 clear hst0 hfr0 hk1
 refine hK1 _ _ ?_
 refine zB fun _ hK2 => ?_
 refine rp0 hst1 hfr1 (.cons rfl (zZ rfl (.nil) call12 (fun w m hK => by have hle_ := KC.le hK; have hA := KC.agree hK; exact shown_c hA)) <| .cons rfl (zD rfl) <| .nil) fun a2 w2 m2 hst2 hle2 hk2 => ?_
 have hfr2 := hk2.fr (.o 0 <| .o 1 <| .n 5 <| .nil)
 replace h_input := h_input.mono hle2
 clear hst1 hfr1 hk2
 refine hK2 _ _ ?_
 refine zB fun _ hK3 => ?_
 refine rp0 hst2 hfr2 (.cons rfl (zC rfl) <| .cons rfl (ob_band rfl rfl) <| .cons rfl (ob_rem rfl rfl (by omega)) <| .cons rfl (zD rfl) <| .nil) fun a3 w3 m3 hst3 hle3 hk3 => ?_
 have hfr3 := hk3.fr (.o 1 <| .o 5 <| .n 0 <| .nil)
 replace h_input := h_input.mono hle3
 clear hst2 hfr2 hk3
 obtain ⟨k9, hk9, hk31⟩ := red31 n
 rw [hk9] at hfr3
 refine hK3 _ _ ?_
 refine zB fun _ hK4 => ?_
 refine z1 5 (by kernel_rfl) ?_
 refine zo (tch := []) hst3 hfr3 (by kernel_rfl) (by kernel_rfl) (by kernel_rfl) (.cons rfl (zAP underlying26 sizeOf3) <| .cons rfl (zC rfl) <| .cons rfl (zC rfl) <| .cons rfl (zm rfl underlying26) <| .cons rfl (ob_min2 rfl rfl) <| .nil) fun a4 w4 m4 hst4 hle4 hk4 => ?_
 have hfr4 := hk4.fr (.o 1 <| .o 5 <| .o 0 <| .n 16 <| .n 19 <| .nil)
 obtain ⟨y5, e5, hy5⟩ := hk4.ex 15 rfl
 replace hfr4 := hfr4.cons e5
 replace h_input := h_input.mono hle4
 clear hst3 hfr3 hk4
 rw [show (if (50 : Int) < (input.length : Int) then (50 : Int) else (input.length : Int)) = ((min input.length 50 : Nat) : Int) by split <;> omega] at hfr4
 have hct6 : Ints _ _ _ _ ((input.take ((min input.length 50))).drop (0)) := h_input.cut (l := 0) (k := (min input.length 50)) (by omega) (by omega)
 have hcl6 : ((min input.length 50)) - (0) = (((input.take ((min input.length 50))).drop (0))).length := hct6.len.symm
 have hcu6 : Ints _ _ _ _ ((input.take ((min input.length 50))).drop (0)) := hct6.lenL
 obtain ⟨cs_7, hrw_7, hrd_7, hcl_7⟩ := hct6.reads
 replace hst4 := hst4.more (r := .free) trivial List.nodup_nil (by simp [Res.blocks])
 refine zo (tch := [(1, 0, (fun v => .row (nz v) _ _ _ _))]) hst4 hfr4 (by kernel_rfl) (by kernel_rfl) (by kernel_rfl) (.cons rfl (Zh (l := 0) (h := (min input.length 50)) rfl .none (.some rfl (by omega)) underlying26 sizeOf3 (by first | omega | (dsimp only; omega)) (by first | omega | (dsimp only; omega))) <| .consT rfl rfl (fun _ => rfl) rfl (zBm (size := 1) (bytes := 8) rfl rfl (fun _ => .inr ⟨rfl, rfl, rfl, rfl⟩) underlying26 type3 rfl rfl rfl rfl (fun w m hK => hrw_7.mono (KC.le hK)) hcl_7 (by decide) hrd_7.one (by simp only [maxLen]; omega) (by omega)) <| .consA 21 rfl rfl <| .nil) fun a5 w5 m5 hst5 hle5 hk5 => ?_
 have hfr5 := hk5.fr (.o 5 <| .o 0 <| .o 16 <| .o 19 <| .o 15 <| .nil)
 obtain ⟨⟨oz7, cz7⟩, e8, hrz7, hcz7⟩ := hk5.ex 21 rfl
 replace e8 : zT a5 21 = .slice oz7 (((input.take ((min input.length 50))).drop (0))).length cz7 := by rw [e8]; refine congrArg (fun q => Value.slice _ q _) ?_; first | omega | (simp only [List.length_append, List.length_cons, List.length_nil, List.nil_append, List.length_take, List.length_drop]; try omega)
 replace hfr5 := hfr5.cons e8
 replace hfr5 := hfr5.cons (hk5.same 1 rfl e8)
 replace hst5 := hst5.fin (L' := [_]) (.cons e8 <| .nil)
 replace hrd_7 := hrd_7.mono hle5
 clear hst4 hfr4 hk5
 have hsz7 : Ints m5 oz7 (((input.take ((min input.length 50))).drop (0))).length cz7 ((input.take ((min input.length 50))).drop (0)) := Reads.sl (Reads.nil.app hrd_7) hrz7 (by decide) rfl (by have h := hcz7; first | omega | (simp only [List.length_append, List.length_cons, List.length_nil, List.nil_append, List.length_take, List.length_drop] at h ⊢; omega)) (by first | omega | (simp only [List.length_append, List.length_cons, List.length_nil, List.nil_append, List.length_take, List.length_drop]; omega))
 obtain ⟨inp, hinp⟩ : ∃ i, ((input.take (min input.length 50)).drop 0) = i := ⟨_, rfl⟩
 have hil9 : inp.length ≤ 50 := by rw [← hinp]; simp; omega
 have hir9 : ∀ x ∈ inp, zq x := fun x hx => hin x (by rw [← hinp, List.drop_zero] at hx; exact List.mem_of_mem_take hx)
 rw [hinp] at hsz7 hfr5
 obtain ⟨R9, hrun9, hrk9, hrt9⟩ := reads_law (inp := inp) hk31 efs
 refine hK4 _ _ ?_
 refine zB fun _ hK9 => ?_
 replace hst5 := hst5.more (r := .free) trivial List.nodup_nil (by simp [Res.blocks])
 refine ra0 (tch := [(1, 1, (fun v => .blk v _)), (2, 1, (fun v => .blk v _))]) hst5 hfr5 (.cons rfl (zP (cs := cdV unitC noY) (.cons rfl <| .nil) underlying25 zeroValue25 (.cons sizeOf3 <| .cons sizeOf9 <| .cons sizeOf9 <| .cons sizeOf3 <| .cons sizeOf22 <| .cons sizeOf23 <| .nil) (rfl)) <| .consT rfl rfl (fun _ => rfl) rfl (zQ zeroValue25 rfl) <| .consT rfl rfl (fun _ => rfl) rfl (zf 6 rfl rfl rfl fun y6 => za rfl rfl rfl rfl rfl sizeOf25 rfl rfl rfl) <| .nil) fun a6 w6 m6 hst6 hle6 hk6 => ?_
 have hfr6 := hk6.fr (.o 5 <| .o 0 <| .o 1 <| .nil)
 obtain ⟨g6, e10, _⟩ := hk6.ex 6 rfl
 replace hfr6 := hfr6.cons e10
 replace hst6 := hst6.fin (L' := [_, _]) (.cons e10 <| .cons e10 <| .nil)
 try simp only [List.take_succ_cons, List.take_zero, List.drop_succ_cons, List.drop_zero, List.cons_append, List.nil_append, List.append_nil, List.length_cons, List.length_nil, Nat.zero_add, Nat.reduceAdd] at hst6
 replace hsz7 := hsz7.mono hle6
 clear hst5 hfr5 hk6
 refine hK9 _ _ ?_
 refine zB fun _ hK11 => ?_
 refine zB fun _ hK12 => ?_
 refine rp0 hst6 hfr6 (.cons rfl (zD rfl) <| .nil) fun a7 w7 m7 hst7 hle7 hk7 => ?_
 have hfr7 := hk7.fr (.o 5 <| .o 0 <| .o 1 <| .o 6 <| .n 7 <| .nil)
 replace hsz7 := hsz7.mono hle7
 clear hst6 hfr6 hk7
 refine hK12 _ _ ?_
 refine zW ?_
 refine z4 (T := [(5, _), (0, _), (1, _), (6, _)]) (fun (y : Nat × Cd × CdY) => ([(7, .int .i64 (y.1 : Int))] : List (Nat × Value))) (fun y => [_, .blk (.pointer (some ⟨g6, 0, none⟩)) (.cells (cdV y.2.1 y.2.2).toArray 25)]) (fun (y : Nat × Cd × CdY) m => (fun (y : Nat) (cu : Cd) (yc : CdY) => (y ≤ k9) ∧ (cu = Zn y) ∧ (CdR m cu (cdV cu yc))) y.1 y.2.1 y.2.2) (fun y => k9 - y.1) ((0, unitC, noY)) ⟨hst7, MLe.refl _, hfr7.sub (.c <| .c <| .c <| .c <| .c <| .nil), ⟨Nat.zero_le _, rfl, unit_R⟩⟩ fun y a8 w8 m8 hh8 => ?_
 have hst8 := hh8.st; have hle8 := hh8.le; have hfr8 := hh8.fr; have hrel := hh8.rel; clear hh8
 replace hsz7 := hsz7.mono hle8
 clear hst7 hfr7
 obtain ⟨y, cu, yc⟩ := y
 dsimp only at hrel hfr8 hst8
 obtain ⟨hyn, hcu, hcr⟩ := hrel
 subst hcu
 have hlh8 := hle8
 refine zB fun _ hK14 => ?_
 refine zB fun _ hK15 => ?_
 refine rp0 hst8 hfr8 (.cons rfl (zC rfl) <| .cons rfl (zC rfl) <| .cons rfl (ZC rfl rfl) <| .nil) fun a9 w9 m9 hst9 hle9 hk9 => ?_
 have hfr9 := hk9.fr (.o 7 <| .o 5 <| .o 0 <| .o 1 <| .o 6 <| .n 25 <| .nil)
 replace hsz7 := hsz7.mono hle9
 replace hcr := hcr.mono hle9
 have hlh9 := hlh8.trans hle9
 clear hst8 hfr8 hk9
 refine hK15 _ _ ?_
 refine zE hfr9 rfl rfl (fun hb25 => ?_) (fun hb25 => ?_)
 ·try simp only [nqs] at hb25
  refine zR ?_
  refine hK14 _ _ ?_
  refine zB fun _ hK16 => ?_
  refine zW ?_
  refine zb (tch := [(7, 1, (fun _ => .blkx _ _ _))]) (fun _ => zy) hst9 hfr9 (by kernel_rfl) (by kernel_rfl) (by kernel_rfl) (.cons rfl (zZ rfl (.cons rfl <| .cons rfl <| .nil) call25 (fun w m hK => by have hle_ := KC.le hK; have hA := KC.agree hK; exact lop_c (s := rdS) (l := []) hA Sl.empty)) <| .cons rfl (zZ rfl (.cons rfl <| .nil) call18 (fun w m hK => by have hle_ := KC.le hK; have hA := KC.agree hK; exact zBC (s := [97]) hA)) <| .cons rfl (Zx rfl underlying22 sizeOf25 zeroValue25 rfl rfl rfl rfl) <| .cons rfl (zAX 30 rfl rfl rfl fun y30 => zZ rfl (.cons rfl <| .cons rfl <| .nil) call25 (fun w m hK => by have hle_ := KC.le hK; have hA := KC.agree hK; have hr0_ := hK.2; exact lop_c (s := prS) (l := [zBf [97]]) hA (Sl.one (R := fun m vs t => CdR m t vs) hr0_ rfl (var_R [97])))) <| .cons rfl (zl (j := 1) rfl rfl isAgg25 sizeOf25 rfl) <| .cons rfl (zCT 31 rfl rfl rfl fun y31 => zp (φ := MP.cd (zAZ [95] (opC prS [zBf [97]]) (Zn y))) rfl (.cons rfl <| .cons rfl <| .cons rfl <| .nil) call24 (fun w m hK => by have hle_ := KC.le hK; have hA := KC.agree hK; have hr0_ := hK.2; have hcr := hcr.mono hle_; exact FnG.mono (bind_c (s := [95]) hA (nodeL_R ⟨by decide, by decide⟩ (Sl.one (R := fun m vs t => CdR m t vs) hr0_ rfl (var_R [97]))) hcr) fun _ _ _ _ h => h)) <| .cons rfl (zCT 33 rfl rfl rfl fun y33 => zp (φ := MP.cd (Zn (y + 1))) rfl (.cons rfl <| .cons rfl <| .cons rfl <| .nil) call24 (fun w m hK => by have hle_ := KC.le hK; have hA := KC.agree hK; have hr0_ := hK.2; exact FnG.mono (bind_c (s := [97]) hA (nodeL_R ⟨by decide, by decide⟩ Sl.empty) hr0_) fun _ _ _ _ h => h)) <| .consT rfl rfl (fun _ => rfl) rfl (ZM 34 rfl rfl rfl fun y34 => zY rfl rfl rfl sizeOf25 rfl rfl rfl) <| .nil) fun a10 w10 m10 hst10 hle10 hk10 => ?_
  have hfr10 := hk10.fr (.o 7 <| .o 5 <| .o 0 <| .o 1 <| .o 6 <| .nil)
  replace hst10 := hst10.fin (L' := [_, _]) (.cons rfl <| .nil)
  try simp only [List.take_succ_cons, List.take_zero, List.drop_succ_cons, List.drop_zero, List.cons_append, List.nil_append, List.append_nil, List.length_cons, List.length_nil, Nat.zero_add, Nat.reduceAdd] at hst10
  obtain ⟨y34, hy34, hst10⟩ := hst10.unx (k := 1) rfl (fun _ => rfl)
  clear hst9 hfr9 hk10
  refine hK16 _ _ ?_
  refine rp0 hst10 hfr10 (.cons rfl (zC rfl) <| .cons rfl (ZO rfl rfl ⟨by omega, by omega⟩) <| .cons rfl (zD rfl) <| .nil) fun a11 w11 m11 hst11 hle11 hk11 => ?_
  have hfr11 := hk11.fr (.o 5 <| .o 0 <| .o 1 <| .o 6 <| .n 7 <| .nil)
  clear hst10 hfr10 hk11
  replace hy34 := hy34.mono hle11
  have zq1 := hle10.trans hle11
  have hlh11 := hlh9.trans zq1
  exact ⟨(y + 1, (Zn (y + 1)), y34), m11, by show k9 - (y + 1) < k9 - y; omega, ⟨hst11, hlh11, hfr11.sub (.c <| .c <| .c <| .c <| .c <| .nil), ⟨by show y + 1 ≤ k9; omega, rfl, hy34⟩⟩⟩
 ·try simp only [nqs] at hb25
  have hge : y = k9 := by omega
  subst hge
  refine z3 ?_
  refine hK11 _ _ ?_
  refine zB fun _ hK18 => ?_
  replace hst9 := hst9.more (r := .free) trivial List.nodup_nil (by simp [Res.blocks])
  refine zb (tch := [(4, 2, (fun v => .blk v _)), (5, 2, (fun v => .blkx v _ _))]) (fun _ => zy) hst9 hfr9 (by kernel_rfl) (by kernel_rfl) (by kernel_rfl) (.cons rfl (zl (j := 1) rfl rfl isAgg25 sizeOf25 rfl) <| .cons rfl (zp (φ := MP.efs efs) rfl (.nil) call15 (fun w m hK => by have hle_ := KC.le hK; have hA := KC.agree hK; exact FnG.mono (zCa hA) fun _ _ _ _ h => h)) <| .cons rfl (zC rfl) <| .cons rfl (zCT 36 rfl rfl rfl fun y36 => zp (φ := MP.rn R9) rfl (.cons rfl <| .cons rfl <| .cons rfl <| .cons rfl <| .nil) call14 (fun w m hK => by have hle_ := KC.le hK; have hA := KC.agree hK; have hr0_ := hK.2; have hsz7 := hsz7.mono hle_; have hcr := hcr.mono hle_; exact FnG.mono (run_c (c := Zn y) (es := efs) (input := inp) (fuel := 1500) (r := R9) hA hcr hr0_ hsz7 hir9 hrun9 (by omega) (by omega)) fun _ _ _ _ h => h)) <| .consT rfl rfl (fun _ => rfl) rfl (zQ zeroValue35 rfl) <| .consT rfl rfl (fun _ => rfl) rfl (zf 8 rfl rfl rfl fun y8 => ZM 38 rfl rfl rfl fun y38 => za rfl rfl rfl rfl rfl sizeOf35 rfl rfl rfl) <| .nil) fun a10 w10 m10 hst10 hle10 hk10 => ?_
  have hfr10 := hk10.fr (.o 7 <| .o 5 <| .o 0 <| .o 1 <| .nil)
  obtain ⟨g8, e19, _⟩ := hk10.ex 8 rfl
  replace hfr10 := hfr10.cons e19
  replace hst10 := hst10.fin (L' := [_, _, _]) (.cons e19 <| .cons e19 <| .nil)
  try simp only [List.take_succ_cons, List.take_zero, List.drop_succ_cons, List.drop_zero, List.cons_append, List.nil_append, List.append_nil, List.length_cons, List.length_nil, Nat.zero_add, Nat.reduceAdd] at hst10
  obtain ⟨⟨o38, c38⟩, h38, hst10⟩ := hst10.unx (k := 2) rfl (fun _ => rfl)
  clear hst9 hfr9 hk10
  have h38b : Ints m10 o38 R9.trace.length c38 R9.trace := h38
  refine hK18 _ _ ?_
  refine zB fun _ hK21 => ?_
  refine rp0 hst10 hfr10 (.cons rfl (zC rfl) <| .cons rfl (zC rfl) <| .cons rfl (zm rfl underlying26) <| .cons rfl (ob_min2 rfl rfl) <| .cons rfl (zD rfl) <| .nil) fun a11 w11 m11 hst11 hle11 hk11 => ?_
  have hfr11 := hk11.fr (.o 7 <| .o 5 <| .o 0 <| .o 1 <| .o 8 <| .n 9 <| .nil)
  clear hst10 hfr10 hk11
  rw [show (if (inp.length : Int) < (y : Int) then (inp.length : Int) else (y : Int)) = ((min y inp.length : Nat) : Int) by split <;> omega] at hfr11
  refine hK21 _ _ ?_
  refine zB fun _ hK22 => ?_
  refine rp0 hst11 hfr11 (.cons rfl (zD rfl) <| .nil) fun a12 w12 m12 hst12 hle12 hk12 => ?_
  have hfr12 := hk12.fr (.o 7 <| .o 5 <| .o 0 <| .o 1 <| .o 8 <| .o 9 <| .n 10 <| .nil)
  clear hst11 hfr11 hk12
  refine hK22 _ _ ?_
  refine zB fun _ hK23 => ?_
  refine zB fun _ hK24 => ?_
  refine rp0 hst12 hfr12 (.cons rfl (zC rfl) <| .cons rfl (zC rfl) <| .cons rfl (ZC rfl rfl) <| .nil) fun a13 w13 m13 hst13 hle13 hk13 => ?_
  have hfr13 := hk13.fr (.o 7 <| .o 5 <| .o 1 <| .o 8 <| .o 9 <| .o 10 <| .n 45 <| .nil)
  clear hst12 hfr12 hk13
  refine hK24 _ _ ?_
  refine zE hfr13 rfl rfl (fun hb45 => ?_) (fun hb45 => ?_)
  ·try simp only [nqs] at hb45
   have hkk9 : R9.kind = 3 := by rw [hrk9, if_pos (by omega)]
   refine rp0 hst13 hfr13 (.cons rfl (zD rfl) <| .nil) fun a14 w14 m14 hst14 hle14 hk14 => ?_
   have hfr14 := hk14.fr (.o 7 <| .o 5 <| .o 1 <| .o 8 <| .o 9 <| .n 10 <| .nil)
   clear hst13 hfr13 hk14
   refine hK23 _ _ ?_
   refine zB fun _ hK25 => ?_
   have zq2 := hle13.trans hle14
   have zq3 := hle12.trans zq2
   have zq4 := hle11.trans zq3
   have zq5 := hle10.trans zq4
   replace hsz7 := hsz7.mono zq5
   have hcz9 := hsz7.cap
   have hct26 : Ints _ _ _ _ ((inp.take ((min y inp.length))).drop (0)) := hsz7.cut (l := 0) (k := (min y inp.length)) (by omega) (by omega)
   have hcl26 : ((min y inp.length)) - (0) = (((inp.take ((min y inp.length))).drop (0))).length := hct26.len.symm
   have hcu26 : Ints _ _ _ _ ((inp.take ((min y inp.length))).drop (0)) := hct26.lenL
   replace h38b := h38b.mono zq4
   refine Z0 (fun _ => zy) hst14 hfr14 (by kernel_rfl) (by kernel_rfl) (.cons rfl (zC rfl) <| .cons rfl (zC rfl) <| .cons rfl (zA (off := 0) rfl underlying35 rfl rfl sizeOf33 rfl) <| .cons rfl (zA (off := 0) rfl underlying33 rfl rfl sizeOf3 rfl) <| .cons rfl (zL (k := 0) (j := 2) rfl rfl isAgg3 rfl) <| .cons rfl (zC rfl) <| .cons rfl (zS rfl rfl) <| .cons rfl (zU rfl rfl rfl) <| .cons rfl (zC rfl) <| .cons rfl (zA (off := 5) rfl underlying35 rfl rfl sizeOf26 rfl) <| .cons rfl (zL (j := 2) rfl rfl isAgg26 rfl) <| .cons rfl (zC rfl) <| .cons rfl (zC rfl) <| .cons rfl (Zh (l := 0) (h := (min y inp.length)) rfl .none (.some rfl (by omega)) underlying26 sizeOf3 (by first | omega | (dsimp only; omega)) (by first | omega | (dsimp only; omega))) <| .cons rfl (zZ rfl (.cons rfl <| .cons rfl <| .nil) call16 (fun w m hK => by have hle_ := KC.le hK; have hA := KC.agree hK; have h38b := h38b.mono hle_; have hcu26 := hcu26.mono hle_; exact (by rw [hcl26]; exact sametr_c hA h38b hcu26))) <| .cons rfl (zU rfl rfl rfl) <| .cons rfl (zD rfl) <| .nil) fun a15 w15 m15 hst15 hle15 hk15 => ?_
   have hfr15 := hk15.fr (.o 7 <| .n 4 <| .nil)
   clear hst14 hfr14 hk15
   refine hK25 _ _ ?_
   refine zN ?_
   repeat (with_reducible first | refine zH ?_ | refine zF ?_)
   exact zO hst15 hfr15 rfl (.tmp rfl <| .nil) (by refine congrArg Value.bool ?_; rw [hkk9, hrt9, List.drop_zero, take_min]; simp)
  ·try simp only [nqs] at hb45
   have hkk9 : R9.kind = 1 := by rw [hrk9, if_neg (by omega)]
   refine zR ?_
   refine hK23 _ _ ?_
   refine zB fun _ hK28 => ?_
   have zq6 := hle12.trans hle13
   have zq7 := hle11.trans zq6
   have zq8 := hle10.trans zq7
   replace hsz7 := hsz7.mono zq8
   have hcz9 := hsz7.cap
   have hct29 : Ints _ _ _ _ ((inp.take ((min y inp.length))).drop (0)) := hsz7.cut (l := 0) (k := (min y inp.length)) (by omega) (by omega)
   have hcl29 : ((min y inp.length)) - (0) = (((inp.take ((min y inp.length))).drop (0))).length := hct29.len.symm
   have hcu29 : Ints _ _ _ _ ((inp.take ((min y inp.length))).drop (0)) := hct29.lenL
   replace h38b := h38b.mono zq7
   refine Z0 (fun _ => zy) hst13 hfr13 (by kernel_rfl) (by kernel_rfl) (.cons rfl (zC rfl) <| .cons rfl (zC rfl) <| .cons rfl (zA (off := 0) rfl underlying35 rfl rfl sizeOf33 rfl) <| .cons rfl (zA (off := 0) rfl underlying33 rfl rfl sizeOf3 rfl) <| .cons rfl (zL (k := 0) (j := 2) rfl rfl isAgg3 rfl) <| .cons rfl (zC rfl) <| .cons rfl (zS rfl rfl) <| .cons rfl (zU rfl rfl rfl) <| .cons rfl (zC rfl) <| .cons rfl (zA (off := 5) rfl underlying35 rfl rfl sizeOf26 rfl) <| .cons rfl (zL (j := 2) rfl rfl isAgg26 rfl) <| .cons rfl (zC rfl) <| .cons rfl (zC rfl) <| .cons rfl (Zh (l := 0) (h := (min y inp.length)) rfl .none (.some rfl (by omega)) underlying26 sizeOf3 (by first | omega | (dsimp only; omega)) (by first | omega | (dsimp only; omega))) <| .cons rfl (zZ rfl (.cons rfl <| .cons rfl <| .nil) call16 (fun w m hK => by have hle_ := KC.le hK; have hA := KC.agree hK; have h38b := h38b.mono hle_; have hcu29 := hcu29.mono hle_; exact (by rw [hcl29]; exact sametr_c hA h38b hcu29))) <| .cons rfl (zU rfl rfl rfl) <| .cons rfl (zD rfl) <| .nil) fun a14 w14 m14 hst14 hle14 hk14 => ?_
   have hfr14 := hk14.fr (.o 7 <| .n 4 <| .nil)
   clear hst13 hfr13 hk14
   refine hK28 _ _ ?_
   refine zN ?_
   repeat (with_reducible first | refine zH ?_ | refine zF ?_)
   exact zO hst14 hfr14 rfl (.tmp rfl <| .nil) (by refine congrArg Value.bool ?_; rw [hkk9, hrt9, List.drop_zero, take_min]; simp)
end Go.Proofs.Ytnppknioifgdfaa
namespace Go.Proofs.Ytnppknioifgdfaa
set_option linter.all false
open Go.RowKit Go.WideShapes Go.ChangeShapes Go.Deep Go.WideElems Go.ChangeAt Go.ChangeMaps
def zDz (W : World) : Mem := ⟨fun b o => W.cell? ⟨b, o, none⟩, fun b => match W.heap[b]? with | some (.map es cl) => some (es, cl) | _ => none⟩
theorem agree_snap (W : World) : Agree W (zDz W) := ⟨fun _ _ _ h => h, fun b es h => by
 change (match W.heap[b]? with | some (.map es cl) => some (es, cl) | _ => none) = some es at h
 split at h
 ·rename_i ents cl he
  injection h with h
  subst h; exact he
 ·cases h⟩
theorem cell_spot {W : World} {a : Addr} {v : Value} (h : W.cell? a = some v) : a.spot = none := by
 unfold World.cell? at h
 split at h
 ·split at h
  ·cases h
  ·rename_i hs; cases e : a.spot with
   | none => rfl
   | some x => rw [e] at hs; exact absurd rfl hs
 ·cases h
theorem snap_of {W : World} {a : Addr} {v : Value} (h : W.cell? a = some v) : zDz W a.block a.off = some v := by
 have := cell_spot h
 show W.cell? ⟨a.block, a.off, none⟩ = some v
 rw [← h]; congr 1
 cases a; simp only at this; subst this; rfl
theorem cellsAt_snap {W : World} {base : Nat} {a : Addr} {n : Nat} {cs : List Value} (h : W.cells? base a n = some cs) (hn : 0 < n) : CellsAt (zDz W) a cs ∧ cs.length = n := by
 obtain ⟨_, hl, hat⟩ := World.cells?_some h
 have h0 := hat 0 hn
 have e0 : a.add 0 = a := by unfold Addr.add; rfl
 rw [e0, List.getElem?_eq_getElem (by omega)] at h0
 refine ⟨⟨cell_spot h0, fun i v e => ?_⟩, hl⟩
 have hi : i < n := by have := (List.getElem?_eq_some_iff.1 e).1; omega
 have := hat i hi
 rw [e] at this
 have := snap_of this
 rwa [zBe, zDE] at this
section
variable {H : Type} {enc : TypeId × Value → H} {P : Program} {W : World} {base : Nat} {spare : Nat → Bool} {held : Bool}
theorem open_I {r : Reach} {b0 : Nat} {t : TypeId} {v : Value} {d : DataW H} {ps : List MemPlace} (ht : P.underlying t = some (.int .i64)) (hval : Value.okWide P W r b0 t v) (hd : DataW.Trod enc P W base spare held t v d ps) :
  ∃ n : Int, v = .int .i64 n ∧ zq n := by
 obtain ⟨n, rfl, _, _, hs⟩ := open_int ht hval hd
 simp only [Lit.wf, Bool.and_eq_true, decide_eq_true_eq] at hs
 have h1 : IntKind.i64.min = -9223372036854775808 := by decide
 have h2 : IntKind.i64.max = 9223372036854775807 := by decide
 exact ⟨n, rfl, by omega, by omega⟩
theorem sl_of_trod {α : Type} {R : Mem → List Value → α → Prop} {t e : TypeId} {sz fuel : Nat} {cs : List Value} {x : DataW H × List MemPlace} (ht : P.underlying t = some (.slice e)) (hc : P.cellsOf e = sz) (hsz : 0 < sz)
  (hR : ∀ n cs x, DataW.trod enc P W base spare held n e cs = some x → cs.length = sz → ∃ a : α, R (zDz W) cs a) (h : DataW.trod enc P W base spare held fuel t cs = some x) :
  ∃ o n c l, cs = [.slice o n c] ∧ Sl R sz (zDz W) o n c l ∧ c ≤ maxLen := by
 rcases open_slice ht h with ⟨rfl, _⟩ | ⟨a, len, cap, m, n, D, Pl, rfl, hb, hl, hm, hmm, _, hi⟩
 ·exact ⟨none, 0, 0, [], rfl, ⟨rfl, Nat.le_refl _, Nat.zero_le _, fun i x hx => by simp at hx⟩, Nat.zero_le _⟩
 ·have hlm : len ≤ m := by rw [hmm]; split <;> omega
  have key : ∀ k, k ≤ len → ∃ l : List α, l.length = k ∧ ∀ i x, l[i]? = some x → ∃ vs, CellsAt (zDz W) (a.add (i * sz)) vs ∧ vs.length = sz ∧ R (zDz W) vs x := by
   intro k
   induction k with
   | zero => intro _; exact ⟨[], rfl, fun i x hx => by simp at hx⟩
   | succ k ih =>
    intro hk
    obtain ⟨l, hl1, hl2⟩ := ih (by omega)
    obtain ⟨cs', hcs, htr⟩ := hi k (by omega)
    rw [hc] at hcs
    obtain ⟨h1, h2⟩ := cellsAt_snap hcs hsz
    obtain ⟨y, hy⟩ := hR n cs' _ htr h2
    refine ⟨l ++ [y], by simp [hl1], fun i x hx => ?_⟩
    rw [List.getElem?_append] at hx
    split at hx
    ·exact hl2 i x hx
    ·have hik : i = k := by
      have := (List.getElem?_eq_some_iff.1 hx).1
      simp at this; omega
     subst hik
     rw [hl1, Nat.sub_self] at hx
     simp only [List.getElem?_cons_zero, Option.some.injEq] at hx
     subst hx
     exact ⟨cs', h1, h2, hy⟩
  obtain ⟨l, hl1, hl2⟩ := key len (Nat.le_refl _)
  refine ⟨some a, len, cap, l, rfl, ⟨hl1, hl, ?_, fun i x hx => ?_⟩, hm⟩
  ·simp only [maxLen] at hm; omega
  ·obtain ⟨vs, h1, h2, h3⟩ := hl2 i x hx
   exact ⟨a, vs, rfl, h1, h2, h3⟩
theorem sl_of {α : Type} {R : Mem → List Value → α → Prop} {r : Reach} {b0 : Nat} {t e : TypeId} {sz : Nat} {v : Value} {d : DataW H} {ps : List MemPlace} (ht : P.underlying t = some (.slice e)) (hc : P.cellsOf e = sz) (hsz : 0 < sz)
  (hR : ∀ n cs x, DataW.trod enc P W base spare held n e cs = some x → cs.length = sz → ∃ a : α, R (zDz W) cs a) (hval : Value.okWide P W r b0 t v) (hd : DataW.Trod enc P W base spare held t v d ps) :
  ∃ o n c l, v = .slice o n c ∧ Sl R sz (zDz W) o n c l ∧ c ≤ maxLen := by
 obtain ⟨o, n, c, rfl⟩ := okWide_slice ht hval
 obtain ⟨fuel, hf⟩ := hd
 obtain ⟨o', n', c', l, e1, h1, h2⟩ := sl_of_trod ht hc hsz hR hf
 simp only [Value.cells, List.cons.injEq, and_true] at e1
 injection e1 with e1 e2 e3
 subst e1 e2 e3
 exact ⟨_, _, _, l, rfl, h1, h2⟩
theorem zBh (hl : laidOutB P = true) {W' : World} {sp : Nat → Bool} : ∀ {ts : List TypeId} {vs : List Value} {ds : List (DataW H)} {ps : List MemPlace}, (ts.all fun t => P.readableRec t && decide (t < P.types.size)) = true →
  DataW.TrodAll enc P W base (fun _ => true) true ts vs ds ps → (∀ p ∈ ps, W.sameAt W' p) → (∀ p ∈ ps, sp p.block = true) → DataW.TrodAll enc P W' base sp true ts vs ds ps
 | [], vs, ds, ps, _, h, _, _ => by
  obtain ⟨rfl, rfl, rfl⟩ := trodAll_nil h
  exact rfl
 | t :: ts, vs, ds, ps, hts, h, h1, h2 => by
  obtain ⟨v, vs', d, ds', p, q, rfl, rfl, rfl, hd, hr⟩ := trodAll_cons h
  simp only [List.all_cons, Bool.and_eq_true, decide_eq_true_eq] at hts
  obtain ⟨⟨hr1, hr2⟩, hts'⟩ := hts
  exact ⟨p, q, Trod_stays hl hr1 hr2 hd (fun x hx => h1 x (List.mem_append_left _ hx)) (fun x hx => h2 x (List.mem_append_left _ hx)),
   zBh hl hts' hr (fun x hx => h1 x (List.mem_append_right _ hx)) (fun x hx => h2 x (List.mem_append_right _ hx)), rfl⟩
theorem post_law {f : Func} {s : ChangeSpec} {W' : World} {m' : Mem} {args : Array Value} {ds : List (DataW H)} {gs : List (DataW H)} {before : List MemPlace} {t : TypeId}
  (hl : laidOutB P = true) (hts : (f.params.toList.all fun t => P.readableRec t && decide (t < P.types.size)) = true) (hvs : s.vars = []) (hres : f.resultTypes = #[t]) (ht : P.underlying t = some .bool)
  (hfn : s.fn H (ds ++ gs) = { results := [.lit (.bool true)], args := ds }) (hW : DataW.Whole enc P f.params.toList s.vars false W args.toList ds gs before) (hx : ExtG [] W (zDz W) W' m') :
  s.post enc P f false true false false W args (.bool true) W' := by
 have hb := hx.below
 have hlt : ∀ p ∈ before, p.block < W.heap.size := fun p hp => hW.lt p hp
 have hold : ∀ p ∈ before, (fun b => decide (b < W.heap.size)) p.block = true := fun p hp => by simpa using hlt p hp
 have hsame : ∀ p ∈ before, W.sameAt W' p := fun p hp => hb.same (hlt p hp)
 have hW0 := hW
 obtain ⟨pa, pv, hA, hV, hps, hz, hn⟩ := hW
 rw [hvs] at hV
 obtain ⟨rfl, rfl⟩ := trodVars_none hV
 rw [List.append_nil] at hps
 subst hps
 have hres' : ∀ (b : Nat) (sp : Nat → Bool) (hd : Bool), DataW.TrodAll enc P W' b sp hd f.resultTypes.toList ((Value.bool true).resultList f.resultTypes.size) (s.fn H (ds ++ [])).results [] := fun b sp hd => by
  rw [hfn, hres]
  exact trodAll_mk1 ⟨1, by simp [DataW.trod, Value.cells, ht]⟩
 have hargs : ∀ sp : Nat → Bool, (∀ p ∈ before, sp p.block = true) → DataW.TrodAll enc P W' 0 sp true f.params.toList args.toList (s.fn H (ds ++ [])).args before := fun sp hsp => by
  rw [hfn]; exact zBh hl hts hA hsame hsp
 have hvars : ∀ sp : Nat → Bool, DataW.TrodVars enc P W' sp s.vars (s.fn H (ds ++ [])).vars [] := fun sp => by
  rw [hvs, hfn]; exact rfl
 refine ⟨ds, [], before, [], before, [], hW0, hres' _ _ _, hargs _ hold, hvars _, World.keptBut_mono (fun p hp => ⟨hp, ?_⟩) (hb.frame (· ∈ before)), fun _ => ?_⟩
 ·exact Or.inr (Or.inl hp)
 ·refine ⟨ok_one hres rfl (okWide_bool_mk ht true), _, _, ([] ++ before) ++ [], ⟨[] ++ before, [], trodAll_append (hargs _ (fun _ _ => rfl)) (hres' _ _ _), hvars _, rfl, ?_, ?_⟩, ?_⟩
  ·intro b off hp
   have hin : MemPlace.cell b off ∈ before := by simpa using hp
   rw [hb.frozen (hlt _ hin)]
   exact hz b off hin
  ·intro ha
   have := hn ha
   simpa using this
  ·intro p hp _
   simpa using hp
end
end Go.Proofs.Ytnppknioifgdfaa
namespace Go.Proofs.Ytnppknioifgdfaa
set_option linter.all false
open Go.RowKit Go.WideShapes Go.ChangeShapes Go.Deep Go.WideElems Go.ChangeAt Go.ChangeMaps
section
variable {H : Type} {enc : TypeId × Value → H} {P : Program} {W : World} {base : Nat} {spare : Nat → Bool} {held : Bool}
theorem int_open {t : TypeId} {n : Nat} {cs : List Value} {x : DataW H × List MemPlace} (ht : P.underlying t = some (.int .i64)) (h : DataW.trod enc P W base spare held n t cs = some x) : ∃ k : Int, cs = [.int .i64 k] ∧ zq k ∧ Rows.uptoBulk x.1 = 1 := by
 obtain ⟨k, e, rfl, hs⟩ := DataW.trod_int ht h
 simp only [Lit.wf, Bool.and_eq_true, decide_eq_true_eq] at hs
 have h1 : IntKind.i64.min = -9223372036854775808 := by decide
 have h2 : IntKind.i64.max = 9223372036854775807 := by decide
 exact ⟨k, e, ⟨by omega, by omega⟩, by simp [Rows.uptoBulk]⟩
end
end Go.Proofs.Ytnppknioifgdfaa
namespace Go.Proofs.Ytnppknioifgdfaa
open Go.Proofs.Try
set_option linter.all false
set_option maxRecDepth 4000
open Go.RowKit Go.WideShapes Go.ChangeShapes Go.Deep Go.WideElems Go.ChangeAt Go.ChangeMaps
theorem ints_arg {H : Type} {enc : TypeId × Value → H} {W : World} {base : Nat} {spare : Nat → Bool} {held : Bool} {r : Reach} {b0 : Nat} {v : Value} {d : DataW H} {ps : List MemPlace} (hval : Value.okWide Try.prog W r b0 26 v) (hd : DataW.Trod enc Try.prog W base spare held 26 v d ps) :
  ∃ o c l, v = .slice o l.length c ∧ Ints (zDz W) o l.length c l ∧ ∀ x ∈ l, zq x := by
 obtain ⟨o, n, c, l, rfl, h1, _⟩ := sl_of (R := fun _ vs (x : Int) => vs = [Value.int .i64 x] ∧ zq x) (sz := 1) underlying26 (by kernel_rfl) (by omega) (fun n cs x ht _ => by obtain ⟨k, e, h, _⟩ := int_open underlying3 ht; exact ⟨k, e, h⟩) hval hd
 obtain rfl := h1.len
 refine ⟨o, c, l, rfl, ⟨rfl, h1.cap, h1.big, fun i x hx => ?_⟩, fun x hx => ?_⟩
 ·obtain ⟨p, vs, a1, a2, a3, a4⟩ := h1.at_ i x hx; exact ⟨p, vs, a1, a2, a3, a4.1⟩
 ·obtain ⟨i, hi⟩ := List.mem_iff_getElem?.1 hx
  obtain ⟨p, vs, a1, a2, a3, a4⟩ := h1.at_ i x hi; exact a4.2
end Go.Proofs.Ytnppknioifgdfaa
namespace Go.Proofs.Ytnppknioifgdfaa
open Go.Proofs.Try
set_option linter.all false
set_option maxRecDepth 4000
open Go.ChangeShapes Go.WideShapes Go.ChangeAt Go.RowKit Go.Deep
theorem machineReads_own : ownKnob Try.prog.godebug = none := by kernel_rfl
theorem machineReads_laid : laidOutB Try.prog = true := by kernel_rfl
set_option maxRecDepth 100000 in
theorem machineReads_contract (H : Type) (enc : TypeId × Value → H) (W : World) (base : Nat) (args : Array Value) (ds gs : List (DataW H)) (before : List MemPlace)
  (hval : ∀ (j : Nat) t v, Try.f8.params[j]? = some t → args[j]? = some v → Value.okWide Try.prog W .any base t v)
  (hW : DataW.Whole enc Try.prog Try.f8.params.toList Rows.machineReadsSpec.vars false W args.toList ds gs before) (hc : ∀ k, (OpenSpec.ofChange Rows.machineReadsSpec).cond = some k → k H (ds ++ gs) = true) (hL : laidMetH Try.prog Rows.machineReadsRow.laid W) :
  Calls Try.prog 8 args W fun e W' => ∃ v, e = .returned v ∧ Rows.machineReadsSpec.post enc Try.prog Try.f8 false true false false W args v W' := by
 have hW' := hW
 obtain ⟨p, q, hA0, hV, rfl, hfz, hnd⟩ := hW
 have hA : DataW.TrodAll enc Try.prog W 0 (fun _ => true) true Try.f8.params.toList args.toList ds p := hA0
 rw [Try.params8] at hA hval
 obtain ⟨v0, vs0, d0, ds0, p0, q0, e0, rfl, rfl, h0, hA0⟩ := trodAll_cons hA
 obtain ⟨v1, vs1, d1, ds1, p1, q1, e1, rfl, rfl, h1, hA1⟩ := trodAll_cons hA0
 obtain ⟨e2, rfl, rfl⟩ := trodAll_nil hA1
 subst e2 e1
 obtain rfl : args = #[v0, v1] := Array.toList_inj.1 e0
 obtain ⟨rfl, rfl⟩ := trodVars_none hV
 obtain ⟨n, rfl, hn_⟩ := open_I underlying3 (hval 0 3 v0 rfl rfl) h0
 obtain ⟨o_l, c_l, l, rfl, hs_l, hi_l⟩ := ints_arg (hval 1 26 v1 rfl rfl) h1
 have hA0 := agree_snap W
 refine Calls.mono (zDS hA0 hs_l hi_l) fun e W' ⟨v, m', he, hx, hv⟩ => ?_
 subst hv
 exact ⟨_, he, post_law machineReads_laid (by kernel_rfl) rfl rfl underlying4 rfl hW' hx⟩
theorem machineReads_laidmet (os : Go.Os) : laidMetH Try.prog Rows.machineReadsRow.laid (((World.holding Try.prog os ⟨#[], #[], []⟩)).forCall (fun _ _ => 0) ⟨#[], #[.int .i64 0, .slice none 0 0], []⟩).memory :=
 laidMet_of_run' 8 (by kernel_rfl) (by kernel_rfl)
theorem machineReads_reads (os : Go.Os) {H : Type} (enc : TypeId × Value → H) : ∃ places, DataW.whole enc Try.prog (((World.holding Try.prog os ⟨#[], #[], []⟩)).forCall (fun _ _ => 0) ⟨#[], #[.int .i64 0, .slice none 0 0], []⟩).memory Try.f8.params.toList Rows.machineReadsSpec.vars false #[.int .i64 0, .slice none 0 0].toList 12 = some ([.lit (.int .i64 0), .nil], [], places) :=
 ⟨[], by kernel_rfl⟩
set_option maxRecDepth 100000 in
theorem machineReads_lifted (os : Go.Os) (started : os.Started) (H : Type) (enc : TypeId × Value → H) (F : Stop.Interp) :
  ReturnsInHanded {} Try.checked os 8 .any ((OpenSpec.ofChange Rows.machineReadsSpec).preRow enc Try.prog Try.f8 Rows.machineReadsRow.domain false Rows.machineReadsRow.laid) (((OpenSpec.ofChange Rows.machineReadsSpec).at F).post enc Try.prog Try.f8 false true false false) := by
 obtain ⟨places, hx⟩ := machineReads_reads os enc
 refine returnsInHanded_of_row (C := Try.checked) (s := (OpenSpec.ofChange Rows.machineReadsSpec)) machineReads_own started (by kernel_rfl) func8
  (witness_row_at (enc := enc) (C := Try.checked) false ((World.holding Try.prog os ⟨#[], #[], []⟩)) #[.int .i64 0, .slice none 0 0] rfl (by kernel_rfl) (by kernel_rfl) (by kernel_rfl)
   (OpenSpec.preRow_of_cond 12 hx (by kernel_rfl) (fun k hk => by cases hk) (by kernel_rfl) (machineReads_laidmet os))) ?_
 intro W base args ds gs before hval hW _ hc _ hL _ _
 exact machineReads_contract H enc W base args ds gs before hval hW hc hL
theorem machineReads_holds : Rows.MachineReadsSaid :=
 OpenClaim.holds_of_cond 8 Try.f8 rfl rfl rfl rfl rfl rfl rfl ⟨rfl, rfl, rfl, rfl, rfl⟩ rfl rfl rfl rfl rfl (by kernel_rfl) func8 (by kernel_rfl)
  (of_decide_eq_true (by kernel_rfl)) (by unfold Func.isWrapper; first | (rw [if_pos (by decide +kernel)]; kernel_rfl) | (rw [if_neg (by decide +kernel)]; exact ⟨rfl, rfl⟩))
  (fun os started H enc _ F => by rw [OpenClaim.pre_eq_preRow]; exact machineReads_lifted os started H enc F)
end Go.Proofs.Ytnppknioifgdfaa
