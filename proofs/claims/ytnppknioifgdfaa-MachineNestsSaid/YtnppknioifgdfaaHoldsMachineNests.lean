/-
  The law's proof, whole. Conditions: those of each theorem.
-/
import Derived.Test.YtnppknioifgdfaaSqD
import Derived.ProofKit
import Derived.Carry
import Derived.ChangeSame
import Derived.ShutString
import Derived.Deep.Slices
import Derived.Deep.Fields
import Derived.LaidSub
import Derived.MakeChecks
import Derived.LaidLaws
import Derived.Lib.LaidTab
import Derived.OpenShut
import Derived.Deep.DeepHandedRow
import Derived.Test.YtnppknioifgdfaaRows
namespace Go.Proofs.Ytnppknioifgdfaa
open Go.Proofs.Try
set_option linter.all false
set_option maxRecDepth 4000
open Go.RowKit
set_option maxHeartbeats 12800000 in
theorem run_c {w : World} {m : Mem} {c : Cd} {vs_c : List Value} {o_es : Option Addr} {c_es : Nat} {es : List Ef} {o_input : Option Addr} {c_input : Nat} {input : List Int} {fuel : Nat} {r : Rn} (hA : Agree w m) (h_c : CdR m c vs_c) (h_es : Efs m o_es es.length c_es es) (h_input : Ints m o_input input.length c_input input) (hin0 : ∀ n ∈ input, zq n) (hrun : runR c es input fuel = some r) (hli : input.length ≤ 1000000) (hfu : fuel ≤ 1000000) : FnV Try.prog 14 #[.agg vs_c.toArray, .slice o_es es.length c_es, .slice o_input input.length c_input, .int .i64 (fuel : Int)] w m (fun _ m v => (MP.rn r).p m v) := by
 obtain ⟨⟨oK_c, cK_c, oA_c, cA_c⟩, rfl, ⟨hik_c, hin_c⟩, hkk_c, haa_c⟩ := h_c.open_
 dsimp only at hkk_c haa_c
 have hbg_c := hkk_c.big; have hcp_c := hkk_c.cap; have hbh_c := haa_c.big; have hcq_c := haa_c.cap
 have hb_es := h_es.big; have hc_es := h_es.cap
 have hb_input := h_input.big; have hc_input := h_input.cap
 refine fn_enterM (vs := [_, _, _, _]) func14 rfl rfl fun a0 hfr0 => ?_
 have hst0 := zV hA (zi [] _ w m)
 have hM : MLe m m := MLe.refl m
 refine zB fun _ hK1 => ?_
 replace hst0 := hst0.more (r := .free) trivial List.nodup_nil (by simp [Res.blocks])
 refine ra0 (tch := [(1, 0, (fun v => .blk v _))]) hst0 hfr0 (.cons rfl (zt rfl rfl) <| .consT rfl rfl (fun _ => rfl) rfl (zQ zeroValue35 rfl) <| .nil) fun a1 w1 m1 hst1 hle1 hk1 => ?_
 have hfr1 := hk1.fr (.o 0 <| .o 1 <| .o 2 <| .o 3 <| .nil)
 obtain ⟨g4, e2, hc4⟩ := hk1.ex 4 rfl
 replace hfr1 := hfr1.cons e2
 obtain ⟨g8, e3, _⟩ := hk1.ex 8 rfl
 replace hfr1 := hfr1.cons e3
 replace hst1 := hst1.fin (L' := [_]) (.cons e3 <| .nil)
 replace h_c := h_c.mono hle1
 replace hkk_c := hkk_c.mono hle1
 replace haa_c := haa_c.mono hle1
 replace h_es := h_es.mono hle1
 replace h_input := h_input.mono hle1
 replace hM := hM.trans hle1
 clear hst0 hfr0 hk1
 refine hK1 _ _ ?_
 refine zB fun _ hK4 => ?_
 refine zB fun _ hK5 => ?_
 refine rp0 hst1 hfr1 (.cons rfl (zc rfl hc4 isAgg25 sizeOf25 rfl rfl) <| .cons rfl (za rfl (.cons rfl <| .nil) call28 (fun w m hK => by have hle_ := KC.le hK; have hA := KC.agree hK; have h_c := h_c.mono hle_; exact right_c c hA h_c)) <| .cons rfl (zu rfl) <| .nil) fun a2 w2 m2 hst2 hle2 hk2 => ?_
 have hfr2 := hk2.fr (.o 0 <| .o 1 <| .o 2 <| .o 3 <| .o 4 <| .o 8 <| .n 17 <| .nil)
 replace h_c := h_c.mono hle2
 replace hkk_c := hkk_c.mono hle2
 replace haa_c := haa_c.mono hle2
 replace h_es := h_es.mono hle2
 replace h_input := h_input.mono hle2
 replace hc4 := hc4.mono hle2
 replace hM := hM.trans hle2
 clear hst1 hfr1 hk2
 refine hK5 _ _ ?_
 refine zE hfr2 rfl rfl (fun hb17 => ?_) (fun hb17 => ?_)
 ·try simp only [nqs] at hb17
  have hr0 : r = ⟨4, 0, 0, [], [], 0, 0⟩ := by unfold runR at hrun; rw [if_neg (by rw [hb17]; decide)] at hrun; injection hrun with hrun; exact hrun.symm
  refine zB fun _ hK6 => ?_
  refine ra0 (tch := [(2, 0, (fun _ => .blk _ _))]) hst2 hfr2 (.cons rfl (zP (.cons rfl <| .nil) underlying33 zeroValue33 (.cons sizeOf3 <| .cons sizeOf31 <| .nil) rfl) <| .cons rfl (zP (.cons rfl <| .nil) underlying35 zeroValue35 (.cons sizeOf33 <| .cons sizeOf26 <| .cons sizeOf3 <| .cons sizeOf3 <| .nil) rfl) <| .consT rfl rfl (fun _ => rfl) rfl (zW rfl rfl rfl sizeOf35 rfl rfl rfl) <| .nil) fun a3 w3 m3 hst3 hle3 hk3 => ?_
  have hfr3 := hk3.fr (.o 0 <| .o 1 <| .o 2 <| .o 3 <| .o 4 <| .o 8 <| .nil)
  replace hst3 := hst3.fin (L' := [_]) (.cons rfl <| .nil)
  try simp only [List.take_succ_cons, List.take_zero, List.drop_succ_cons, List.drop_zero, List.cons_append, List.nil_append, List.append_nil, List.length_cons, List.length_nil, Nat.zero_add, Nat.reduceAdd] at hst3
  clear hst2 hfr2 hk3
  refine hK6 _ _ ?_
  refine zN ?_
  repeat (with_reducible first | refine zH ?_ | refine zG ?_)
  exact zBe hst3 hfr3 rfl (.cell rfl (zh (zf (hst3.loc.at_ (k := 0) rfl)) isAgg35 sizeOf35) <| .nil) (by rw [hr0]; exact ⟨(none, 0), rfl, Sl.empty⟩)
 ·try simp only [nqs] at hb17
  obtain ⟨sF, hsF, heF⟩ : ∃ sF, ZZ fuel ((zBf input (zCK es)).goes c .nil) = some sF ∧ endM sF = some r := by unfold runR at hrun; rw [if_pos hb17] at hrun; cases hq : ZZ fuel ((zBf input (zCK es)).goes c .nil) with | none => rw [hq] at hrun; cases hrun | some s => rw [hq] at hrun; exact ⟨s, rfl, hrun⟩
  refine zR ?_
  refine hK4 _ _ ?_
  refine zB fun _ hK8 => ?_
  refine z2 3 (by kernel_rfl) ?_
  replace hst2 := hst2.more (r := .free) trivial List.nodup_nil (by simp [Res.blocks])
  refine zp (tch := [(2, 1, (fun v => .map v _))]) hst2 hfr2 (by kernel_rfl) (by kernel_rfl) (by kernel_rfl) (.cons rfl (zC rfl) <| .cons rfl (zn (φ := MP.ints input) rfl (.cons rfl <| .nil) call29 (fun w m hK => by have hle_ := KC.le hK; have hA := KC.agree hK; have h_input := h_input.mono hle_; exact FnG.mono (cloneI_c hA h_input hli) fun _ _ _ _ h => h)) <| .consT rfl rfl (fun _ => rfl) rfl (zBt S) <| .nil) fun a3 w3 m3 hst3 hle3 hk3 => ?_
  have hfr3 := hk3.fr (.o 0 <| .o 1 <| .o 2 <| .o 3 <| .o 4 <| .o 8 <| .nil)
  obtain ⟨⟨oi9, ci9⟩, e9, hii9⟩ := hk3.ex 21 rfl
  replace hfr3 := hfr3.cons e9
  obtain ⟨gm9, e10, _⟩ := hk3.ex 22 rfl
  replace hfr3 := hfr3.cons e10
  replace hst3 := hst3.fin (L' := [_, _]) (.cons e10 <| .nil)
  clear hst2 hfr2 hk3
  dsimp only [MP.ints, MP.mapv, MP.mem] at hfr3 hii9
  refine zBw 2 (by kernel_rfl) ?_
  replace hst3 := hst3.more (r := .free) trivial List.nodup_nil (by simp [Res.blocks])
  refine zp (tch := [(1, 2, (fun v => .blk v _))]) hst3 hfr3 (by kernel_rfl) (by kernel_rfl) (by kernel_rfl) (.cons rfl (zP (.cons rfl <| .cons rfl <| .nil) underlying79 zeroValue79 (.cons sizeOf77 <| .cons sizeOf70 <| .cons sizeOf68 <| .cons sizeOf26 <| .cons sizeOf66 <| .cons sizeOf35 <| .nil) rfl) <| .consT rfl rfl (fun _ => rfl) rfl (ob_boxL rfl rfl) <| .nil) fun a4 w4 m4 hst4 hle4 hk4 => ?_
  have hfr4 := hk4.fr (.o 0 <| .o 1 <| .o 2 <| .o 3 <| .o 4 <| .o 8 <| .o 21 <| .o 22 <| .nil)
  obtain ⟨g24, e11, _⟩ := hk4.ex 24 rfl
  replace hfr4 := hfr4.cons e11
  replace hst4 := hst4.fin (L' := [_, _, _]) (.cons e11 <| .nil)
  clear hst3 hfr3 hk4
  replace hst4 := hst4.more (r := .free) trivial List.nodup_nil (by simp [Res.blocks])
  refine zp (tch := [(0, 3, (fun v => .blk v _)), (1, 3, (fun v => .blk v _))]) hst4 hfr4 (by kernel_rfl) (by kernel_rfl) (by kernel_rfl) (.consT rfl rfl (fun _ => rfl) rfl (zQ zeroValue64 rfl) <| .consT rfl rfl (fun _ => rfl) rfl (zd 9 rfl rfl rfl fun y9 => zX rfl rfl rfl rfl rfl sizeOf64 rfl rfl rfl) <| .nil) fun a5 w5 m5 hst5 hle5 hk5 => ?_
  have hfr5 := hk5.fr (.o 0 <| .o 1 <| .o 2 <| .o 3 <| .o 4 <| .o 8 <| .o 21 <| .o 22 <| .o 24 <| .nil)
  obtain ⟨g9, e12, _⟩ := hk5.ex 9 rfl
  replace hfr5 := hfr5.cons e12
  replace hst5 := hst5.fin (L' := [_, _, _, _]) (.cons e12 <| .cons e12 <| .nil)
  try simp only [List.take_succ_cons, List.take_zero, List.drop_succ_cons, List.drop_zero, List.cons_append, List.nil_append, List.append_nil, List.length_cons, List.length_nil, Nat.zero_add, Nat.reduceAdd] at hst5
  clear hst4 hfr4 hk5
  replace hst5 : St _ _ _ [_, .map (.map (some gm9)) (zAH S (zEI S [])), MB g24 (zBf input ([] : List (Str × Str))) (iniY oi9 ci9 gm9), _] _ _ := hst5
  refine hK8 _ _ ?_
  refine zB fun _ hK13 => ?_
  refine zB fun _ hK14 => ?_
  have zq1 := hle4.trans hle5
  have zq2 := hle3.trans zq1
  replace h_es := h_es.mono zq2
  refine rp0 hst5 hfr5 (.cons rfl (zC rfl) <| .cons rfl (zn (φ := MP.backV es) rfl (.cons rfl <| .nil) call30 (fun w m hK => by have hle_ := KC.le hK; have hA := KC.agree hK; have h_es := h_es.mono hle_; exact FnG.mono (back_c hA h_es) fun _ _ _ _ h => h)) <| .nil) fun a6 w6 m6 hst6 hle6 hk6 => ?_
  have hfr6 := hk6.fr (.o 0 <| .o 1 <| .o 2 <| .o 3 <| .o 4 <| .o 8 <| .o 21 <| .o 22 <| .o 24 <| .o 9 <| .nil)
  obtain ⟨⟨gq9, oq9, cq9⟩, e15, hq9, hlq9⟩ := hk6.ex 26 rfl
  replace hfr6 := hfr6.cons e15
  clear hst5 hfr5 hk6
  refine hK14 _ _ ?_
  refine zY ?_
  refine zAv (T := [(0, _), (1, _), (2, _), (3, _), (4, _), (8, _), (21, _), (22, _), (24, _), (9, _), (26, _)]) (fun (y : (List (Str × Str)) × (Unit)) => ([_, .map (.map (some gm9)) (zAH S (zEI S y.1)), MB g24 (zBf input ([] : List (Str × Str))) (iniY oi9 ci9 gm9), _] : List Res)) (es.length) (BackY es) (fun i (y : (List (Str × Str)) × (Unit)) m => (fun (cur : List (Str × Str)) (du : Unit) => (zCK es = zBX (es.take (es.length - i)) cur) ∧ (True)) y.1 y.2) (fun (y : (List (Str × Str)) × (Unit)) m => (fun (cur : List (Str × Str)) (du : Unit) => (False)) y.1 y.2) ([], ()) hst6 (hfr6.sub (.c <| .c <| .c <| .c <| .c <| .c <| .c <| .c <| .c <| .c <| .c <| .nil)) rfl call44 ⟨by decide, by decide⟩ (fun _ _ _ _ _ h => h) (fun _ _ _ _ h => h) (⟨by rw [Nat.sub_zero, List.take_length]; rfl, trivial⟩) (back_iter hq9 hlq9) (fun i hi y w7 m7 args l rc hle7 hY hrel _ => ?_) (fun y D l rc a7 w7 m7 hst7 hle7 hrel hfr7 => ?_) (fun y D l rc a7 w7 m7 hst7 hle7 hrel hfr7 => ?_)
  ·obtain ⟨cur, du⟩ := y
   dsimp only at hrel
   obtain ⟨hj9, _⟩ := hrel
   clear hst6 hfr6
   obtain ⟨k9, e9, ve9, rfl, hef9, hat9⟩ := hY
   obtain ⟨oE_e9, cE_e9, rfl, hop_e9⟩ := hef9.open_
   have hbo_e9 := hop_e9.big; have hco_e9 := hop_e9.cap
   refine ⟨rfl, fun G1 a7 hfr7 hst7 _ hKrf => ?_⟩
   replace hfr7 : Fr _ [(27, _), (28, _), (0, _), (1, _), (2, _), (3, _), (4, _), (8, _), (21, _), (22, _), (24, _), (9, _), (26, _)] a7 := hfr7
   replace hst7 : St G1 w7 m7 [_, _, _, _, _] w7 m7 := hst7
   replace hst7 := hst7.more (r := .free) trivial List.nodup_nil (by simp [Res.blocks])
   refine ra0 (tch := [(0, 5, (fun v => .blk v _)), (1, 5, (fun v => .blk v _))]) hst7 hfr7 (.consT rfl rfl (fun _ => rfl) rfl (zQ zeroValue85 rfl) <| .consT rfl rfl (fun _ => rfl) rfl (zd 11 rfl rfl rfl fun y11 => zX rfl rfl rfl rfl rfl sizeOf85 rfl rfl rfl) <| .nil) fun a8 w8 m8 hst8 hle8 hk8 => ?_
   have hfr8 := hk8.fr (.o 27 <| .o 28 <| .o 0 <| .o 1 <| .o 2 <| .o 3 <| .o 4 <| .o 8 <| .o 21 <| .o 22 <| .o 24 <| .o 9 <| .o 26 <| .nil)
   obtain ⟨g11, e16, _⟩ := hk8.ex 11 rfl
   replace hfr8 := hfr8.cons e16
   replace hst8 := hst8.fin (L' := [_, _, _, _, _, _]) (.cons e16 <| .cons e16 <| .nil)
   try simp only [List.take_succ_cons, List.take_zero, List.drop_succ_cons, List.drop_zero, List.cons_append, List.nil_append, List.append_nil, List.length_cons, List.length_nil, Nat.zero_add, Nat.reduceAdd] at hst8
   clear hst7 hfr7 hk8
   refine hKrf _ _ _ [_, _, _, _, _, _] 4 hst8 rfl fun w9 hst9 => ?_; clear hKrf
   simp only [List.set_cons_succ, List.set_cons_zero] at hst9
   have hfr9 := hfr8; obtain ⟨a9, rfl⟩ : ∃ a, a = a8 := ⟨_, rfl⟩; obtain ⟨m9, rfl⟩ : ∃ m, m = m8 := ⟨_, rfl⟩; clear hst8 hfr8
   refine zY ?_
   refine zB fun _ hK17 => ?_
   refine rp0 hst9 hfr9 (.cons rfl (zA (off := 1) rfl underlying85 rfl rfl sizeOf83 rfl) <| .cons rfl (zM (j := 5) rfl rfl isAgg83 rfl) <| .cons rfl (zo rfl underlying83) <| .cons rfl (zC rfl) <| .nil) fun a10 w10 m10 hst10 hle10 hk10 => ?_
   have hfr10 := hk10.fr (.o 27 <| .o 28 <| .o 0 <| .o 1 <| .o 2 <| .o 3 <| .o 4 <| .o 8 <| .o 21 <| .o 22 <| .o 24 <| .o 9 <| .o 26 <| .o 11 <| .n 30 <| .n 31 <| .n 32 <| .nil)
   clear hst9 hfr9 hk10
   refine hK17 _ _ ?_
   refine zY ?_
   refine ZC (T := [(27, _), (28, _), (0, _), (1, _), (2, _), (3, _), (4, _), (8, _), (21, _), (22, _), (24, _), (9, _), (26, _), (11, _), (30, _), (31, _)]) (fun (y : Nat × List (Str × Str)) => ([(32, .int .i64 (y.1 : Int))] : List (Nat × Value))) (fun y => [_, .map (.map (some gm9)) (zAH S (zEI S y.2)), MB g24 (zBf input ([] : List (Str × Str))) (iniY oi9 ci9 gm9), _, _, _]) (fun (y : Nat × List (Str × Str)) m => (fun (y : Nat) (cu : List (Str × Str)) => (y ≤ e9.ops.length) ∧ (zBP e9.name e9.ops cur = zBP e9.name (e9.ops.drop y) cu)) y.1 y.2) (fun y => e9.ops.length - y.1) ((0, cur)) ⟨hst10, MLe.refl _, hfr10.sub (.c <| .c <| .c <| .c <| .c <| .c <| .c <| .c <| .c <| .c <| .c <| .c <| .c <| .c <| .c <| .c <| .c <| .nil), ⟨Nat.zero_le _, rfl⟩⟩ fun y a11 w11 m11 hh11 => ?_
   have hst11 := hh11.st; have hle11 := hh11.le; have hfr11 := hh11.fr; have hrel := hh11.rel; clear hh11
   clear hst10 hfr10
   obtain ⟨y, cu⟩ := y
   dsimp only at hrel hfr11 hst11
   obtain ⟨hyn, hcu9⟩ := hrel
   have hlh11 := hle11
   refine zB fun _ hK19 => ?_
   refine rp0 hst11 hfr11 (.cons rfl (ZJ rfl rfl) <| .nil) fun a12 w12 m12 hst12 hle12 hk12 => ?_
   have hfr12 := hk12.fr (.o 32 <| .o 27 <| .o 28 <| .o 0 <| .o 1 <| .o 2 <| .o 3 <| .o 4 <| .o 8 <| .o 21 <| .o 22 <| .o 24 <| .o 9 <| .o 26 <| .o 11 <| .o 30 <| .o 31 <| .n 33 <| .nil)
   clear hst11 hfr11 hk12
   refine hK19 _ _ ?_
   refine zB fun _ hK20 => ?_
   refine zE hfr12 rfl rfl (fun hb33 => ?_) (fun hb33 => ?_)
   ·try simp only [nqs] at hb33
    refine zR ?_
    refine hK20 _ _ ?_
    refine zB fun _ hK21 => ?_
    refine zY ?_
    refine zB fun _ hK22 => ?_
    have zq3 := hle11.trans hle12
    have zq4 := hle10.trans zq3
    have zq5 := hle8.trans zq4
    replace hop_e9 := hop_e9.mono zq5
    obtain ⟨p23, vs23, x23, ho23, hd23, hm_x23, ht23, hcv23, hl23, hv23⟩ := hop_e9.nth (k := y) (by omega)
    cases ho23
    obtain ⟨q1_23, q2_23, q3_23, q4_23, q5_23, q6_23, q7_23, q8_23, q9_23, q10_23, q11_23, q12_23, rfl, hon23⟩ := hv23.open_
    replace hst12 := hst12.more (r := .free) trivial List.nodup_nil (by simp [Res.blocks])
    refine ra0 (tch := [(2, 6, (fun v => .blk v _)), (3, 6, (fun v => .blk v _))]) hst12 hfr12 (.cons rfl (zI (k := y) rfl rfl underlying83 sizeOf92 rfl (by omega)) <| .cons rfl (zc rfl hcv23 isAgg92 sizeOf92 rfl rfl) <| .consT rfl rfl (fun _ => rfl) rfl (zQ zeroValue92 rfl) <| .consT rfl rfl (fun _ => rfl) rfl (zd 13 rfl rfl rfl fun y13 => zX rfl rfl rfl rfl rfl sizeOf92 rfl rfl hon23) <| .nil) fun a13 w13 m13 hst13 hle13 hk13 => ?_
    have hfr13 := hk13.fr (.o 32 <| .o 27 <| .o 28 <| .o 0 <| .o 1 <| .o 2 <| .o 3 <| .o 4 <| .o 8 <| .o 21 <| .o 22 <| .o 24 <| .o 9 <| .o 26 <| .o 11 <| .o 30 <| .o 31 <| .nil)
    obtain ⟨g13, e24, _⟩ := hk13.ex 13 rfl
    replace hfr13 := hfr13.cons e24
    replace hst13 := hst13.fin (L' := [_, _, _, _, _, _, _]) (.cons e24 <| .cons e24 <| .nil)
    try simp only [List.take_succ_cons, List.take_zero, List.drop_succ_cons, List.drop_zero, List.cons_append, List.nil_append, List.append_nil, List.length_cons, List.length_nil, Nat.zero_add, Nat.reduceAdd] at hst13
    clear hst12 hfr12 hk13
    refine hK22 _ _ ?_
    refine zb (tch := [(8, 1, (fun _ => .map _ _))]) (fun _ => z1) hst13 hfr13 (by kernel_rfl) (by kernel_rfl) (by kernel_rfl) (.cons rfl (ZG (j := 3) rfl rfl isAgg64 rfl) <| .cons rfl (zK rfl) <| .cons rfl (zA (off := 20) rfl underlying79 rfl rfl sizeOf66 rfl) <| .cons rfl (zM (j := 2) rfl rfl isAgg66 rfl) <| .cons rfl (zA (off := 0) rfl underlying92 rfl rfl sizeOf9 rfl) <| .cons rfl (zM (j := 6) rfl rfl isAgg9 rfl) <| .cons rfl (zA (off := 0) rfl underlying85 rfl rfl sizeOf9 rfl) <| .cons rfl (zM (j := 5) rfl rfl isAgg9 rfl) <| .consT rfl rfl (fun _ => rfl) rfl (ob_mapUpdate Z9 rfl rfl rfl underlying66 underlying9) <| .nil) fun a14 w14 m14 hst14 hle14 hk14 => ?_
    have hfr14 := hk14.fr (.o 32 <| .o 27 <| .o 28 <| .o 0 <| .o 1 <| .o 2 <| .o 3 <| .o 4 <| .o 8 <| .o 21 <| .o 22 <| .o 24 <| .o 9 <| .o 26 <| .o 11 <| .o 30 <| .o 31 <| .o 13 <| .nil)
    replace hst14 := hst14.fin (L' := [_, _, _, _, _, _, _]) (.cons rfl <| .nil)
    clear hst13 hfr13 hk14
    rw [encW_set] at hst14
    refine hK21 _ _ ?_
    refine rp0 hst14 hfr14 (.cons rfl (Za rfl rfl ⟨by omega, by omega⟩) <| .cons rfl (zC rfl) <| .nil) fun a15 w15 m15 hst15 hle15 hk15 => ?_
    have hfr15 := hk15.fr (.o 27 <| .o 28 <| .o 0 <| .o 1 <| .o 2 <| .o 3 <| .o 4 <| .o 8 <| .o 21 <| .o 22 <| .o 24 <| .o 9 <| .o 26 <| .o 11 <| .o 30 <| .o 31 <| .o 13 <| .n 32 <| .nil)
    clear hst14 hfr14 hk15
    have hst15 := hst15.take 6
    have zq6 := hle14.trans hle15
    have zq7 := hle13.trans zq6
    have zq8 := hle12.trans zq7
    have hlh15 := hlh11.trans zq8
    exact ⟨(y + 1, (zAy x23 e9.name cu)), m15, by show e9.ops.length - (y + 1) < e9.ops.length - y; omega, ⟨hst15, hlh15, hfr15.sub (.c <| .c <| .c <| .c <| .c <| .c <| .c <| .c <| .c <| .c <| .c <| .c <| .c <| .c <| .c <| .c <| .c <| .nil), ⟨by show y + 1 ≤ e9.ops.length; omega, by rw [hcu9, hd23, zBP]⟩⟩⟩
   ·try simp only [nqs] at hb33
    have hge : y = e9.ops.length := by omega
    rw [List.drop_of_length_le (by omega), zBP] at hcu9
    rw [← hcu9] at hst12
    refine z9 ?_
    repeat (with_reducible first | refine ZL ?_ | refine ZB ?_ | refine zv ?_)
    exact RoundQ.next ((zBP e9.name e9.ops cur), du) (n0 := 4) (k := 4) hst12 rfl rfl rfl (⟨eff_step hj9 hi hat9, trivial⟩)
  ·obtain ⟨cur, du⟩ := y
   dsimp only at hrel
   obtain ⟨hj9, _⟩ := hrel
   clear hst6 hfr6
   replace hst7 : St _ _ _ [_, _, _, _, ZV l rc, zBc D] w7 m7 := hst7
   rw [Nat.sub_self, List.take_zero] at hj9
   have hj8 : cur = zCK es := hj9.symm
   subst hj8
   refine hK13 _ _ ?_
   refine zB fun _ hK25 => ?_
   obtain ⟨m8, hle8, hst8, gF_ef, eF_ef, hm_ef⟩ := hst7.freezeMap (k := 1) rfl
   simp only [List.set_cons_succ, List.set_cons_zero] at hst8
   injection eF_ef with eF_ef; injection eF_ef with eF_ef; subst eF_ef
   have hfr8 := hfr7; obtain ⟨a8, rfl⟩ : ∃ a, a = a7 := ⟨_, rfl⟩; obtain ⟨w8, rfl⟩ : ∃ w, w = w7 := ⟨_, rfl⟩
   clear hst7 hfr7
   replace hst8 : St _ _ _ [_, .free, MB g24 (zBf input (zCK es)) (iniY oi9 ci9 gm9), _, _, _] _ _ := hst8
   replace hst8 := hst8.fill (k := 1) (r := .rowx (nz (.slice none 0 0)) 0 1 3 (MP.reads (fun _ vs (x : Int) => vs = [Value.int .i64 x]) 1 [])) rfl rowx_new rfl
   simp only [List.set_cons_succ, List.set_cons_zero] at hst8
   replace hst8 := hst8.perm perm3
   have zq9 := hle7.trans hle8
   have zq10 := hle6.trans zq9
   have zq11 := zq1.trans zq10
   replace hii9 := hii9.mono zq11
   have hS0 : McR m8 (zBf input (zCK es)) (iniY oi9 ci9 gm9) := ini_R hii9 hin0 hm_ef
   have zq12 := zq2.trans zq10
   replace h_c := h_c.mono zq12
   replace hkk_c := hkk_c.mono zq12
   replace haa_c := haa_c.mono zq12
   replace h_input := h_input.mono zq12
   replace hc4 := hc4.mono zq12
   replace hM := hM.trans zq12
   replace h_es := h_es.mono zq10
   replace hq9 := hq9.mono zq9
   replace hlq9 := hlq9.mono zq9
   refine ra0 (tch := [(2, 0, (fun _ => MK g24 ((zBf input (zCK es)).goes c .nil) (iniY oi9 ci9 gm9)))]) hst8 hfr8 (.cons rfl (ZG (j := 3) rfl rfl isAgg64 rfl) <| .cons rfl (zc rfl hc4 isAgg25 sizeOf25 rfl rfl) <| .consT rfl rfl (fun _ => rfl) rfl (zk rfl (.cons rfl <| .cons rfl <| .cons rfl <| .nil) call31 (κ := .eq (.bool true)) (fun σ w m hK hr hkn => by have hle_ := KC.le hK; have hA := KC.agree hK; have hM := hM.trans hle_; have h_c := h_c.mono hle_; have hkk_c := hkk_c.mono hle_; have haa_c := haa_c.mono hle_; have h_es := h_es.mono hle_; have h_input := h_input.mono hle_; have hc4 := hc4.mono hle_; have hii9 := hii9.mono hle_; have hq9 := hq9.mono hle_; have hlq9 := hlq9.mono hle_; have hm_ef := hm_ef.mono hle_; have hS0 := hS0.mono hle_; exact Z6 (s := (zBf input (zCK es))) (zAS (s := (zBf input (zCK es))) (y := (iniY oi9 ci9 gm9)) (e := .nil) (pe := none) hA hr hS0 h_c (by simp only [EnvR])))) <| .nil) fun a9 w9 m9 hst9 hle9 hk9 => ?_
   have hfr9 := hk9.fr (.o 0 <| .o 1 <| .o 2 <| .o 3 <| .o 4 <| .o 8 <| .o 21 <| .o 22 <| .o 24 <| .o 9 <| .o 26 <| .nil)
   replace hst9 := hst9.fin (L' := [_, _, _, _, _, _]) (.cons rfl <| .nil)
   clear hst8 hfr8 hk9
   obtain ⟨y0, hst9, hSz0, hKz0⟩ := zm (k := 0) hst9 rfl
   simp only [List.set_cons_zero] at hst9
   have hq0 : (.rowx (nz (.slice none 0 0)) 0 1 3 (MP.reads (fun _ vs (x : Int) => vs = [Value.int .i64 x]) 1 []) : Res) = Zn ((zBf input (zCK es)).goes c .nil) y0 := by simp only [Zn]; rw [hKz0.to, hKz0.tc]; rfl
   replace hst9 := st_re2 hst9 hq0
   refine hK25 _ _ ?_
   refine zB fun _ hK26 => ?_
   refine zY ?_
   refine ZC (T := [(0, _), (1, _), (2, _), (3, _), (4, _), (8, _), (21, _), (22, _), (24, _), (9, _), (26, _)]) (fun (y : (Mc) × (McY) × (Nat)) => ([] : List (Nat × Value))) (fun y => [MB g24 y.1 y.2.1, Zn y.1 y.2.1, _, _, _, _]) (fun (y : (Mc) × (McY) × (Nat)) m => (fun (sq : Mc) (yq : McY) (k : Nat) => (McR m sq yq) ∧ (ZZ k sq = some sF) ∧ (sq.steps + (k : Int) = (fuel : Int))) y.1 y.2.1 y.2.2) (fun y => y.2.2) ((((zBf input (zCK es)).goes c .nil), y0, fuel)) ⟨hst9, MLe.refl _, hfr9.sub (.c <| .c <| .c <| .c <| .c <| .c <| .c <| .c <| .c <| .c <| .c <| .nil), ⟨hSz0, hsF, by show (0 : Int) + (fuel : Int) = (fuel : Int); omega⟩⟩ fun y a10 w10 m10 hh10 => ?_
   have hst10 := hh10.st; have hle10 := hh10.le; have hfr10 := hh10.fr; have hrel := hh10.rel; clear hh10
   clear hst9 hfr9
   obtain ⟨sq, yq, k⟩ := y
   dsimp only at hrel hfr10 hst10
   obtain ⟨hSq, hrk, hsk⟩ := hrel
   have hsr1 := hSq.steps.1; have hsr2 := hSq.steps.2
   have hlh10 := hle10
   refine zB fun _ hK28 => ?_
   refine zB fun _ hK29 => ?_
   refine rp0 hst10 hfr10 (.cons rfl (ZG (j := 3) rfl rfl isAgg64 rfl) <| .cons rfl (zK rfl) <| .cons rfl (zA (off := 21) rfl underlying79 rfl rfl sizeOf35 rfl) <| .cons rfl (zA (off := 6) rfl underlying35 rfl rfl sizeOf3 rfl) <| .cons rfl (zM (k := 27) (j := 0) rfl rfl isAgg3 rfl) <| .cons rfl (zC rfl) <| .cons rfl (ZJ rfl rfl) <| .cons rfl (zC rfl) <| .cons rfl (ZG (j := 3) rfl rfl isAgg64 rfl) <| .cons rfl (za rfl (.cons rfl <| .nil) call32 (fun w m hK => by have hle_ := KC.le hK; have hA := KC.agree hK; exact ended_c (s := sq) (y := yq) hA (KC.at_ hK (k := 0) rfl))) <| .cons rfl (zu rfl) <| .cons rfl (zU rfl rfl rfl) <| .nil) fun a11 w11 m11 hst11 hle11 hk11 => ?_
   have hfr11 := hk11.fr (.o 0 <| .o 1 <| .o 2 <| .o 3 <| .o 4 <| .o 8 <| .o 21 <| .o 22 <| .o 24 <| .o 9 <| .o 26 <| .n 59 <| .nil)
   clear hst10 hfr10 hk11
   refine hK29 _ _ ?_
   refine zE hfr11 rfl rfl (fun hb59 => ?_) (fun hb59 => ?_)
   ·try simp only [nqs] at hb59
    obtain ⟨k9, rfl⟩ : ∃ k9, k = k9 + 1 := ⟨k - 1, by omega⟩
    have hwy9 := run_step hrk hb59.2
    refine zR ?_
    refine hK28 _ _ ?_
    refine zY ?_
    refine zB fun _ hK30 => ?_
    refine ra0 (tch := [(9, 0, (fun _ => .blk _ _))]) hst11 hfr11 (.cons rfl (ZG (j := 3) rfl rfl isAgg64 rfl) <| .cons rfl (zK rfl) <| .cons rfl (zA (off := 21) rfl underlying79 rfl rfl sizeOf35 rfl) <| .cons rfl (zA (off := 6) rfl underlying35 rfl rfl sizeOf3 rfl) <| .cons rfl (zM (k := 27) (j := 0) rfl rfl isAgg3 rfl) <| .cons rfl (Za rfl rfl ⟨by omega, by omega⟩) <| .cons rfl (zK rfl) <| .cons rfl (zA (off := 21) rfl underlying79 rfl rfl sizeOf35 rfl) <| .cons rfl (zA (off := 6) rfl underlying35 rfl rfl sizeOf3 rfl) <| .consT rfl rfl (fun _ => rfl) rfl (z0 (k := 27) rfl rfl rfl sizeOf3 rfl rfl rfl) <| .nil) fun a12 w12 m12 hst12 hle12 hk12 => ?_
    have hfr12 := hk12.fr (.o 0 <| .o 1 <| .o 2 <| .o 3 <| .o 4 <| .o 8 <| .o 21 <| .o 22 <| .o 24 <| .o 9 <| .o 26 <| .nil)
    replace hst12 := hst12.fin (L' := [_, _, _, _, _, _]) (.cons rfl <| .nil)
    try simp only [List.take_succ_cons, List.take_zero, List.drop_succ_cons, List.drop_zero, List.cons_append, List.nil_append, List.append_nil, List.length_cons, List.length_nil, Nat.zero_add, Nat.reduceAdd] at hst12
    clear hst11 hfr11 hk12
    have zq13 := hle11.trans hle12
    replace hSq := hSq.mono zq13
    have hS1 : McR m12 ({ sq with steps := sq.steps + 1 } : Mc) yq := ⟨hSq.c, hSq.e, hSq.v, hSq.ev, hSq.fr, hSq.inp, hSq.next, hSq.kind, hSq.eff, ⟨by show (-9223372036854775808 : Int) ≤ sq.steps + 1; omega, by show sq.steps + 1 ≤ (9223372036854775807 : Int); omega⟩, hSq.konts, hSq.tr⟩
    refine hK30 _ _ ?_
    refine zB fun _ hK31 => ?_
    refine rp0 hst12 hfr12 (.cons rfl (zD rfl) <| .nil) fun a13 w13 m13 hst13 hle13 hk13 => ?_
    have hfr13 := hk13.fr (.o 0 <| .o 1 <| .o 2 <| .o 3 <| .o 4 <| .o 8 <| .o 21 <| .o 22 <| .o 24 <| .o 9 <| .o 26 <| .n 14 <| .nil)
    clear hst12 hfr12 hk13
    refine hK31 _ _ ?_
    refine zB fun _ hK32 => ?_
    refine zB fun _ hK33 => ?_
    refine rp0 hst13 hfr13 (.cons rfl (ZG (j := 3) rfl rfl isAgg64 rfl) <| .cons rfl (zK rfl) <| .cons rfl (zA (off := 0) rfl underlying79 rfl rfl sizeOf77 rfl) <| .cons rfl (zA (off := 7) rfl underlying77 rfl rfl sizeOf4 rfl) <| .cons rfl (zM (k := 7) (j := 0) rfl rfl isAgg4 rfl) <| .nil) fun a14 w14 m14 hst14 hle14 hk14 => ?_
    have hfr14 := hk14.fr (.o 0 <| .o 1 <| .o 2 <| .o 3 <| .o 4 <| .o 8 <| .o 21 <| .o 22 <| .o 24 <| .o 9 <| .o 26 <| .o 14 <| .n 73 <| .nil)
    clear hst13 hfr13 hk14
    refine hK33 _ _ ?_
    refine zE hfr14 rfl rfl (fun hb73 => ?_) (fun hb73 => ?_)
    ·try simp only [nqs] at hb73
     obtain ⟨-, t9, b9, hl9, hr9, hts9⟩ := hwy9.resolve_right (fun h => by rw [h.1] at hb73; cases hb73)
     refine z2 2 (by kernel_rfl) ?_
     refine zBw 1 (by kernel_rfl) ?_
     refine zp (tch := []) hst14 hfr14 (by kernel_rfl) (by kernel_rfl) (by kernel_rfl) (.cons rfl (ZG (j := 3) rfl rfl isAgg64 rfl) <| .nil) fun a15 w15 m15 hst15 hle15 hk15 => ?_
     have hfr15 := hk15.fr (.o 0 <| .o 1 <| .o 2 <| .o 3 <| .o 4 <| .o 8 <| .o 21 <| .o 22 <| .o 24 <| .o 9 <| .o 26 <| .o 14 <| .n 74 <| .nil)
     clear hst14 hfr14 hk15
     have zq14 := hle14.trans hle15
     have zq15 := hle13.trans zq14
     replace hS1 := hS1.mono zq15
     refine zDo [] [_, _, _, _] [_, _] hst15 hfr15 rfl (.cons rfl <| .nil) call33 (looks_g (s := ({ sq with steps := sq.steps + 1 } : Mc)) (y := yq) hst15.agree (hst15.sub (A := []) (B := [_, _, _, _]) (rs := [_, _])) hS1 hl9) ?_
     intro vr16 w16 m16 rs16 hst16 hle16 hp16
     obtain ⟨y7, rfl, hS7, hvq9⟩ := hp16
     simp only [List.nil_append, List.cons_append] at hst16
     have hfr16 := (hfr15.sub (T' := [(0, _), (1, _), (2, _), (3, _), (4, _), (8, _), (21, _), (22, _), (24, _), (9, _), (26, _), (14, _), (74, _)]) (.cons rfl <| .cons rfl <| .cons rfl <| .cons rfl <| .cons rfl <| .cons rfl <| .cons rfl <| .cons rfl <| .cons rfl <| .cons rfl <| .cons rfl <| .cons rfl <| .cons rfl <| .nil)).put (d := 75) (v := vr16) (by kernel_rfl) rfl
     clear hst15 hfr15
     subst hvq9
     refine zp (tch := []) hst16 hfr16 (by kernel_rfl) (by kernel_rfl) (by kernel_rfl) (.cons rfl (zD rfl) <| .nil) fun a17 w17 m17 hst17 hle17 hk17 => ?_
     have hfr17 := hk17.fr (.o 75 <| .o 0 <| .o 1 <| .o 2 <| .o 3 <| .o 4 <| .o 8 <| .o 21 <| .o 22 <| .o 24 <| .o 9 <| .o 26 <| .o 74 <| .n 14 <| .nil)
     clear hst16 hfr16 hk17
     refine hK32 _ _ ?_
     refine zB fun _ hK34 => ?_
     refine rp0 hst17 hfr17 (.cons rfl (zC rfl) <| .cons rfl (zu rfl) <| .nil) fun a18 w18 m18 hst18 hle18 hk18 => ?_
     have hfr18 := hk18.fr (.o 75 <| .o 0 <| .o 1 <| .o 2 <| .o 3 <| .o 4 <| .o 8 <| .o 21 <| .o 22 <| .o 24 <| .o 9 <| .o 26 <| .o 74 <| .o 14 <| .n 79 <| .nil)
     clear hst17 hfr17 hk18
     refine hK34 _ _ ?_
     refine zE hfr18 rfl rfl (fun hb79 => ?_) (fun hb79 => ?_)
     ·try simp only [nqs] at hb79
      simp only [hb79, Bool.false_eq_true, if_false] at hr9
      have zq16 := hle17.trans hle18
      have zq17 := hle16.trans zq16
      have zq18 := zq15.trans zq17
      have zq19 := zq13.trans zq18
      have zq20 := hle10.trans zq19
      have zq21 := hle9.trans zq20
      replace h_c := h_c.mono zq21
      replace hkk_c := hkk_c.mono zq21
      replace haa_c := haa_c.mono zq21
      replace h_es := h_es.mono zq21
      replace h_input := h_input.mono zq21
      replace hc4 := hc4.mono zq21
      replace hii9 := hii9.mono zq21
      replace hq9 := hq9.mono zq21
      replace hlq9 := hlq9.mono zq21
      replace hm_ef := hm_ef.mono zq21
      replace hS0 := hS0.mono zq21
      replace hM := hM.trans zq21
      replace hSz0 := hSz0.mono zq20
      replace hSq := hSq.mono zq18
      replace hS1 := hS1.mono zq17
      replace hS7 := hS7.mono zq16
      refine ra0 (tch := [(1, 0, (fun _ => MK g24 (t9.ends 4) y7))]) hst18 hfr18 (.cons rfl (ZG (j := 3) rfl rfl isAgg64 rfl) <| .consT rfl rfl (fun _ => rfl) rfl (zk rfl (.cons rfl <| .cons rfl <| .nil) call35 (κ := .eq (.bool true)) (fun σ w m hK hr hkn => by have hle_ := KC.le hK; have hA := KC.agree hK; have hM := hM.trans hle_; have h_c := h_c.mono hle_; have hkk_c := hkk_c.mono hle_; have haa_c := haa_c.mono hle_; have h_es := h_es.mono hle_; have h_input := h_input.mono hle_; have hc4 := hc4.mono hle_; have hii9 := hii9.mono hle_; have hq9 := hq9.mono hle_; have hlq9 := hlq9.mono hle_; have hm_ef := hm_ef.mono hle_; have hS0 := hS0.mono hle_; have hSz0 := hSz0.mono hle_; have hSq := hSq.mono hle_; have hS1 := hS1.mono hle_; have hS7 := hS7.mono hle_; exact Z6 (s := t9) (zDG (s := t9) (y := y7) hA hr hS7 ⟨by decide, by decide⟩))) <| .nil) fun a19 w19 m19 hst19 hle19 hk19 => ?_
      have hfr19 := hk19.fr (.o 75 <| .o 0 <| .o 1 <| .o 2 <| .o 3 <| .o 4 <| .o 8 <| .o 21 <| .o 22 <| .o 24 <| .o 9 <| .o 26 <| .o 74 <| .o 14 <| .nil)
      replace hst19 := hst19.fin (L' := [_, _, _, _, _, _]) (.cons rfl <| .nil)
      clear hst18 hfr18 hk19
      obtain ⟨y6, hst19, hSz6, hKz6⟩ := zm (k := 0) hst19 rfl
      simp only [List.set_cons_zero] at hst19
      have hq6 : Zn t9 y7 = Zn (t9.ends 4) y6 := by simp only [Zn]; rw [hKz6.to, hKz6.tc]; rfl
      replace hst19 := st_re2 hst19 hq6
      have zq22 := zq19.trans hle19
      have hlh19 := hlh10.trans zq22
      exact ⟨((t9.ends 4), y6, k9), m19, Nat.lt_succ_self _, ⟨hst19, hlh19, hfr19.sub (.c <| .c <| .c <| .c <| .c <| .c <| .c <| .c <| .c <| .c <| .c <| .nil), ⟨hSz6, hr9, by show t9.steps + (k9 : Int) = (fuel : Int); omega⟩⟩⟩
     ·try simp only [nqs] at hb79
      simp only [hb79, if_true] at hr9
      refine zR ?_
      have zq23 := hle17.trans hle18
      replace hS7 := hS7.mono zq23
      have zq24 := hle16.trans zq23
      have zq25 := zq15.trans zq24
      have zq26 := zq13.trans zq25
      have hlh18 := hlh10.trans zq26
      exact ⟨(t9, y7, k9), m18, Nat.lt_succ_self _, ⟨hst18, hlh18, hfr18.sub (.c <| .c <| .c <| .c <| .c <| .c <| .c <| .c <| .c <| .c <| .c <| .nil), ⟨hS7, hr9, by show t9.steps + (k9 : Int) = (fuel : Int); omega⟩⟩⟩
    ·try simp only [nqs] at hb73
     obtain ⟨-, t9, hg9, hr9, hts9⟩ := hwy9.resolve_left (fun h => by rw [h.1] at hb73; cases hb73)
     refine z2 2 (by kernel_rfl) ?_
     refine zBw 1 (by kernel_rfl) ?_
     refine zp (tch := []) hst14 hfr14 (by kernel_rfl) (by kernel_rfl) (by kernel_rfl) (.cons rfl (ZG (j := 3) rfl rfl isAgg64 rfl) <| .nil) fun a15 w15 m15 hst15 hle15 hk15 => ?_
     have hfr15 := hk15.fr (.o 0 <| .o 1 <| .o 2 <| .o 3 <| .o 4 <| .o 8 <| .o 21 <| .o 22 <| .o 24 <| .o 9 <| .o 26 <| .o 14 <| .n 76 <| .nil)
     clear hst14 hfr14 hk15
     have zq27 := hle14.trans hle15
     have zq28 := hle13.trans zq27
     replace hS1 := hS1.mono zq28
     refine zDo [] [_, _, _, _, _] [_] hst15 hfr15 rfl (.cons rfl <| .nil) call34 (mc_R (s := ({ sq with steps := sq.steps + 1 } : Mc)) (y := yq) (gets_g (s := ({ sq with steps := sq.steps + 1 } : Mc)) (y := yq) hst15.agree (hst15.loc.at_ (k := 0) rfl) hS1 hg9)) ?_
     intro vr16 w16 m16 rs16 hst16 hle16 hp16
     obtain ⟨y7, rfl, hS7, hK7, hvq9⟩ := hp16
     simp only [List.nil_append, List.cons_append] at hst16
     have hfr16 := (hfr15.sub (T' := [(0, _), (1, _), (2, _), (3, _), (4, _), (8, _), (21, _), (22, _), (24, _), (9, _), (26, _), (14, _), (76, _)]) (.cons rfl <| .cons rfl <| .cons rfl <| .cons rfl <| .cons rfl <| .cons rfl <| .cons rfl <| .cons rfl <| .cons rfl <| .cons rfl <| .cons rfl <| .cons rfl <| .cons rfl <| .nil)).put (d := 77) (v := vr16) (by kernel_rfl) rfl
     clear hst15 hfr15
     subst hvq9
     have htr9 := gets_tr hg9
     have hq7 : Zn sq yq = Zn t9 y7 := by simp only [Zn]; rw [hK7.to, hK7.tc, htr9]
     replace hst16 := st_re2 hst16 hq7
     refine id ?_
     ·skip
      refine zp (tch := []) hst16 hfr16 (by kernel_rfl) (by kernel_rfl) (by kernel_rfl) (.cons rfl (zD rfl) <| .nil) fun a17 w17 m17 hst17 hle17 hk17 => ?_
      have hfr17 := hk17.fr (.o 77 <| .o 0 <| .o 1 <| .o 2 <| .o 3 <| .o 4 <| .o 8 <| .o 21 <| .o 22 <| .o 24 <| .o 9 <| .o 26 <| .o 76 <| .n 14 <| .nil)
      clear hst16 hfr16 hk17
      refine hK32 _ _ ?_
      refine zB fun _ hK35 => ?_
      refine rp0 hst17 hfr17 (.cons rfl (zC rfl) <| .cons rfl (zu rfl) <| .nil) fun a18 w18 m18 hst18 hle18 hk18 => ?_
      have hfr18 := hk18.fr (.o 77 <| .o 0 <| .o 1 <| .o 2 <| .o 3 <| .o 4 <| .o 8 <| .o 21 <| .o 22 <| .o 24 <| .o 9 <| .o 26 <| .o 76 <| .o 14 <| .n 79 <| .nil)
      clear hst17 hfr17 hk18
      refine hK35 _ _ ?_
      refine zE hfr18 rfl rfl (fun hb79 => ?_) (fun hb79 => ?_)
      ·simp at hb79
      ·try simp only [nqs] at hb79
       refine zR ?_
       have zq29 := hle17.trans hle18
       replace hS7 := hS7.mono zq29
       have zq30 := hle16.trans zq29
       have zq31 := zq28.trans zq30
       have zq32 := zq13.trans zq31
       have hlh18 := hlh10.trans zq32
       exact ⟨(t9, y7, k9), m18, Nat.lt_succ_self _, ⟨hst18, hlh18, hfr18.sub (.c <| .c <| .c <| .c <| .c <| .c <| .c <| .c <| .c <| .c <| .c <| .nil), ⟨hS7, hr9, by show t9.steps + (k9 : Int) = (fuel : Int); omega⟩⟩⟩
   ·try simp only [nqs] at hb59
    have hsf9 : sF = sq := run_end hrk (hb59.elim (fun h => .inl (by omega)) (fun h => .inr h))
    rw [hsf9] at heF
    refine z9 ?_
    refine hK26 _ _ ?_
    refine zB fun _ hK36 => ?_
    refine zB fun _ hK37 => ?_
    refine rp0 hst11 hfr11 (.cons rfl (ZG (j := 3) rfl rfl isAgg64 rfl) <| .cons rfl (zK rfl) <| .cons rfl (zA (off := 21) rfl underlying79 rfl rfl sizeOf35 rfl) <| .cons rfl (zA (off := 0) rfl underlying35 rfl rfl sizeOf33 rfl) <| .cons rfl (zA (off := 0) rfl underlying33 rfl rfl sizeOf3 rfl) <| .cons rfl (zM (k := 21) (j := 0) rfl rfl isAgg3 rfl) <| .cons rfl (zS rfl rfl) <| .cons rfl (zC rfl) <| .cons rfl (ZG (j := 3) rfl rfl isAgg64 rfl) <| .cons rfl (za rfl (.cons rfl <| .nil) call32 (fun w m hK => by have hle_ := KC.le hK; have hA := KC.agree hK; exact ended_c (s := sq) (y := yq) hA (KC.at_ hK (k := 0) rfl))) <| .cons rfl (zU rfl rfl rfl) <| .nil) fun a12 w12 m12 hst12 hle12 hk12 => ?_
    have hfr12 := hk12.fr (.o 0 <| .o 1 <| .o 2 <| .o 3 <| .o 4 <| .o 8 <| .o 21 <| .o 22 <| .o 24 <| .o 9 <| .o 26 <| .n 92 <| .nil)
    clear hst11 hfr11 hk12
    refine hK37 _ _ ?_
    refine zE hfr12 rfl rfl (fun hb92 => ?_) (fun hb92 => ?_)
    ·try simp only [nqs] at hb92
     obtain ⟨hk0, hr0⟩ := end_yes heF hb92.1 hb92.2
     have zq33 := hle11.trans hle12
     replace hSq := hSq.mono zq33
     refine zb (tch := [(11, 0, (fun _ => .blk _ _))]) (fun _ => z1) hst12 hfr12 (by kernel_rfl) (by kernel_rfl) (by kernel_rfl) (.cons rfl (ZG (j := 3) rfl rfl isAgg64 rfl) <| .cons rfl (ZG (j := 3) rfl rfl isAgg64 rfl) <| .cons rfl (zK rfl) <| .cons rfl (zA (off := 0) rfl underlying79 rfl rfl sizeOf77 rfl) <| .cons rfl (zA (off := 8) rfl underlying77 rfl rfl sizeOf72 rfl) <| .cons rfl (zx (k := 8) (j := 0) rfl rfl isAgg72 sizeOf72 rfl rfl) <| .cons rfl (za rfl (.cons rfl <| .nil) call36 (fun w m hK => by have hle_ := KC.le hK; have hA := KC.agree hK; have hSq := hSq.mono hle_; exact shown0_c (v := sq.v) hA hSq.v hk0)) <| .cons rfl (zP (.cons rfl <| .cons rfl <| .nil) underlying33 zeroValue33 (.cons sizeOf3 <| .cons sizeOf31 <| .nil) rfl) <| .cons rfl (zK rfl) <| .cons rfl (zA (off := 21) rfl underlying79 rfl rfl sizeOf35 rfl) <| .cons rfl (zA (off := 0) rfl underlying35 rfl rfl sizeOf33 rfl) <| .consT rfl rfl (fun _ => rfl) rfl (z0 (k := 21) rfl rfl rfl sizeOf33 rfl rfl rfl) <| .nil) fun a13 w13 m13 hst13 hle13 hk13 => ?_
     have hfr13 := hk13.fr (.o 0 <| .o 1 <| .o 2 <| .o 3 <| .o 4 <| .o 8 <| .o 21 <| .o 22 <| .o 24 <| .o 9 <| .o 26 <| .nil)
     replace hst13 := hst13.fin (L' := [_, _, _, _, _, _]) (.cons rfl <| .nil)
     try simp only [List.take_succ_cons, List.take_zero, List.drop_succ_cons, List.drop_zero, List.cons_append, List.nil_append, List.append_nil, List.length_cons, List.length_nil, Nat.zero_add, Nat.reduceAdd] at hst13
     clear hst12 hfr12 hk13
     refine hK36 _ _ ?_
     refine zB fun _ hK38 => ?_
     refine ra0 (tch := [(4, 2, (fun _ => .blk _ _))]) hst13 hfr13 (.cons rfl (ZG (j := 3) rfl rfl isAgg64 rfl) <| .cons rfl (zK rfl) <| .cons rfl (zA (off := 21) rfl underlying79 rfl rfl sizeOf35 rfl) <| .cons rfl (zx (j := 0) rfl rfl isAgg35 sizeOf35 rfl rfl) <| .consT rfl rfl (fun _ => rfl) rfl (zW rfl rfl rfl sizeOf35 rfl rfl rfl) <| .nil) fun a14 w14 m14 hst14 hle14 hk14 => ?_
     have hfr14 := hk14.fr (.o 0 <| .o 1 <| .o 2 <| .o 3 <| .o 4 <| .o 8 <| .o 21 <| .o 22 <| .o 24 <| .o 9 <| .o 26 <| .nil)
     replace hst14 := hst14.fin (L' := [_, _, _, _, _, _]) (.cons rfl <| .nil)
     try simp only [List.take_succ_cons, List.take_zero, List.drop_succ_cons, List.drop_zero, List.cons_append, List.nil_append, List.append_nil, List.length_cons, List.length_nil, Nat.zero_add, Nat.reduceAdd] at hst14
     clear hst13 hfr13 hk14
     refine hK38 _ _ ?_
     refine zN ?_
     repeat (with_reducible first | refine zH ?_ | refine zG ?_)
     have zq34 := hle13.trans hle14
     replace hSq := hSq.mono zq34
     exact zBv hst14 (k := 5) rfl hfr14 rfl (fun w hstE => .cell rfl (zh (zf (hstE.loc.at_ (k := 2) rfl)) isAgg35 sizeOf35) <| .nil) (fun w => by rw [hr0]; exact ⟨(yq.to, yq.tc), rfl, hSq.tr⟩)
    ·try simp only [nqs] at hb92
     have hr0 := end_no heF (fun h => hb92.elim (fun h1 => h1 h.1) (fun h1 => by rw [h.2] at h1; cases h1))
     refine zR ?_
     refine hK36 _ _ ?_
     refine zB fun _ hK40 => ?_
     refine ra0 (tch := [(4, 2, (fun _ => .blk _ _))]) hst12 hfr12 (.cons rfl (ZG (j := 3) rfl rfl isAgg64 rfl) <| .cons rfl (zK rfl) <| .cons rfl (zA (off := 21) rfl underlying79 rfl rfl sizeOf35 rfl) <| .cons rfl (zx (j := 0) rfl rfl isAgg35 sizeOf35 rfl rfl) <| .consT rfl rfl (fun _ => rfl) rfl (zW rfl rfl rfl sizeOf35 rfl rfl rfl) <| .nil) fun a13 w13 m13 hst13 hle13 hk13 => ?_
     have hfr13 := hk13.fr (.o 0 <| .o 1 <| .o 2 <| .o 3 <| .o 4 <| .o 8 <| .o 21 <| .o 22 <| .o 24 <| .o 9 <| .o 26 <| .nil)
     replace hst13 := hst13.fin (L' := [_, _, _, _, _, _]) (.cons rfl <| .nil)
     try simp only [List.take_succ_cons, List.take_zero, List.drop_succ_cons, List.drop_zero, List.cons_append, List.nil_append, List.append_nil, List.length_cons, List.length_nil, Nat.zero_add, Nat.reduceAdd] at hst13
     clear hst12 hfr12 hk13
     refine hK40 _ _ ?_
     refine zN ?_
     repeat (with_reducible first | refine zH ?_ | refine zG ?_)
     have zq35 := hle12.trans hle13
     have zq36 := hle11.trans zq35
     replace hSq := hSq.mono zq36
     exact zBv hst13 (k := 5) rfl hfr13 rfl (fun w hstE => .cell rfl (zh (zf (hstE.loc.at_ (k := 2) rfl)) isAgg35 sizeOf35) <| .nil) (fun w => by rw [hr0]; exact ⟨(yq.to, yq.tc), rfl, hSq.tr⟩)
  ·exact hrel.elim
end Go.Proofs.Ytnppknioifgdfaa
namespace Go.Proofs.Ytnppknioifgdfaa
open Go.Proofs.Try
set_option linter.all false
set_option maxRecDepth 4000
open Go.RowKit
abbrev noY : CdY := ⟨none, 0, none, 0⟩
def zAK (s : Str) : Cd := ⟨1, s, [], 0, [], []⟩
def zAi (n : Int) : Cd := ⟨2, [], [], n, [], []⟩
def unitC : Cd := ⟨4, [], [], 0, [], []⟩
def zAd (k : Int) (s p : Str) (l : List Cd) (az : List Ca) : Cd := ⟨k, s, p, 0, l, az⟩
theorem i0 : zq 0 := ⟨by decide, by decide⟩
theorem zDu {m : Mem} (s : Str) : CdR m (zAK s) (cdV (zAK s) noY) := CdR.build ⟨by show -9223372036854775808 ≤ (1 : Int); decide, by show (1 : Int) ≤ 9223372036854775807; decide⟩ i0 Sl.empty Sl.empty
theorem unit_R {m : Mem} : CdR m unitC (cdV unitC noY) := CdR.build ⟨by show -9223372036854775808 ≤ (4 : Int); decide, by show (4 : Int) ≤ 9223372036854775807; decide⟩ i0 Sl.empty Sl.empty
theorem int_R {m : Mem} {n : Int} (hn : zq n) : CdR m (zAi n) (cdV (zAi n) noY) := CdR.build ⟨by show -9223372036854775808 ≤ (2 : Int); decide, by show (2 : Int) ≤ 9223372036854775807; decide⟩ hn Sl.empty Sl.empty
theorem zero_R {m : Mem} : CdR m ⟨0, [], [], 0, [], []⟩ (cdV ⟨0, [], [], 0, [], []⟩ noY) := CdR.build i0 i0 Sl.empty Sl.empty
theorem node1_R {m : Mem} {k : Int} {s p : Str} {t : Cd} {g : Nat} {vs : List Value} (hk : zq k) (hc : CellsAt m ⟨g, 0, none⟩ vs) (h : CdR m t vs) : CdR m (zAd k s p [t] []) (cdV (zAd k s p [t] []) ⟨some ⟨g, 0, none⟩, 1, none, 0⟩) :=
 CdR.build hk i0 (Sl.one (R := fun m vs t => CdR m t vs) hc h.len h) Sl.empty
theorem zCe {m : Mem} {k : Int} {s p : Str} {t u : Cd} {g : Nat} {vs us : List Value} (hk : zq k) (hc : CellsAt m ⟨g, 0, none⟩ (vs ++ us)) (h : CdR m t vs) (h2 : CdR m u us) : CdR m (zAd k s p [t, u] []) (cdV (zAd k s p [t, u] []) ⟨some ⟨g, 0, none⟩, 2, none, 0⟩) :=
 CdR.build hk i0 (Sl.two (R := fun m vs t => CdR m t vs) hc h.len h2.len h h2) Sl.empty
theorem node1a_R {m : Mem} {k : Int} {s p : Str} {t : Cd} {az : List Ca} {g : Nat} {vs : List Value} {o : Option Addr} {c : Nat} (hk : zq k) (hc : CellsAt m ⟨g, 0, none⟩ vs) (h : CdR m t vs) (ha : Cas m o az.length c az) : CdR m (zAd k s p [t] az) (cdV (zAd k s p [t] az) ⟨some ⟨g, 0, none⟩, 1, o, c⟩) :=
 CdR.build hk i0 (Sl.one (R := fun m vs t => CdR m t vs) hc h.len h) ha
theorem zCk {m : Mem} {g : Nat} {l : List Str} (h : CellsAt m ⟨g, 0, none⟩ (l.map S)) (hb : l.length ≤ 1000000000) : Strs m (some ⟨g, 0, none⟩) l.length l.length l := Strs.of_row (.inr ⟨_, rfl, h⟩) rfl (Nat.le_refl _) (by omega)
theorem arm_R {m : Mem} {n : Str} {l : List Str} {tl : Bool} {t : Cd} {o : Option Addr} {c : Nat} {vs : List Value} (hl : Strs m o l.length c l) (h : CdR m t vs) : CaR m ⟨n, l, tl, t⟩ (S n :: .slice o l.length c :: .bool tl :: vs) := ⟨o, c, vs, rfl, hl, h⟩
theorem arms2_R {m : Mem} {a b : Ca} {g : Nat} {vs us : List Value} (hc : CellsAt m ⟨g, 0, none⟩ (vs ++ us)) (h : CaR m a vs) (h2 : CaR m b us) : Cas m (some ⟨g, 0, none⟩) 2 2 [a, b] := Sl.two (R := fun m vs t => CaR m t vs) hc h.len h2.len h h2
abbrev caV (a : Ca) (y : Option Addr × Nat × CdY) : List Value := S a.name :: .slice y.1 a.vars.length y.2.1 :: .bool a.tail :: cdV a.body y.2.2
def MP.ca (a : Ca) : MP := MP.mem (fun y : Option Addr × Nat × CdY => .agg (caV a y).toArray) (fun y m => CaR m a (caV a y)) fun hm h => h.mono hm
abbrev Zf : Str := [103, 101, 116]
abbrev putS : Str := [112, 117, 116]
abbrev retS : Str := [114, 101, 116, 117, 114, 110]
abbrev addC (a b : Cd) : Cd := zAd 11 [43] [] [a, b] []
abbrev askC (s : Str) (t : Cd) : Cd := zAd 14 s [] [t] []
abbrev z5 (s : Str) (a b : Cd) : Cd := zAd 8 s [] [a, b] []
abbrev opC (s : Str) (l : List Cd) : Cd := zAd 11 s [] l []
abbrev appC (a b : Cd) : Cd := zAd 6 [] [] [a, b] []
abbrev zAX : Ca := ⟨retS, [[120]], false, zAK [120]⟩
abbrev Z3 (t : Cd) (az : List Ca) : Cd := zAd 15 [69] [] [t] az
def efs : List Ef := [⟨[69], [Zf, putS]⟩, ⟨[70], [[120], Zf]⟩]
def MP.efs (l : List Ef) : MP := MP.mem (fun y : Option Addr × Nat => .slice y.1 l.length y.2) (fun y m => Efs m y.1 l.length y.2 l) fun hm h => h.mono hm
theorem op_R {m : Mem} (s : Str) : OpR m [S s, .int .i64 0, S [], .int .i64 0, .slice none 0 0, .slice none 0 0, .int .i64 0, .int .i64 0, S [], .int .i64 0, .slice none 0 0, .slice none 0 0, .int .i64 0] s := ⟨_, _, _, _, _, _, _, _, _, _, _, _, rfl, rfl⟩
-- What must be in any case.
abbrev ask1 : Cd := askC Zf (zAi 1)
abbrev shTail : Ca := ⟨Zf, [[120]], true, addC (zAK [120]) (zAi 1)⟩
abbrev shC : Cd := Z3 (z5 [97] ask1 (addC (zAK [97]) (zAi 1))) [zAX, shTail]
abbrev shR : Rn := ⟨1, 1, 3, [], [], 9, 0⟩
theorem run_sh1 : runR shC efs [] 100 = some shR := by rfl
theorem run_sh2 : runR ask1 efs [] 100 = some ⟨4, 0, 0, [], [], 1, 0⟩ := by rfl
theorem run_sh3 : runR ⟨0, [], [], 0, [], []⟩ [] [] 100 = some ⟨4, 0, 0, [], [], 0, 0⟩ := by rfl
set_option maxHeartbeats 400000 in
theorem zAP {w : World} {m : Mem} {s : Str} (hA : Agree w m)  : FnV Try.prog 18 #[S s] w m (fun _ _ v => v = .agg (cdV (zAK s) noY).toArray) := by
 refine zZ (vs := [_]) func18 rfl rfl rfl fun a0 hfr0 => ?_
 have hst0 := zV hA (zi [] _ w m)
 have hM : MLe m m := MLe.refl m
 refine zB fun _ hK1 => ?_
 replace hst0 := hst0.more (r := .free) trivial List.nodup_nil (by simp [Res.blocks])
 refine ra0 (tch := [(0, 0, (fun v => .blk v _))]) hst0 hfr0 (.consT rfl rfl (fun _ => rfl) rfl (zQ zeroValue25 rfl) <| .nil) fun a1 w1 m1 hst1 hle1 hk1 => ?_
 have hfr1 := hk1.fr (.o 0 <| .nil)
 obtain ⟨g2, e2, _⟩ := hk1.ex 2 rfl
 replace hfr1 := hfr1.cons e2
 replace hst1 := hst1.fin (L' := [_]) (.cons e2 <| .nil)
 clear hst0 hfr0 hk1
 refine hK1 _ _ ?_
 refine zB fun _ hK3 => ?_
 refine ra0 (tch := [(2, 0, (fun _ => .blk _ _))]) hst1 hfr1 (.cons rfl (zC rfl) <| .cons rfl (zP (.cons rfl <| .cons rfl <| .nil) underlying25 zeroValue25 (.cons sizeOf3 <| .cons sizeOf9 <| .cons sizeOf9 <| .cons sizeOf3 <| .cons sizeOf22 <| .cons sizeOf23 <| .nil) rfl) <| .consT rfl rfl (fun _ => rfl) rfl (zW rfl rfl rfl sizeOf25 rfl rfl rfl) <| .nil) fun a2 w2 m2 hst2 hle2 hk2 => ?_
 have hfr2 := hk2.fr (.o 2 <| .nil)
 replace hst2 := hst2.fin (L' := [_]) (.cons rfl <| .nil)
 try simp only [List.take_succ_cons, List.take_zero, List.drop_succ_cons, List.drop_zero, List.cons_append, List.nil_append, List.append_nil, List.length_cons, List.length_nil, Nat.zero_add, Nat.reduceAdd] at hst2
 clear hst1 hfr1 hk2
 refine hK3 _ _ ?_
 refine zN ?_
 repeat (with_reducible first | refine zH ?_ | refine zG ?_)
 exact zO hst2 hfr2 rfl (.cell rfl (zh (zf (hst2.loc.at_ (k := 0) rfl)) isAgg25 sizeOf25) <| .nil) (rfl)
set_option maxHeartbeats 400000 in
theorem zDr {w : World} {m : Mem} {n : Int} (hA : Agree w m)  : FnV Try.prog 19 #[.int .i64 n] w m (fun _ _ v => v = .agg (cdV (zAi n) noY).toArray) := by
 refine zZ (vs := [_]) func19 rfl rfl rfl fun a0 hfr0 => ?_
 have hst0 := zV hA (zi [] _ w m)
 have hM : MLe m m := MLe.refl m
 refine zB fun _ hK1 => ?_
 replace hst0 := hst0.more (r := .free) trivial List.nodup_nil (by simp [Res.blocks])
 refine ra0 (tch := [(0, 0, (fun v => .blk v _))]) hst0 hfr0 (.consT rfl rfl (fun _ => rfl) rfl (zQ zeroValue25 rfl) <| .nil) fun a1 w1 m1 hst1 hle1 hk1 => ?_
 have hfr1 := hk1.fr (.o 0 <| .nil)
 obtain ⟨g2, e2, _⟩ := hk1.ex 2 rfl
 replace hfr1 := hfr1.cons e2
 replace hst1 := hst1.fin (L' := [_]) (.cons e2 <| .nil)
 clear hst0 hfr0 hk1
 refine hK1 _ _ ?_
 refine zB fun _ hK3 => ?_
 refine ra0 (tch := [(2, 0, (fun _ => .blk _ _))]) hst1 hfr1 (.cons rfl (zC rfl) <| .cons rfl (zP (.cons rfl <| .cons rfl <| .nil) underlying25 zeroValue25 (.cons sizeOf3 <| .cons sizeOf9 <| .cons sizeOf9 <| .cons sizeOf3 <| .cons sizeOf22 <| .cons sizeOf23 <| .nil) rfl) <| .consT rfl rfl (fun _ => rfl) rfl (zW rfl rfl rfl sizeOf25 rfl rfl rfl) <| .nil) fun a2 w2 m2 hst2 hle2 hk2 => ?_
 have hfr2 := hk2.fr (.o 2 <| .nil)
 replace hst2 := hst2.fin (L' := [_]) (.cons rfl <| .nil)
 try simp only [List.take_succ_cons, List.take_zero, List.drop_succ_cons, List.drop_zero, List.cons_append, List.nil_append, List.append_nil, List.length_cons, List.length_nil, Nat.zero_add, Nat.reduceAdd] at hst2
 clear hst1 hfr1 hk2
 refine hK3 _ _ ?_
 refine zN ?_
 repeat (with_reducible first | refine zH ?_ | refine zG ?_)
 exact zO hst2 hfr2 rfl (.cell rfl (zh (zf (hst2.loc.at_ (k := 0) rfl)) isAgg25 sizeOf25) <| .nil) (rfl)
set_option maxHeartbeats 400000 in
theorem add_c {w : World} {m : Mem} {a : Cd} {vs_a : List Value} {b : Cd} {vs_b : List Value} (hA : Agree w m) (h_a : CdR m a vs_a) (h_b : CdR m b vs_b) : FnV Try.prog 20 #[.agg vs_a.toArray, .agg vs_b.toArray] w m (fun _ m v => (MP.cd (addC a b)).p m v) := by
 obtain ⟨⟨oK_a, cK_a, oA_a, cA_a⟩, rfl, ⟨hik_a, hin_a⟩, hkk_a, haa_a⟩ := h_a.open_
 dsimp only at hkk_a haa_a
 have hbg_a := hkk_a.big; have hcp_a := hkk_a.cap; have hbh_a := haa_a.big; have hcq_a := haa_a.cap
 obtain ⟨⟨oK_b, cK_b, oA_b, cA_b⟩, rfl, ⟨hik_b, hin_b⟩, hkk_b, haa_b⟩ := h_b.open_
 dsimp only at hkk_b haa_b
 have hbg_b := hkk_b.big; have hcp_b := hkk_b.cap; have hbh_b := haa_b.big; have hcq_b := haa_b.cap
 refine zZ (vs := [_, _]) func20 rfl rfl rfl fun a0 hfr0 => ?_
 have hst0 := zV hA (zi [] _ w m)
 have hM : MLe m m := MLe.refl m
 refine zB fun _ hK1 => ?_
 replace hst0 := hst0.more (r := .free) trivial List.nodup_nil (by simp [Res.blocks])
 refine ra0 (tch := [(2, 0, (fun v => .blk v _))]) hst0 hfr0 (.cons rfl (zt rfl rfl) <| .cons rfl (zt rfl rfl) <| .consT rfl rfl (fun _ => rfl) rfl (zQ zeroValue25 rfl) <| .nil) fun a1 w1 m1 hst1 hle1 hk1 => ?_
 have hfr1 := hk1.fr (.nil)
 obtain ⟨g2, e2, hc2⟩ := hk1.ex 2 rfl
 replace hfr1 := hfr1.cons e2
 obtain ⟨g3, e3, hc3⟩ := hk1.ex 3 rfl
 replace hfr1 := hfr1.cons e3
 obtain ⟨g4, e4, _⟩ := hk1.ex 4 rfl
 replace hfr1 := hfr1.cons e4
 replace hst1 := hst1.fin (L' := [_]) (.cons e4 <| .nil)
 replace h_a := h_a.mono hle1
 replace h_b := h_b.mono hle1
 clear hst0 hfr0 hk1
 refine hK1 _ _ ?_
 refine zB fun _ hK5 => ?_
 refine z2 3 (by kernel_rfl) ?_
 refine zp (tch := []) hst1 hfr1 (by kernel_rfl) (by kernel_rfl) (by kernel_rfl) (.cons rfl (zc rfl hc2 isAgg25 sizeOf25 rfl rfl) <| .cons rfl (zc rfl hc3 isAgg25 sizeOf25 rfl rfl) <| .cons rfl (z6 rfl rfl underlying22 sizeOf25 zeroValue25 rfl rfl rfl rfl rfl) <| .nil) fun a2 w2 m2 hst2 hle2 hk2 => ?_
 have hfr2 := hk2.fr (.o 2 <| .o 3 <| .o 4 <| .nil)
 obtain ⟨gK, e6, hK⟩ := hk2.ex 7 rfl
 replace hfr2 := hfr2.cons e6
 replace h_a := h_a.mono hle2
 replace h_b := h_b.mono hle2
 clear hst1 hfr1 hk2
 refine zp (tch := [(1, 0, (fun _ => .blk _ _))]) hst2 hfr2 (by kernel_rfl) (by kernel_rfl) (by kernel_rfl) (.cons rfl (zP (cs := cdV (addC a b) ⟨some ⟨gK, 0, none⟩, 2, none, 0⟩) (.cons rfl <| .cons rfl <| .cons rfl <| .nil) underlying25 zeroValue25 (.cons sizeOf3 <| .cons sizeOf9 <| .cons sizeOf9 <| .cons sizeOf3 <| .cons sizeOf22 <| .cons sizeOf23 <| .nil) (rfl)) <| .consT rfl rfl (fun _ => rfl) rfl (zW rfl rfl rfl sizeOf25 rfl rfl rfl) <| .nil) fun a3 w3 m3 hst3 hle3 hk3 => ?_
 have hfr3 := hk3.fr (.o 2 <| .o 3 <| .o 4 <| .o 7 <| .nil)
 replace hst3 := hst3.fin (L' := [_]) (.cons rfl <| .nil)
 try simp only [List.take_succ_cons, List.take_zero, List.drop_succ_cons, List.drop_zero, List.cons_append, List.nil_append, List.append_nil, List.length_cons, List.length_nil, Nat.zero_add, Nat.reduceAdd] at hst3
 replace h_a := h_a.mono hle3
 replace h_b := h_b.mono hle3
 replace hK := hK.mono hle3
 clear hst2 hfr2 hk3
 refine hK5 _ _ ?_
 refine zN ?_
 repeat (with_reducible first | refine zH ?_ | refine zG ?_)
 exact zO hst3 hfr3 rfl (.cell rfl (zh (zf (hst3.loc.at_ (k := 0) rfl)) isAgg25 sizeOf25) <| .nil) (⟨_, rfl, zCe ⟨by decide, by decide⟩ hK h_a h_b⟩)
set_option maxHeartbeats 400000 in
theorem bind_c {w : World} {m : Mem} {s : Str} {a : Cd} {vs_a : List Value} {b : Cd} {vs_b : List Value} (hA : Agree w m) (h_a : CdR m a vs_a) (h_b : CdR m b vs_b) : FnV Try.prog 24 #[S s, .agg vs_a.toArray, .agg vs_b.toArray] w m (fun _ m v => (MP.cd (z5 s a b)).p m v) := by
 obtain ⟨⟨oK_a, cK_a, oA_a, cA_a⟩, rfl, ⟨hik_a, hin_a⟩, hkk_a, haa_a⟩ := h_a.open_
 dsimp only at hkk_a haa_a
 have hbg_a := hkk_a.big; have hcp_a := hkk_a.cap; have hbh_a := haa_a.big; have hcq_a := haa_a.cap
 obtain ⟨⟨oK_b, cK_b, oA_b, cA_b⟩, rfl, ⟨hik_b, hin_b⟩, hkk_b, haa_b⟩ := h_b.open_
 dsimp only at hkk_b haa_b
 have hbg_b := hkk_b.big; have hcp_b := hkk_b.cap; have hbh_b := haa_b.big; have hcq_b := haa_b.cap
 refine zZ (vs := [_, _, _]) func24 rfl rfl rfl fun a0 hfr0 => ?_
 have hst0 := zV hA (zi [] _ w m)
 have hM : MLe m m := MLe.refl m
 refine zB fun _ hK1 => ?_
 replace hst0 := hst0.more (r := .free) trivial List.nodup_nil (by simp [Res.blocks])
 refine ra0 (tch := [(2, 0, (fun v => .blk v _))]) hst0 hfr0 (.cons rfl (zt rfl rfl) <| .cons rfl (zt rfl rfl) <| .consT rfl rfl (fun _ => rfl) rfl (zQ zeroValue25 rfl) <| .nil) fun a1 w1 m1 hst1 hle1 hk1 => ?_
 have hfr1 := hk1.fr (.o 0 <| .nil)
 obtain ⟨g2, e2, hc4⟩ := hk1.ex 4 rfl
 replace hfr1 := hfr1.cons e2
 obtain ⟨g3, e3, hc5⟩ := hk1.ex 5 rfl
 replace hfr1 := hfr1.cons e3
 obtain ⟨g6, e4, _⟩ := hk1.ex 6 rfl
 replace hfr1 := hfr1.cons e4
 replace hst1 := hst1.fin (L' := [_]) (.cons e4 <| .nil)
 replace h_a := h_a.mono hle1
 replace h_b := h_b.mono hle1
 clear hst0 hfr0 hk1
 refine hK1 _ _ ?_
 refine zB fun _ hK5 => ?_
 refine z2 4 (by kernel_rfl) ?_
 refine zp (tch := []) hst1 hfr1 (by kernel_rfl) (by kernel_rfl) (by kernel_rfl) (.cons rfl (zC rfl) <| .cons rfl (zc rfl hc4 isAgg25 sizeOf25 rfl rfl) <| .cons rfl (zc rfl hc5 isAgg25 sizeOf25 rfl rfl) <| .cons rfl (z6 rfl rfl underlying22 sizeOf25 zeroValue25 rfl rfl rfl rfl rfl) <| .nil) fun a2 w2 m2 hst2 hle2 hk2 => ?_
 have hfr2 := hk2.fr (.o 0 <| .o 4 <| .o 5 <| .o 6 <| .n 7 <| .nil)
 obtain ⟨gK, e6, hK⟩ := hk2.ex 10 rfl
 replace hfr2 := hfr2.cons e6
 replace h_a := h_a.mono hle2
 replace h_b := h_b.mono hle2
 clear hst1 hfr1 hk2
 refine zp (tch := [(1, 0, (fun _ => .blk _ _))]) hst2 hfr2 (by kernel_rfl) (by kernel_rfl) (by kernel_rfl) (.cons rfl (zP (cs := cdV (z5 s a b) ⟨some ⟨gK, 0, none⟩, 2, none, 0⟩) (.cons rfl <| .cons rfl <| .cons rfl <| .nil) underlying25 zeroValue25 (.cons sizeOf3 <| .cons sizeOf9 <| .cons sizeOf9 <| .cons sizeOf3 <| .cons sizeOf22 <| .cons sizeOf23 <| .nil) (rfl)) <| .consT rfl rfl (fun _ => rfl) rfl (zW rfl rfl rfl sizeOf25 rfl rfl rfl) <| .nil) fun a3 w3 m3 hst3 hle3 hk3 => ?_
 have hfr3 := hk3.fr (.o 0 <| .o 4 <| .o 5 <| .o 6 <| .o 7 <| .o 10 <| .nil)
 replace hst3 := hst3.fin (L' := [_]) (.cons rfl <| .nil)
 try simp only [List.take_succ_cons, List.take_zero, List.drop_succ_cons, List.drop_zero, List.cons_append, List.nil_append, List.append_nil, List.length_cons, List.length_nil, Nat.zero_add, Nat.reduceAdd] at hst3
 replace h_a := h_a.mono hle3
 replace h_b := h_b.mono hle3
 replace hK := hK.mono hle3
 clear hst2 hfr2 hk3
 refine hK5 _ _ ?_
 refine zN ?_
 repeat (with_reducible first | refine zH ?_ | refine zG ?_)
 exact zO hst3 hfr3 rfl (.cell rfl (zh (zf (hst3.loc.at_ (k := 0) rfl)) isAgg25 sizeOf25) <| .nil) (⟨_, rfl, zCe ⟨by decide, by decide⟩ hK h_a h_b⟩)
set_option maxHeartbeats 400000 in
theorem lop_c {w : World} {m : Mem} {s : Str} {o_l : Option Addr} {c_l : Nat} {l : List Cd} (hA : Agree w m) (h_l : Cds m o_l l.length c_l l) : FnV Try.prog 25 #[S s, .slice o_l l.length c_l] w m (fun _ _ v => v = .agg (cdV (opC s l) ⟨o_l, c_l, none, 0⟩).toArray) := by
 have hb_l := h_l.big; have hc_l := h_l.cap
 refine zZ (vs := [_, _]) func25 rfl rfl rfl fun a0 hfr0 => ?_
 have hst0 := zV hA (zi [] _ w m)
 have hM : MLe m m := MLe.refl m
 refine zB fun _ hK1 => ?_
 replace hst0 := hst0.more (r := .free) trivial List.nodup_nil (by simp [Res.blocks])
 refine ra0 (tch := [(0, 0, (fun v => .blk v _))]) hst0 hfr0 (.consT rfl rfl (fun _ => rfl) rfl (zQ zeroValue25 rfl) <| .nil) fun a1 w1 m1 hst1 hle1 hk1 => ?_
 have hfr1 := hk1.fr (.o 0 <| .o 1 <| .nil)
 obtain ⟨g4, e2, _⟩ := hk1.ex 4 rfl
 replace hfr1 := hfr1.cons e2
 replace hst1 := hst1.fin (L' := [_]) (.cons e2 <| .nil)
 clear hst0 hfr0 hk1
 refine hK1 _ _ ?_
 refine zB fun _ hK3 => ?_
 refine ra0 (tch := [(3, 0, (fun _ => .blk _ _))]) hst1 hfr1 (.cons rfl (zC rfl) <| .cons rfl (zC rfl) <| .cons rfl (zP (.cons rfl <| .cons rfl <| .cons rfl <| .nil) underlying25 zeroValue25 (.cons sizeOf3 <| .cons sizeOf9 <| .cons sizeOf9 <| .cons sizeOf3 <| .cons sizeOf22 <| .cons sizeOf23 <| .nil) rfl) <| .consT rfl rfl (fun _ => rfl) rfl (zW rfl rfl rfl sizeOf25 rfl rfl rfl) <| .nil) fun a2 w2 m2 hst2 hle2 hk2 => ?_
 have hfr2 := hk2.fr (.o 4 <| .nil)
 replace hst2 := hst2.fin (L' := [_]) (.cons rfl <| .nil)
 try simp only [List.take_succ_cons, List.take_zero, List.drop_succ_cons, List.drop_zero, List.cons_append, List.nil_append, List.append_nil, List.length_cons, List.length_nil, Nat.zero_add, Nat.reduceAdd] at hst2
 clear hst1 hfr1 hk2
 refine hK3 _ _ ?_
 refine zN ?_
 repeat (with_reducible first | refine zH ?_ | refine zG ?_)
 exact zO hst2 hfr2 rfl (.cell rfl (zh (zf (hst2.loc.at_ (k := 0) rfl)) isAgg25 sizeOf25) <| .nil) (rfl)
set_option maxHeartbeats 400000 in
theorem same_c {w : World} {m : Mem}  (hA : Agree w m)  : FnV Try.prog 21 #[] w m (fun _ m v => (MP.ca zAX).p m v) := by
 refine zZ (vs := []) func21 rfl rfl rfl fun a0 hfr0 => ?_
 have hst0 := zV hA (zi [] _ w m)
 have hM : MLe m m := MLe.refl m
 refine zB fun _ hK1 => ?_
 replace hst0 := hst0.more (r := .free) trivial List.nodup_nil (by simp [Res.blocks])
 refine ra0 (tch := [(0, 0, (fun v => .blk v _))]) hst0 hfr0 (.consT rfl rfl (fun _ => rfl) rfl (zQ zeroValue47 rfl) <| .nil) fun a1 w1 m1 hst1 hle1 hk1 => ?_
 have hfr1 := hk1.fr (.nil)
 obtain ⟨g0, e2, _⟩ := hk1.ex 0 rfl
 replace hfr1 := hfr1.cons e2
 replace hst1 := hst1.fin (L' := [_]) (.cons e2 <| .nil)
 clear hst0 hfr0 hk1
 refine hK1 _ _ ?_
 refine zB fun _ hK3 => ?_
 refine z2 1 (by kernel_rfl) ?_
 refine zp (tch := []) hst1 hfr1 (by kernel_rfl) (by kernel_rfl) (by kernel_rfl) (.cons rfl (ZQ (.cons rfl <| .nil) underlying45 sizeOf9 zeroValue9 rfl rfl rfl rfl) <| .nil) fun a2 w2 m2 hst2 hle2 hk2 => ?_
 have hfr2 := hk2.fr (.o 0 <| .nil)
 obtain ⟨gK, e4, hK⟩ := hk2.ex 1 rfl
 replace hfr2 := hfr2.cons e4
 clear hst1 hfr1 hk2
 refine zp (tch := [(2, 0, (fun _ => .blk _ _))]) hst2 hfr2 (by kernel_rfl) (by kernel_rfl) (by kernel_rfl) (.cons rfl (za rfl (.cons rfl <| .nil) call18 (fun w m hK => by have hle_ := KC.le hK; have hA := KC.agree hK; exact zAP (s := [120]) hA)) <| .cons rfl (zP (.cons rfl <| .cons rfl <| .cons rfl <| .nil) underlying47 zeroValue47 (.cons sizeOf9 <| .cons sizeOf45 <| .cons sizeOf4 <| .cons sizeOf25 <| .nil) rfl) <| .consT rfl rfl (fun _ => rfl) rfl (zW rfl rfl rfl sizeOf47 rfl rfl rfl) <| .nil) fun a3 w3 m3 hst3 hle3 hk3 => ?_
 have hfr3 := hk3.fr (.o 0 <| .o 1 <| .nil)
 replace hst3 := hst3.fin (L' := [_]) (.cons rfl <| .nil)
 try simp only [List.take_succ_cons, List.take_zero, List.drop_succ_cons, List.drop_zero, List.cons_append, List.nil_append, List.append_nil, List.length_cons, List.length_nil, Nat.zero_add, Nat.reduceAdd] at hst3
 replace hK := hK.mono hle3
 clear hst2 hfr2 hk3
 refine hK3 _ _ ?_
 refine zN ?_
 repeat (with_reducible first | refine zH ?_ | refine zG ?_)
 exact zO hst3 hfr3 rfl (.cell rfl (zh (zf (hst3.loc.at_ (k := 0) rfl)) isAgg47 sizeOf47) <| .nil) (⟨(some ⟨gK, 0, none⟩, 1, noY), rfl, arm_R (l := [[120]]) (zCk (l := [[120]]) hK (by decide)) (zDu [120])⟩)
set_option maxHeartbeats 400000 in
theorem zCx {w : World} {m : Mem}  (hA : Agree w m)  : FnV Try.prog 15 #[] w m (fun _ m v => (MP.efs efs).p m v) := by
 refine zZ (vs := []) func15 rfl rfl rfl fun a0 hfr0 => ?_
 have hst0 := zV hA (zi [] _ w m)
 have hM : MLe m m := MLe.refl m
 refine zB fun _ hK1 => ?_
 refine rp0 hst0 hfr0 (.cons rfl (zD rfl) <| .nil) fun a1 w1 m1 hst1 hle1 hk1 => ?_
 have hfr1 := hk1.fr (.nil)
 clear hst0 hfr0 hk1
 refine hK1 _ _ ?_
 refine zB fun _ hK2 => ?_
 refine z2 3 (by kernel_rfl) ?_
 refine zp (tch := []) hst1 hfr1 (by kernel_rfl) (by kernel_rfl) (by kernel_rfl) (.cons rfl (zP (cs := [S Zf, .int .i64 0, S [], .int .i64 0, .slice none 0 0, .slice none 0 0, .int .i64 0, .int .i64 0, S [], .int .i64 0, .slice none 0 0, .slice none 0 0, .int .i64 0]) (.cons rfl <| .nil) underlying92 zeroValue92 (.cons sizeOf9 <| .cons sizeOf90 <| .cons sizeOf90 <| .nil) (rfl)) <| .cons rfl (zP (cs := [S putS, .int .i64 0, S [], .int .i64 0, .slice none 0 0, .slice none 0 0, .int .i64 0, .int .i64 0, S [], .int .i64 0, .slice none 0 0, .slice none 0 0, .int .i64 0]) (.cons rfl <| .nil) underlying92 zeroValue92 (.cons sizeOf9 <| .cons sizeOf90 <| .cons sizeOf90 <| .nil) (rfl)) <| .cons rfl (z6 rfl rfl underlying83 sizeOf92 zeroValue92 rfl rfl rfl rfl rfl) <| .nil) fun a2 w2 m2 hst2 hle2 hk2 => ?_
 have hfr2 := hk2.fr (.nil)
 obtain ⟨gA, e3, hA9⟩ := hk2.ex 3 rfl
 replace hfr2 := hfr2.cons e3
 clear hst1 hfr1 hk2
 have hoA : Ops m2 (some ⟨gA, 0, none⟩) 2 2 [Zf, putS] := (Sl.two (R := fun m vs s => OpR m vs s) hA9 rfl rfl (op_R Zf) (op_R putS))
 refine zBw 4 (by kernel_rfl) ?_
 refine zp (tch := []) hst2 hfr2 (by kernel_rfl) (by kernel_rfl) (by kernel_rfl) (.cons rfl (zP (cs := [S [69], .slice (some ⟨gA, 0, none⟩) 2 2]) (.cons rfl <| .cons rfl <| .nil) underlying85 zeroValue85 (.cons sizeOf9 <| .cons sizeOf83 <| .nil) (rfl)) <| .cons rfl (zP (cs := [S [120], .int .i64 0, S [], .int .i64 0, .slice none 0 0, .slice none 0 0, .int .i64 0, .int .i64 0, S [], .int .i64 0, .slice none 0 0, .slice none 0 0, .int .i64 0]) (.cons rfl <| .nil) underlying92 zeroValue92 (.cons sizeOf9 <| .cons sizeOf90 <| .cons sizeOf90 <| .nil) (rfl)) <| .cons rfl (zP (cs := [S Zf, .int .i64 0, S [], .int .i64 0, .slice none 0 0, .slice none 0 0, .int .i64 0, .int .i64 0, S [], .int .i64 0, .slice none 0 0, .slice none 0 0, .int .i64 0]) (.cons rfl <| .nil) underlying92 zeroValue92 (.cons sizeOf9 <| .cons sizeOf90 <| .cons sizeOf90 <| .nil) (rfl)) <| .cons rfl (z6 rfl rfl underlying83 sizeOf92 zeroValue92 rfl rfl rfl rfl rfl) <| .nil) fun a3 w3 m3 hst3 hle3 hk3 => ?_
 have hfr3 := hk3.fr (.o 3 <| .n 4 <| .nil)
 obtain ⟨gB, e4, hB9⟩ := hk3.ex 7 rfl
 replace hfr3 := hfr3.cons e4
 replace hoA := hoA.mono hle3
 clear hst2 hfr2 hk3
 have hoB : Ops m3 (some ⟨gB, 0, none⟩) 2 2 [[120], Zf] := (Sl.two (R := fun m vs s => OpR m vs s) hB9 rfl rfl (op_R [120]) (op_R Zf))
 refine zp (tch := []) hst3 hfr3 (by kernel_rfl) (by kernel_rfl) (by kernel_rfl) (.cons rfl (zP (cs := [S [70], .slice (some ⟨gB, 0, none⟩) 2 2]) (.cons rfl <| .cons rfl <| .nil) underlying85 zeroValue85 (.cons sizeOf9 <| .cons sizeOf83 <| .nil) (rfl)) <| .cons rfl (z6 rfl rfl underlying37 sizeOf85 zeroValue85 rfl rfl rfl rfl rfl) <| .consA 9 rfl rfl <| .nil) fun a4 w4 m4 hst4 hle4 hk4 => ?_
 have hfr4 := hk4.fr (.o 3 <| .o 4 <| .o 7 <| .nil)
 obtain ⟨gC, e5, hC9⟩ := hk4.ex 9 rfl
 replace hfr4 := hfr4.cons e5
 replace hfr4 := hfr4.cons (hk4.same 0 rfl e5)
 replace hoA := hoA.mono hle4
 replace hoB := hoB.mono hle4
 clear hst3 hfr3 hk4
 refine hK2 _ _ ?_
 refine zN ?_
 repeat (with_reducible first | refine zH ?_ | refine zG ?_)
 exact zO hst4 hfr4 rfl (.tmp rfl <| .nil) (⟨(some ⟨gC, 0, none⟩, 2), rfl, Sl.two (R := fun m vs e => EfR m vs e) hC9 rfl rfl (⟨_, _, rfl, hoA⟩ : EfR _ _ (⟨[69], [Zf, putS]⟩ : Ef)) (⟨_, _, rfl, hoB⟩ : EfR _ _ (⟨[70], [[120], Zf]⟩ : Ef))⟩)
set_option maxHeartbeats 3200000 in
theorem shown_c {w : World} {m : Mem}  (hA : Agree w m)  : FnV Try.prog 12 #[] w m (fun _ _ v => v = .bool true) := by
 refine zZ (vs := []) func12 rfl rfl rfl fun a0 hfr0 => ?_
 have hst0 := zV hA (zi [] _ w m)
 have hM : MLe m m := MLe.refl m
 refine zB fun _ hK1 => ?_
 refine rp0 hst0 hfr0 (.cons rfl (zD rfl) <| .nil) fun a1 w1 m1 hst1 hle1 hk1 => ?_
 have hfr1 := hk1.fr (.nil)
 clear hst0 hfr0 hk1
 refine hK1 _ _ ?_
 refine zB fun _ hK2 => ?_
 refine z2 2 (by kernel_rfl) ?_
 refine zp (tch := []) hst1 hfr1 (by kernel_rfl) (by kernel_rfl) (by kernel_rfl) (.cons rfl (za rfl (.cons rfl <| .nil) call19 (fun w m hK => by have hle_ := KC.le hK; have hA := KC.agree hK; exact zDr (n := 1) hA)) <| .cons rfl (Zs rfl underlying22 sizeOf25 zeroValue25 rfl rfl rfl rfl) <| .nil) fun a2 w2 m2 hst2 hle2 hk2 => ?_
 have hfr2 := hk2.fr (.nil)
 obtain ⟨gA, e3, hA9⟩ := hk2.ex 9 rfl
 replace hfr2 := hfr2.cons e3
 clear hst1 hfr1 hk2
 have hask : CdR m2 ask1 (cdV ask1 ⟨some ⟨gA, 0, none⟩, 1, none, 0⟩) := node1_R ⟨by decide, by decide⟩ hA9 (int_R ⟨by decide, by decide⟩)
 replace hst2 := hst2.more (r := .free) trivial List.nodup_nil (by simp [Res.blocks])
 refine zp (tch := [(1, 0, (fun v => .blk v _)), (2, 0, (fun v => .blk v _))]) hst2 hfr2 (by kernel_rfl) (by kernel_rfl) (by kernel_rfl) (.cons rfl (zP (cs := cdV ask1 ⟨some ⟨gA, 0, none⟩, 1, none, 0⟩) (.cons rfl <| .cons rfl <| .cons rfl <| .nil) underlying25 zeroValue25 (.cons sizeOf3 <| .cons sizeOf9 <| .cons sizeOf9 <| .cons sizeOf3 <| .cons sizeOf22 <| .cons sizeOf23 <| .nil) (rfl)) <| .consT rfl rfl (fun _ => rfl) rfl (zQ zeroValue25 rfl) <| .consT rfl rfl (fun _ => rfl) rfl (zd 1 rfl rfl rfl fun y1 => zX rfl rfl rfl rfl rfl sizeOf25 rfl rfl rfl) <| .nil) fun a3 w3 m3 hst3 hle3 hk3 => ?_
 have hfr3 := hk3.fr (.o 9 <| .nil)
 obtain ⟨g1, e4, _⟩ := hk3.ex 1 rfl
 replace hfr3 := hfr3.cons e4
 replace hst3 := hst3.fin (L' := [_]) (.cons e4 <| .cons e4 <| .nil)
 try simp only [List.take_succ_cons, List.take_zero, List.drop_succ_cons, List.drop_zero, List.cons_append, List.nil_append, List.append_nil, List.length_cons, List.length_nil, Nat.zero_add, Nat.reduceAdd] at hst3
 replace hask := hask.mono hle3
 clear hst2 hfr2 hk3
 refine hK2 _ _ ?_
 refine zB fun _ hK5 => ?_
 replace hst3 := hst3.more (r := .free) trivial List.nodup_nil (by simp [Res.blocks])
 refine zb (tch := [(6, 1, (fun v => .blk v _)), (7, 1, (fun v => .blkx v _ _))]) (fun _ => z1) hst3 hfr3 (by kernel_rfl) (by kernel_rfl) (by kernel_rfl) (.cons rfl (zg (j := 0) rfl rfl isAgg25 sizeOf25 rfl) <| .cons rfl (za rfl (.cons rfl <| .nil) call18 (fun w m hK => by have hle_ := KC.le hK; have hA := KC.agree hK; exact zAP (s := [97]) hA)) <| .cons rfl (za rfl (.cons rfl <| .nil) call19 (fun w m hK => by have hle_ := KC.le hK; have hA := KC.agree hK; exact zDr (n := 1) hA)) <| .cons rfl (zn (φ := MP.cd (addC (zAK [97]) (zAi 1))) rfl (.cons rfl <| .cons rfl <| .nil) call20 (fun w m hK => by have hle_ := KC.le hK; have hA := KC.agree hK; exact FnG.mono (add_c hA (zDu [97]) (int_R ⟨by decide, by decide⟩)) fun _ _ _ _ h => h)) <| .cons rfl (zAe 14 rfl rfl rfl fun y14 => z6 rfl rfl underlying22 sizeOf25 zeroValue25 rfl rfl rfl rfl rfl) <| .cons rfl (Z4 15 rfl rfl rfl fun y15 => zP (.cons rfl <| .cons rfl <| .cons rfl <| .nil) underlying25 zeroValue25 (.cons sizeOf3 <| .cons sizeOf9 <| .cons sizeOf9 <| .cons sizeOf3 <| .cons sizeOf22 <| .cons sizeOf23 <| .nil) rfl) <| .consT rfl rfl (fun _ => rfl) rfl (zQ zeroValue25 rfl) <| .consT rfl rfl (fun _ => rfl) rfl (zd 2 rfl rfl rfl fun y2 => ZE 16 rfl rfl rfl fun y16 => zX rfl rfl rfl rfl rfl sizeOf25 rfl rfl rfl) <| .nil) fun a4 w4 m4 hst4 hle4 hk4 => ?_
 have hfr4 := hk4.fr (.o 1 <| .nil)
 obtain ⟨g2, e6, _⟩ := hk4.ex 2 rfl
 replace hfr4 := hfr4.cons e6
 replace hst4 := hst4.fin (L' := [_, _]) (.cons e6 <| .cons e6 <| .nil)
 try simp only [List.take_succ_cons, List.take_zero, List.drop_succ_cons, List.drop_zero, List.cons_append, List.nil_append, List.append_nil, List.length_cons, List.length_nil, Nat.zero_add, Nat.reduceAdd] at hst4
 obtain ⟨⟨y14, g15⟩, ⟨h14, h15⟩, hst4⟩ := hst4.unx (k := 1) rfl (fun _ => rfl)
 replace hask := hask.mono hle4
 clear hst3 hfr3 hk4
 have h15b : CellsAt m4 ⟨g15, 0, none⟩ (cdV ask1 ⟨some ⟨gA, 0, none⟩, 1, none, 0⟩ ++ cdV (addC (zAK [97]) (zAi 1)) y14) := h15
 have hbo : CdR m4 (z5 [97] ask1 (addC (zAK [97]) (zAi 1))) (cdV (z5 [97] ask1 (addC (zAK [97]) (zAi 1))) ⟨some ⟨g15, 0, none⟩, 2, none, 0⟩) := zCe ⟨by decide, by decide⟩ h15b hask h14
 refine hK5 _ _ ?_
 refine zB fun _ hK8 => ?_
 replace hst4 := hst4.more (r := .free) trivial List.nodup_nil (by simp [Res.blocks])
 refine ra0 (tch := [(5, 2, (fun v => .blk v _)), (6, 2, (fun v => .blkx v _ _))]) hst4 hfr4 (.cons rfl (ZQ (.cons rfl <| .nil) underlying45 sizeOf9 zeroValue9 rfl rfl rfl rfl) <| .cons rfl (za rfl (.cons rfl <| .nil) call18 (fun w m hK => by have hle_ := KC.le hK; have hA := KC.agree hK; exact zAP (s := [120]) hA)) <| .cons rfl (za rfl (.cons rfl <| .nil) call19 (fun w m hK => by have hle_ := KC.le hK; have hA := KC.agree hK; exact zDr (n := 1) hA)) <| .cons rfl (zn (φ := MP.cd (addC (zAK [120]) (zAi 1))) rfl (.cons rfl <| .cons rfl <| .nil) call20 (fun w m hK => by have hle_ := KC.le hK; have hA := KC.agree hK; exact FnG.mono (add_c hA (zDu [120]) (int_R ⟨by decide, by decide⟩)) fun _ _ _ _ h => h)) <| .cons rfl (zAe 17 rfl rfl rfl fun y17 => Z4 20 rfl rfl rfl fun y20 => zP (.cons rfl <| .cons rfl <| .cons rfl <| .cons rfl <| .nil) underlying47 zeroValue47 (.cons sizeOf9 <| .cons sizeOf45 <| .cons sizeOf4 <| .cons sizeOf25 <| .nil) rfl) <| .consT rfl rfl (fun _ => rfl) rfl (zQ zeroValue47 rfl) <| .consT rfl rfl (fun _ => rfl) rfl (zd 3 rfl rfl rfl fun y3 => ZE 21 rfl rfl rfl fun y21 => zX rfl rfl rfl rfl rfl sizeOf47 rfl rfl rfl) <| .nil) fun a5 w5 m5 hst5 hle5 hk5 => ?_
 have hfr5 := hk5.fr (.o 1 <| .o 2 <| .nil)
 obtain ⟨g3, e9, _⟩ := hk5.ex 3 rfl
 replace hfr5 := hfr5.cons e9
 replace hst5 := hst5.fin (L' := [_, _, _]) (.cons e9 <| .cons e9 <| .nil)
 try simp only [List.take_succ_cons, List.take_zero, List.drop_succ_cons, List.drop_zero, List.cons_append, List.nil_append, List.append_nil, List.length_cons, List.length_nil, Nat.zero_add, Nat.reduceAdd] at hst5
 obtain ⟨⟨g17, y20⟩, ⟨h17, h20⟩, hst5⟩ := hst5.unx (k := 2) rfl (fun _ => rfl)
 replace hask := hask.mono hle5
 replace hbo := hbo.mono hle5
 clear hst4 hfr4 hk5
 have htl : CaR m5 shTail (caV shTail (some ⟨g17, 0, none⟩, 1, y20)) := arm_R (l := [[120]]) (zCk (l := [[120]]) h17 (by decide)) h20
 refine hK8 _ _ ?_
 refine zB fun _ hK11 => ?_
 replace hst5 := hst5.more (r := .free) trivial List.nodup_nil (by simp [Res.blocks])
 refine zb (tch := [(6, 3, (fun v => .blk v _)), (7, 3, (fun v => .blkx v _ _))]) (fun _ => z1) hst5 hfr5 (by kernel_rfl) (by kernel_rfl) (by kernel_rfl) (.cons rfl (zg (j := 1) rfl rfl isAgg25 sizeOf25 rfl) <| .cons rfl (Zs rfl underlying22 sizeOf25 zeroValue25 rfl rfl rfl rfl) <| .cons rfl (zn (φ := MP.ca zAX) rfl (.nil) call21 (fun w m hK => by have hle_ := KC.le hK; have hA := KC.agree hK; exact FnG.mono (same_c hA) fun _ _ _ _ h => h)) <| .cons rfl (zg (j := 2) rfl rfl isAgg47 sizeOf47 rfl) <| .cons rfl (zAe 24 rfl rfl rfl fun y24 => z6 rfl rfl underlying23 sizeOf47 zeroValue47 rfl rfl rfl rfl rfl) <| .cons rfl (zAe 23 rfl rfl rfl fun y23 => Z4 26 rfl rfl rfl fun y26 => zP (.cons rfl <| .cons rfl <| .cons rfl <| .cons rfl <| .nil) underlying25 zeroValue25 (.cons sizeOf3 <| .cons sizeOf9 <| .cons sizeOf9 <| .cons sizeOf3 <| .cons sizeOf22 <| .cons sizeOf23 <| .nil) rfl) <| .consT rfl rfl (fun _ => rfl) rfl (zQ zeroValue25 rfl) <| .consT rfl rfl (fun _ => rfl) rfl (zd 4 rfl rfl rfl fun y4 => ZE 27 rfl rfl rfl fun y27 => zX rfl rfl rfl rfl rfl sizeOf25 rfl rfl rfl) <| .nil) fun a6 w6 m6 hst6 hle6 hk6 => ?_
 have hfr6 := hk6.fr (.o 1 <| .nil)
 obtain ⟨g4, e12, _⟩ := hk6.ex 4 rfl
 replace hfr6 := hfr6.cons e12
 replace hst6 := hst6.fin (L' := [_, _, _, _]) (.cons e12 <| .cons e12 <| .nil)
 try simp only [List.take_succ_cons, List.take_zero, List.drop_succ_cons, List.drop_zero, List.cons_append, List.nil_append, List.append_nil, List.length_cons, List.length_nil, Nat.zero_add, Nat.reduceAdd] at hst6
 obtain ⟨⟨g23, ⟨y24, g26⟩⟩, ⟨h23, ⟨h24, h26⟩⟩, hst6⟩ := hst6.unx (k := 3) rfl (fun _ => rfl)
 replace hask := hask.mono hle6
 replace hbo := hbo.mono hle6
 replace htl := htl.mono hle6
 clear hst5 hfr5 hk6
 have h26b : CellsAt m6 ⟨g26, 0, none⟩ (caV zAX y24 ++ caV shTail (some ⟨g17, 0, none⟩, 1, y20)) := h26
 have hsh : CdR m6 shC (cdV shC ⟨some ⟨g23, 0, none⟩, 1, some ⟨g26, 0, none⟩, 2⟩) := node1a_R ⟨by decide, by decide⟩ h23 hbo (arms2_R h26b h24 htl)
 refine hK11 _ _ ?_
 refine zB fun _ hK14 => ?_
 replace hst6 := hst6.more (r := .free) trivial List.nodup_nil (by simp [Res.blocks])
 refine zb (tch := [(3, 4, (fun v => .blk v _)), (4, 4, (fun v => .blkx v _ _))]) (fun _ => z1) hst6 hfr6 (by kernel_rfl) (by kernel_rfl) (by kernel_rfl) (.cons rfl (zg (j := 3) rfl rfl isAgg25 sizeOf25 rfl) <| .cons rfl (zn (φ := MP.efs efs) rfl (.nil) call15 (fun w m hK => by have hle_ := KC.le hK; have hA := KC.agree hK; exact FnG.mono (zCx hA) fun _ _ _ _ h => h)) <| .cons rfl (zDZ 29 rfl rfl rfl fun y29 => zn (φ := MP.rn shR) rfl (.cons rfl <| .cons rfl <| .cons rfl <| .cons rfl <| .nil) call14 (fun w m hK => by have hle_ := KC.le hK; have hA := KC.agree hK; have hr0_ := hK.2; have hsh := hsh.mono hle_; exact FnG.mono (run_c (c := shC) (es := efs) (input := []) (fuel := 100) (r := shR) hA hsh hr0_ Sl.empty (by simp) run_sh1 (by simp) (by omega)) fun _ _ _ _ h => h)) <| .consT rfl rfl (fun _ => rfl) rfl (zQ zeroValue35 rfl) <| .consT rfl rfl (fun _ => rfl) rfl (zd 5 rfl rfl rfl fun y5 => ZE 30 rfl rfl rfl fun y30 => zX rfl rfl rfl rfl rfl sizeOf35 rfl rfl rfl) <| .nil) fun a7 w7 m7 hst7 hle7 hk7 => ?_
 have hfr7 := hk7.fr (.o 1 <| .nil)
 obtain ⟨g5, e15, _⟩ := hk7.ex 5 rfl
 replace hfr7 := hfr7.cons e15
 replace hst7 := hst7.fin (L' := [_, _, _, _, _]) (.cons e15 <| .cons e15 <| .nil)
 try simp only [List.take_succ_cons, List.take_zero, List.drop_succ_cons, List.drop_zero, List.cons_append, List.nil_append, List.append_nil, List.length_cons, List.length_nil, Nat.zero_add, Nat.reduceAdd] at hst7
 obtain ⟨y30, h30, hst7⟩ := hst7.unx (k := 4) rfl (fun _ => rfl)
 replace hask := hask.mono hle7
 clear hst6 hfr6 hk7
 refine hK14 _ _ ?_
 refine zB fun _ hK17 => ?_
 replace hst7 := hst7.more (r := .free) trivial List.nodup_nil (by simp [Res.blocks])
 refine zb (tch := [(3, 5, (fun v => .blk v _)), (4, 5, (fun v => .blkx v _ _))]) (fun _ => z1) hst7 hfr7 (by kernel_rfl) (by kernel_rfl) (by kernel_rfl) (.cons rfl (zg (j := 0) rfl rfl isAgg25 sizeOf25 rfl) <| .cons rfl (zn (φ := MP.efs efs) rfl (.nil) call15 (fun w m hK => by have hle_ := KC.le hK; have hA := KC.agree hK; exact FnG.mono (zCx hA) fun _ _ _ _ h => h)) <| .cons rfl (zDZ 32 rfl rfl rfl fun y32 => zn (φ := MP.rn ⟨4, 0, 0, [], [], 1, 0⟩) rfl (.cons rfl <| .cons rfl <| .cons rfl <| .cons rfl <| .nil) call14 (fun w m hK => by have hle_ := KC.le hK; have hA := KC.agree hK; have hr0_ := hK.2; have hask := hask.mono hle_; exact FnG.mono (run_c (c := ask1) (es := efs) (input := []) (fuel := 100) (r := ⟨4, 0, 0, [], [], 1, 0⟩) hA hask hr0_ Sl.empty (by simp) run_sh2 (by simp) (by omega)) fun _ _ _ _ h => h)) <| .consT rfl rfl (fun _ => rfl) rfl (zQ zeroValue35 rfl) <| .consT rfl rfl (fun _ => rfl) rfl (zd 6 rfl rfl rfl fun y6 => ZE 33 rfl rfl rfl fun y33 => zX rfl rfl rfl rfl rfl sizeOf35 rfl rfl rfl) <| .nil) fun a8 w8 m8 hst8 hle8 hk8 => ?_
 have hfr8 := hk8.fr (.o 5 <| .nil)
 obtain ⟨g6, e18, _⟩ := hk8.ex 6 rfl
 replace hfr8 := hfr8.cons e18
 replace hst8 := hst8.fin (L' := [_, _, _, _, _, _]) (.cons e18 <| .cons e18 <| .nil)
 try simp only [List.take_succ_cons, List.take_zero, List.drop_succ_cons, List.drop_zero, List.cons_append, List.nil_append, List.append_nil, List.length_cons, List.length_nil, Nat.zero_add, Nat.reduceAdd] at hst8
 obtain ⟨y33, h33, hst8⟩ := hst8.unx (k := 5) rfl (fun _ => rfl)
 clear hst7 hfr7 hk8
 refine hK17 _ _ ?_
 refine zB fun _ hK20 => ?_
 replace hst8 := hst8.more (r := .free) trivial List.nodup_nil (by simp [Res.blocks])
 refine ra0 (tch := [(2, 6, (fun v => .blk v _)), (3, 6, (fun v => .blkx v _ _))]) hst8 hfr8 (.cons rfl (zP (cs := cdV ⟨0, [], [], 0, [], []⟩ noY) (.nil) underlying25 zeroValue25 (.cons sizeOf3 <| .cons sizeOf9 <| .cons sizeOf9 <| .cons sizeOf3 <| .cons sizeOf22 <| .cons sizeOf23 <| .nil) (rfl)) <| .cons rfl (zn (φ := MP.rn ⟨4, 0, 0, [], [], 0, 0⟩) rfl (.cons rfl <| .cons rfl <| .cons rfl <| .cons rfl <| .nil) call14 (fun w m hK => by have hle_ := KC.le hK; have hA := KC.agree hK; exact FnG.mono (run_c (c := ⟨0, [], [], 0, [], []⟩) (es := []) (input := []) (fuel := 100) (r := ⟨4, 0, 0, [], [], 0, 0⟩) hA zero_R Sl.empty Sl.empty (by simp) run_sh3 (by simp) (by omega)) fun _ _ _ _ h => h)) <| .consT rfl rfl (fun _ => rfl) rfl (zQ zeroValue35 rfl) <| .consT rfl rfl (fun _ => rfl) rfl (zd 7 rfl rfl rfl fun y7 => ZE 35 rfl rfl rfl fun y35 => zX rfl rfl rfl rfl rfl sizeOf35 rfl rfl rfl) <| .nil) fun a9 w9 m9 hst9 hle9 hk9 => ?_
 have hfr9 := hk9.fr (.o 5 <| .o 6 <| .nil)
 obtain ⟨g7, e21, _⟩ := hk9.ex 7 rfl
 replace hfr9 := hfr9.cons e21
 replace hst9 := hst9.fin (L' := [_, _, _, _, _, _, _]) (.cons e21 <| .cons e21 <| .nil)
 try simp only [List.take_succ_cons, List.take_zero, List.drop_succ_cons, List.drop_zero, List.cons_append, List.nil_append, List.append_nil, List.length_cons, List.length_nil, Nat.zero_add, Nat.reduceAdd] at hst9
 obtain ⟨y35, h35, hst9⟩ := hst9.unx (k := 6) rfl (fun _ => rfl)
 clear hst8 hfr8 hk9
 refine hK20 _ _ ?_
 refine zB fun _ hK23 => ?_
 refine rp0 hst9 hfr9 (.cons rfl (zA (off := 0) rfl underlying35 rfl rfl sizeOf33 rfl) <| .cons rfl (zA (off := 0) rfl underlying33 rfl rfl sizeOf3 rfl) <| .cons rfl (zM (k := 0) (j := 4) rfl rfl isAgg3 rfl) <| .cons rfl (zS rfl rfl) <| .cons rfl (zC rfl) <| .cons rfl (zA (off := 0) rfl underlying35 rfl rfl sizeOf33 rfl) <| .cons rfl (zA (off := 1) rfl underlying33 rfl rfl sizeOf31 rfl) <| .cons rfl (zA (off := 1) rfl underlying31 rfl rfl sizeOf3 rfl) <| .cons rfl (zM (k := 2) (j := 4) rfl rfl isAgg3 rfl) <| .cons rfl (zS rfl rfl) <| .cons rfl (zU rfl rfl rfl) <| .cons rfl (zC rfl) <| .cons rfl (zA (off := 7) rfl underlying35 rfl rfl sizeOf3 rfl) <| .cons rfl (zM (j := 4) rfl rfl isAgg3 rfl) <| .cons rfl (zS rfl rfl) <| .cons rfl (zU rfl rfl rfl) <| .cons rfl (zC rfl) <| .cons rfl (zA (off := 0) rfl underlying35 rfl rfl sizeOf33 rfl) <| .cons rfl (zA (off := 0) rfl underlying33 rfl rfl sizeOf3 rfl) <| .cons rfl (zM (k := 0) (j := 5) rfl rfl isAgg3 rfl) <| .cons rfl (zS rfl rfl) <| .cons rfl (zU rfl rfl rfl) <| .cons rfl (zC rfl) <| .cons rfl (zA (off := 6) rfl underlying35 rfl rfl sizeOf3 rfl) <| .cons rfl (zM (j := 5) rfl rfl isAgg3 rfl) <| .cons rfl (zS rfl rfl) <| .cons rfl (zU rfl rfl rfl) <| .cons rfl (zC rfl) <| .cons rfl (zA (off := 0) rfl underlying35 rfl rfl sizeOf33 rfl) <| .cons rfl (zA (off := 0) rfl underlying33 rfl rfl sizeOf3 rfl) <| .cons rfl (zM (k := 0) (j := 6) rfl rfl isAgg3 rfl) <| .cons rfl (zS rfl rfl) <| .cons rfl (zU rfl rfl rfl) <| .cons rfl (zC rfl) <| .cons rfl (zA (off := 6) rfl underlying35 rfl rfl sizeOf3 rfl) <| .cons rfl (zM (j := 6) rfl rfl isAgg3 rfl) <| .cons rfl (zS rfl rfl) <| .cons rfl (zU rfl rfl rfl) <| .cons rfl (zD rfl) <| .nil) fun a10 w10 m10 hst10 hle10 hk10 => ?_
 have hfr10 := hk10.fr (.n 0 <| .nil)
 clear hst9 hfr9 hk10
 refine hK23 _ _ ?_
 refine zN ?_
 repeat (with_reducible first | refine zH ?_ | refine zG ?_)
 exact zO hst10 hfr10 rfl (.tmp rfl <| .nil) (rfl)
end Go.Proofs.Ytnppknioifgdfaa
namespace Go.Proofs.Ytnppknioifgdfaa
open Go.Proofs.Try
set_option linter.all false
set_option maxRecDepth 4000
open Go.RowKit
abbrev M (c : Cd) (e : Env) (a : Bool) (v : Vl) (ev : Ev) (nx : Int) (fr : List Fm) (inp : List Int) (tr : List Int) (st ko : Int) (ef : List (Str × Str)) : Mc := ⟨c, e, a, v, ev, nx, fr, [], inp, 0, tr, st, ko, ef⟩
theorem zBW {k : Nat} {s t : Mc} (he : s.ended = false) (hs : zBo { s with steps := s.steps + 1 } = some t) : ZZ (k + 1) s = ZZ k t := by
 rw [ZZ, he, if_neg (by decide), hs]
theorem zBx {s t : Mc} (ha : s.at_ = true) (h : zAa s = some (t, true)) : zBo s = some t := by
 unfold zBo; rw [if_pos ha, h]; rfl
theorem zEV {s t : Mc} (ha : s.at_ = false) (h : s.gets = some t) : zBo s = some t := by
 unfold zBo; rw [if_neg (by rw [ha]; decide)]; exact h
section
variable {e : Env} {v : Vl} {ev : Ev} {nx : Int} {fr : List Fm} {inp tr : List Int} {st ko : Int} {ef : List (Str × Str)} {k : Nat} {c : Cd}
theorem zBE : (M c e true v ev nx fr inp tr st ko ef).ended = false := by simp [Mc.ended]
theorem zEO {f : Fm} : (M c e false v ev nx (fr ++ [f]) inp tr st ko ef).ended = false := by simp [Mc.ended]
theorem go_bind {x : Str} {a b : Cd} (hb : (M (z5 x a b) e true v ev nx fr inp tr (st + 1) ko ef).bnd = true) : ZZ (k + 1) (M (z5 x a b) e true v ev nx fr inp tr st ko ef) = ZZ k (M a e true v ev nx (fr ++ [.bound false x b e]) inp tr (st + 1) ko ef) :=
 zBW zBE (zBx rfl (by unfold zAa; rw [if_pos (.inr rfl)]; show (if (M (z5 x a b) e true v ev nx fr inp tr (st + 1) ko ef).bnd = true then _ else none) = _; rw [if_pos hb]; rfl))
theorem zCq {s : Mc} {fr : List Fm} {f : Fm} (h : s.frames = fr ++ [f]) : s.gets = ({ s with frames := fr } : Mc).getsF f := by
 unfold Mc.gets; rw [h, List.getLast?_concat, List.dropLast_concat]
theorem go_pop {q : Bool} {x : Str} {b : Cd} {e2 : Env} : ZZ (k + 1) (M c e false v ev nx (fr ++ [.bound q x b e2]) inp tr st ko ef) = ZZ k (M b (.cons x v e2) true v ev nx fr inp tr (st + 1) ko ef) :=
 zBW zEO (zEV rfl (by rw [zCq rfl]; rfl))
theorem go_atom {a : Cd} {w : Vl} (hk : a.kind < 6) (ha : Zp a e = some (some w)) : ZZ (k + 1) (M a e true v ev nx fr inp tr st ko ef) = ZZ k (M a e false w ev nx fr inp tr (st + 1) ko ef) :=
 zBW zBE (zBx rfl (by
  unfold zAa
  show (if a.kind = 7 ∨ a.kind = 8 then _ else if a.kind = 9 then _ else if a.kind = 15 then _ else if a.kind = 10 then _ else if a.kind < 6 then (match Zp a e with | none => none | some none => _ | some (some v) => _) else _) = _
  rw [if_neg (by omega), if_neg (by omega), if_neg (by omega), if_neg (by omega), if_pos hk, ha]; rfl))
theorem go_op {s : Str} {l : List Cd} {vs : List Vl} {t : Mc} (hl : l.length ≤ 1000000) (hv : Zt l e = some (some vs)) (ho : opM (M (opC s l) e true v ev nx fr inp tr (st + 1) ko ef) s vs = some (t, true)) : ZZ (k + 1) (M (opC s l) e true v ev nx fr inp tr st ko ef) = ZZ k t :=
 zBW zBE (zBx rfl (by
  unfold zAa
  show (if l.length ≤ 1000000 then (match Zt l e with | none => none | some none => _ | some (some l) => _) else _) = _
  rw [if_pos hl, hv]; exact ho))
end
theorem zDN {c : Cd} {e : Env} {a : Bool} {v : Vl} {ev : Ev} {nx : Int} {fr : List Fm} {inp tr : List Int} {st ko : Int} {ef : List (Str × Str)} (h1 : fr.length ≤ 1000000) (h2 : ev.len ≤ 1000000) (h3 : 0 ≤ nx ∧ nx ≤ 1000000) (h4 : tr.length ≤ 1000000) (h5 : 0 ≤ ko ∧ ko ≤ 1000000) : (M c e a v ev nx fr inp tr st ko ef).bnd = true := by
 simp [Mc.bnd, h1, h2, h3, h4, h5]
theorem run_done {k : Nat} {s : Mc} (h : s.ended = true) : ZZ k s = some s := by
 cases k with
 | zero => rfl
 | succ k => rw [ZZ, if_pos h]
theorem zDx (k : Int) (s p : Str) (l : List Cd) (az : List Ca) : z3 (zAd k s p l az) = (zCf (zAd k s p l az) && zAI k 0 az && l.all z3 && az.all fun a => z3 a.body) := rightC_eq _
theorem zBg {s : Str} {a b : Cd} (hs : s ≠ []) (ha : z3 a = true) (hb : z3 b = true) : z3 (z5 s a b) = true := by
 rw [z5, zDx]
 simp [zCf, zAd, Cd.kind, Cd.kids, Cd.arms, Cd.name, Cd.param, Cd.n, ha, hb, hs, zAI]
theorem runR_of {c : Cd} {l : List Ef} {inp : List Int} {k : Nat} {sF : Mc} {r : Rn} (hr : z3 c = true) (h : ZZ k ((zBf inp (zCK l)).goes c .nil) = some sF) (he : endM sF = some r) : runR c l inp k = some r := by
 unfold runR; rw [if_pos hr, h]; exact he
end Go.Proofs.Ytnppknioifgdfaa
namespace Go.Proofs.Ytnppknioifgdfaa
set_option linter.all false
set_option maxRecDepth 4000
open Go.RowKit
theorem wrap_wl (a b : Int) : IntKind.i64.wrap (IntKind.i64.wrap a + b) = IntKind.i64.wrap (a + b) := by simp only [IntKind.wrap_i64]; omega
theorem wrap_wr (a b : Int) : IntKind.i64.wrap (a + IntKind.i64.wrap b) = IntKind.i64.wrap (a + b) := by simp only [IntKind.wrap_i64]; omega
end Go.Proofs.Ytnppknioifgdfaa
namespace Go.Proofs.Ytnppknioifgdfaa
set_option linter.all false
set_option maxRecDepth 4000
open Go.RowKit
structure Hd where
 x : Int
 more : Bool
 tail : Bool
abbrev Z7 : Cd := askC Zf unitC
def ZK (b : Bool) : Cd := if b then Z7 else zAi 0
abbrev ZO (x : Int) : Cd := opC [43] [zAK [98], zAi x]
abbrev Zd : Cd := appC (zAK [107]) (zAK [100])
def zDB (h : Hd) : Ca := if h.tail then ⟨Zf, [[117]], true, z5 [98] (ZK h.more) (ZO h.x)⟩ else ⟨Zf, [[117], [107]], false, z5 [98] (ZK h.more) (z5 [100] (ZO h.x) Zd)⟩
abbrev z8 (h : Hd) : List Ca := [zAX, zDB h]
def zAG : List Hd → Cd → Cd
 | [], c => c
 | h :: hs, c => zAG hs (Z3 c (z8 h))
def zBF : List Hd → Int
 | [] => 0
 | h :: r => IntKind.i64.wrap ((if h.more then zBF r else 0) + h.x)
def Ze : List Hd → Nat
 | [] => 0
 | h :: r => (if h.tail then 0 else 1) + (if h.more then Ze r else 0)
def zDl : List Hd → Prop
 | [] => True
 | h :: r => (h.more = true → r ≠ []) ∧ zDl r
abbrev E18 : List (Str × Str) := [([120], [70]), (Zf, [69]), (putS, [69])]
inductive AF where
 | B (x : Str) (c : Cd) (e : Env)
 | P (h : Hd)
 | R
inductive CF : Ev → List AF → List Fm → Ev → Prop where
 | nil {v : Ev} : CF v [] [] v
 | B {v v' : Ev} {A : List AF} {F : List Fm} {x : Str} {c : Cd} {e : Env} (h : CF v A F v') : CF v (.B x c e :: A) (.bound false x c e :: F) v'
 | P {v v' : Ev} {A : List AF} {F : List Fm} {h : Hd} {k : Int} (hc : CF (.cons [69] k (z8 h) .nil v) A F v') : CF v (.P h :: A) (.prompt [69] (z8 h) .nil k :: F) v'
 | R {v v' : Ev} {A : List AF} {F : List Fm} (h : CF (z7 1 v) A F v') : CF v (.R :: A) (.restore v 1 :: F) v'
theorem CF.len {v v' : Ev} {A : List AF} {F : List Fm} (h : CF v A F v') : F.length = A.length := by
 induction h <;> simp_all
theorem zCN : ∀ (n : Nat) (v : Ev), (z7 n v).len ≤ v.len
 | 0, v => Nat.le_refl _
 | n + 1, .nil => Nat.le_refl _
 | n + 1, .cons _ _ _ _ o => by simp only [z7, Ev.len]; have := zCN n o; omega
theorem CF.evlen {v v' : Ev} {A : List AF} {F : List Fm} (h : CF v A F v') : v'.len ≤ v.len + A.length := by
 induction h with
 | nil => simp
 | B _ ih => simp; omega
 | P _ ih => simp only [Ev.len] at ih; simp; omega
 | @R v v' A F _ ih => have := zCN 1 v; simp; omega
theorem CF.app {v v1 v2 : Ev} {A A2 : List AF} {F F2 : List Fm} (h : CF v A F v1) (h2 : CF v1 A2 F2 v2) : CF v (A ++ A2) (F ++ F2) v2 := by
 induction h with
 | nil => exact h2
 | B _ ih => exact .B (ih h2)
 | P _ ih => exact .P (ih h2)
 | R _ ih => exact .R (ih h2)
theorem CF.split : ∀ {A A2 : List AF} {v v2 : Ev} {F : List Fm}, CF v (A ++ A2) F v2 → ∃ F1 F2 v1, F = F1 ++ F2 ∧ CF v A F1 v1 ∧ CF v1 A2 F2 v2
 | [], A2, v, v2, F, h => ⟨[], F, v, rfl, .nil, h⟩
 | .B x c e :: A, A2, v, v2, _, .B h => by obtain ⟨F1, F2, v1, e, g1, g2⟩ := CF.split h; subst e; exact ⟨_ :: F1, F2, v1, rfl, .B g1, g2⟩
 | .P q :: A, A2, v, v2, _, .P h => by obtain ⟨F1, F2, v1, e, g1, g2⟩ := CF.split h; subst e; exact ⟨_ :: F1, F2, v1, rfl, .P g1, g2⟩
 | .R :: A, A2, v, v2, _, .R h => by obtain ⟨F1, F2, v1, e, g1, g2⟩ := CF.split h; subst e; exact ⟨_ :: F1, F2, v1, rfl, .R g1, g2⟩
def EvH : Ev → List Hd → Prop
 | .nil, [] => True
 | .cons q _ l e o, h :: hs => q = [69] ∧ l = z8 h ∧ e = .nil ∧ EvH o hs
 | _, _ => False
def Z1 : List Fm → List Int
 | [] => []
 | .prompt _ _ _ k :: F => k :: Z1 F
 | _ :: F => Z1 F
theorem ZX : ∀ F F2, Z1 (F ++ F2) = Z1 F ++ Z1 F2
 | [], F2 => rfl
 | .prompt _ _ _ k :: F, F2 => by simp only [List.cons_append, Z1, ZX F F2]
 | .bound _ _ _ _ :: F, F2 => by simp only [List.cons_append, Z1, ZX F F2]
 | .restore _ _ :: F, F2 => by simp only [List.cons_append, Z1, ZX F F2]
structure Mk (F : List Fm) (nx : Int) : Prop where
 nd : (Z1 F).Nodup
 le : ∀ k ∈ Z1 F, k ≤ nx
theorem zET : ∀ (a b : Nat) (v : Ev), z7 a (z7 b v) = z7 (b + a) v
 | a, 0, v => by simp [z7]
 | a, b + 1, .nil => by rw [zAo, zAo, zAo]
 | a, b + 1, .cons _ _ _ _ o => by rw [show b + 1 + a = (b + a) + 1 by omega, z7, z7]; exact zET a b o
theorem rev_ind {α : Type} {p : List α → Prop} (h0 : p []) (h1 : ∀ l a, p l → p (l ++ [a])) (l : List α) : p l := by
 have h : ∀ l : List α, p l.reverse := fun l => by
  induction l with
  | nil => exact h0
  | cons a l ih => rw [List.reverse_cons]; exact h1 _ _ ih
 have := h l.reverse
 rwa [List.reverse_reverse] at this
def FindS (A : List AF) : Prop := ∀ (F : List Fm) (ev : Ev) (d : Nat) (q : Str) (km : Int) (l : List Ca) (e : Env) (o : Ev), CF .nil A F ev → z7 d ev = .cons q km l e o →
  ∃ A0 AX F0 X h, A = A0 ++ .P h :: AX ∧ F = F0 ++ .prompt q l e km :: X ∧ CF .nil A0 F0 o ∧ CF (.cons q km l e o) AX X ev ∧ q = [69] ∧ l = z8 h ∧ e = .nil
theorem CF.find (A : List AF) : FindS A := by
 refine rev_ind (p := FindS) ?_ ?_ A
 ·intro F ev d q km l e o h hd; cases h; rw [zAo] at hd; cases hd
 ·intro A a ih F ev d q km l e o h hd
  obtain ⟨F1, F2, v1, rfl, g1, g2⟩ := CF.split h
  cases a with
  | B x c e' =>
   cases g2 with
   | B g3 =>
    cases g3
    obtain ⟨A0, AX, F0, X, hh, rfl, rfl, c1, c2, c3⟩ := ih _ _ _ _ _ _ _ _ g1 hd
    exact ⟨A0, AX ++ [.B x c e'], F0, X ++ [.bound false x c e'], hh, by simp, by simp, c1, c2.app (.B .nil), c3⟩
  | R =>
   cases g2 with
   | R g3 =>
    cases g3
    rw [zET] at hd
    obtain ⟨A0, AX, F0, X, hh, rfl, rfl, c1, c2, c3⟩ := ih _ _ _ _ _ _ _ _ g1 hd
    exact ⟨A0, AX ++ [.R], F0, X ++ [.restore v1 1], hh, by simp, by simp, c1, c2.app (.R .nil), c3⟩
  | P hh =>
   cases g2 with
   | @P _ _ _ _ _ k g3 =>
    cases g3
    cases d with
    | zero =>
     simp only [z7] at hd
     injection hd with e1 e2 e3 e4 e5
     subst e1 e2 e3 e4 e5
     exact ⟨A, [], F1, [], hh, rfl, rfl, g1, .nil, rfl, rfl, rfl⟩
    | succ d =>
     simp only [z7] at hd
     obtain ⟨A0, AX, F0, X, h2, rfl, rfl, c1, c2, c3⟩ := ih _ _ _ _ _ _ _ _ g1 hd
     exact ⟨A0, AX ++ [.P hh], F0, X ++ [.prompt [69] (z8 hh) .nil k], h2, by simp, by simp, c1, c2.app (.P .nil), c3⟩
def okX (km : Int) : Fm → Prop
 | .bound q _ _ _ => q = false
 | .prompt _ _ _ k => ¬ k = km
 | .restore _ _ => True
theorem CF.ok {v v' : Ev} {A : List AF} {X : List Fm} {km : Int} (h : CF v A X v') : km ∉ Z1 X → ∀ f ∈ X, okX km f := by
 induction h with
 | nil => intro _ f hf; cases hf
 | B _ ih =>
  intro hk f hf
  rcases List.mem_cons.1 hf with rfl | hf
  ·rfl
  ·exact ih hk f hf
 | P _ ih =>
  intro hk f hf
  simp only [Z1, List.mem_cons, not_or] at hk
  rcases List.mem_cons.1 hf with rfl | hf
  ·exact fun e => hk.1 e.symm
  ·exact ih hk.2 f hf
 | R _ ih =>
  intro hk f hf
  rcases List.mem_cons.1 hf with rfl | hf
  ·trivial
  ·exact ih hk f hf
theorem atF_skip {km : Int} {F0 X : List Fm} {q : Str} {l : List Ca} {e : Env} (hX : ∀ f ∈ X, okX km f) : ∀ i, i ≤ X.length → atF km (F0 ++ .prompt q l e km :: X) (F0.length + 1 + i) = some F0.length
 | 0, _ => by
  have h : (F0 ++ Fm.prompt q l e km :: X)[F0.length]? = some (.prompt q l e km) := by rw [List.getElem?_append_right (Nat.le_refl _), Nat.sub_self]; rfl
  rw [Nat.add_zero, atF_p h, if_pos rfl]
 | i + 1, hi => by
  have hg : (F0 ++ Fm.prompt q l e km :: X)[F0.length + 1 + i]? = X[i]? := by
   rw [List.getElem?_append_right (by omega), show F0.length + 1 + i - F0.length = i + 1 by omega]; rfl
  have hi' : i < X.length := by omega
  have hm : X[i] ∈ X := List.getElem_mem hi'
  have hx := hX _ hm
  rw [List.getElem?_eq_getElem hi'] at hg
  rw [show F0.length + 1 + (i + 1) = F0.length + 1 + i + 1 by omega]
  have ih := atF_skip (F0 := F0) (q := q) (l := l) (e := e) hX i (by omega)
  cases hf : X[i] with
  | bound qq n c e' => rw [hf] at hg hx; rw [atF_b hg]; simp only [okX] at hx; rw [hx]; exact ih
  | prompt q' l' e' k' => rw [hf] at hg hx; rw [atF_p hg]; simp only [okX] at hx; rw [if_neg hx]; exact ih
  | restore v n => rw [hf] at hg; rw [atF_r hg]; exact ih
theorem Mk.bound {F : List Fm} {nx : Int} (h : Mk F nx) (q : Bool) (x : Str) (c : Cd) (e : Env) : Mk (F ++ [.bound q x c e]) nx := ⟨by rw [ZX]; simpa [Z1] using h.nd, by rw [ZX]; simpa [Z1] using h.le⟩
theorem Mk.restore {F : List Fm} {nx : Int} (h : Mk F nx) (v : Ev) (n : Int) : Mk (F ++ [.restore v n]) nx := ⟨by rw [ZX]; simpa [Z1] using h.nd, by rw [ZX]; simpa [Z1] using h.le⟩
theorem Mk.prompt {F : List Fm} {nx : Int} (h : Mk F nx) (q : Str) (l : List Ca) (e : Env) : Mk (F ++ [.prompt q l e (nx + 1)]) (nx + 1) := by
 refine ⟨?_, ?_⟩
 ·rw [ZX, List.nodup_append]
  refine ⟨h.nd, by simp [Z1], fun a ha b hb e => ?_⟩
  simp only [Z1, List.mem_singleton] at hb
  have := h.le a ha; omega
 ·intro k hk
  rw [ZX, List.mem_append] at hk
  rcases hk with hk | hk
  ·have := h.le k hk; omega
  ·simp only [Z1, List.mem_singleton] at hk; omega
theorem Mk.left {F F2 : List Fm} {nx : Int} (h : Mk (F ++ F2) nx) : Mk F nx := ⟨by have := h.nd; rw [ZX, List.nodup_append] at this; exact this.1, fun k hk => h.le k (by rw [ZX]; exact List.mem_append_left _ hk)⟩
theorem push_CF {vA vB : Ev} {A : List AF} {X : List Fm} (h : CF vA A X vB) : ∀ {c : Cd} {e : Env} {a : Bool} {v : Vl} {st ko : Int} {ef : List (Str × Str)} (ev : Ev) (nx : Int) (F : List Fm), Mk F nx → 0 ≤ nx → nx + A.length ≤ 100000 → F.length + A.length ≤ 100000 → ev.len + A.length ≤ 100000 → 0 ≤ ko ∧ ko ≤ 100000 →
  ∃ Y ev2 nx2, ZU (M c e a v ev nx F [] [] st ko ef) X = some (M c e a v ev2 nx2 (F ++ Y) [] [] st ko ef) ∧ CF ev A Y ev2 ∧ Mk (F ++ Y) nx2 ∧ nx ≤ nx2 ∧ nx2 ≤ nx + A.length := by
 induction h with
 | nil => intro c e a v st ko ef ev nx F hm h0 h1 h2 h3 h4; exact ⟨[], ev, nx, by rw [List.append_nil]; rfl, .nil, by rw [List.append_nil]; exact hm, Int.le_refl _, by simp⟩
 | @B v v' A F' x cc ee _ ih =>
  intro c e a v st ko ef ev nx F hm h0 h1 h2 h3 h4
  simp only [List.length_cons] at h1 h2 h3
  have hb : (M c e a v ev nx F [] [] st ko ef).bnd = true := zDN (by omega) (by omega) (by omega) (by simp) (by omega)
  obtain ⟨Y, ev2, nx2, g1, g2, g3, g4, g5⟩ := ih (c := c) (e := e) (a := a) (v := v) (st := st) (ko := ko) (ef := ef) ev nx (F ++ [.bound false x cc ee]) (hm.bound _ _ _ _) h0 (by omega) (by simp; omega) (by omega) h4
  refine ⟨.bound false x cc ee :: Y, ev2, nx2, ?_, .B g2, by simpa using g3, g4, by simp only [List.length_cons]; omega⟩
  rw [ZU, show zAk (M c e a v ev nx F [] [] st ko ef) (.bound false x cc ee) = some (M c e a v ev nx (F ++ [.bound false x cc ee]) [] [] st ko ef) from by simp only [zAk, if_pos hb]; rfl]
  simp only [g1]; simp
 | @P v v' A F' h k _ ih =>
  intro c e a v st ko ef ev nx F hm h0 h1 h2 h3 h4
  simp only [List.length_cons] at h1 h2 h3
  have hb : (M c e a v ev nx F [] [] st ko ef).bnd = true := zDN (by omega) (by omega) (by omega) (by simp) (by omega)
  obtain ⟨Y, ev2, nx2, g1, g2, g3, g4, g5⟩ := ih (c := c) (e := e) (a := a) (v := v) (st := st) (ko := ko) (ef := ef) (.cons [69] (nx + 1) (z8 h) .nil ev) (nx + 1) (F ++ [.prompt [69] (z8 h) .nil (nx + 1)]) (hm.prompt _ _ _) (by omega) (by omega) (by simp; omega) (by simp only [Ev.len]; omega) h4
  refine ⟨.prompt [69] (z8 h) .nil (nx + 1) :: Y, ev2, nx2, ?_, .P g2, by simpa using g3, by omega, by simp only [List.length_cons]; omega⟩
  rw [ZU, show zAk (M c e a v ev nx F [] [] st ko ef) (.prompt [69] (z8 h) .nil k) = some (M c e a v (.cons [69] (nx + 1) (z8 h) .nil ev) (nx + 1) (F ++ [.prompt [69] (z8 h) .nil (nx + 1)]) [] [] st ko ef) from by simp only [zAk, if_pos hb]; rfl]
  simp only [g1]; simp
 | @R v v' A F' _ ih =>
  intro c e a v1 st ko ef ev nx F hm h0 h1 h2 h3 h4
  simp only [List.length_cons] at h1 h2 h3
  have hb : (M c e a v1 ev nx F [] [] st ko ef).bnd = true := zDN (by omega) (by omega) (by omega) (by simp) (by omega)
  have hd := zCN 1 ev
  obtain ⟨Y, ev2, nx2, g1, g2, g3, g4, g5⟩ := ih (c := c) (e := e) (a := a) (v := v1) (st := st) (ko := ko) (ef := ef) (z7 1 ev) nx (F ++ [.restore ev 1]) (hm.restore _ _) h0 (by omega) (by simp; omega) (by omega) h4
  refine ⟨.restore ev 1 :: Y, ev2, nx2, ?_, .R g2, by simpa using g3, g4, by simp only [List.length_cons]; omega⟩
  rw [ZU, show zAk (M c e a v1 ev nx F [] [] st ko ef) (.restore v 1) = some (M c e a v1 (z7 1 ev) nx (F ++ [.restore ev 1]) [] [] st ko ef) from by simp only [zAk, if_pos hb]; rfl]
  simp only [g1]; simp
def ReachM (s t : Mc) (j : Nat) : Prop := ∀ k, ZZ (k + j) s = ZZ k t
theorem ReachM.refl (s : Mc) : ReachM s s 0 := fun _ => rfl
section
variable {e : Env} {v : Vl} {ev : Ev} {nx : Int} {fr : List Fm} {inp tr : List Int} {st ko : Int} {ef : List (Str × Str)} {k : Nat} {c : Cd}
theorem go_yield {t : Mc} (hy : Zo (M Z7 e true v ev nx fr inp tr (st + 1) ko ef) Zf ZS = some (t, true)) : ZZ (k + 1) (M Z7 e true v ev nx fr inp tr st ko ef) = ZZ k t :=
 zBW zBE (zBx rfl (show Zo (M Z7 e true v ev nx fr inp tr (st + 1) ko ef) Zf ZS = some (t, true) from hy))
theorem go_res {w : Ev} {n : Int} : ZZ (k + 1) (M c e false v ev nx (fr ++ [.restore w n]) inp tr st ko ef) = ZZ k (M c e false v w nx fr inp tr (st + 1) ko ef) :=
 zBW zEO (zEV rfl (by rw [zCq rfl]; rfl))
theorem go_unp {q : Str} {h : Hd} {e2 : Env} {m : Int} : ZZ (k + 1) (M c e false v ev nx (fr ++ [.prompt q (z8 h) e2 m]) inp tr st ko ef) = ZZ k (M (zAK [120]) (.cons [120] v e2) true v (z7 1 ev) nx fr inp tr (st + 1) ko ef) :=
 zBW zEO (zEV rfl (by rw [zCq rfl]; rfl))
theorem go_put {a : Cd} {az : List Ca} (hb : (M (Z3 a az) e true v ev nx fr inp tr (st + 1) ko ef).bnd = true) : ZZ (k + 1) (M (Z3 a az) e true v ev nx fr inp tr st ko ef) = ZZ k (M a e true v (.cons [69] (nx + 1) az e ev) (nx + 1) (fr ++ [.prompt [69] az e (nx + 1)]) inp tr (st + 1) ko ef) :=
 zBW zBE (zBx rfl (by
  show (if (M (Z3 a az) e true v ev nx fr inp tr (st + 1) ko ef).bnd = true then _ else none) = _
  rw [if_pos hb]; rfl))
theorem go_kont {l : List Fm} {w : Vl} {t : Mc} (hk : zAV [107] e = some (zAR l)) (hw : zAV [100] e = some w) (hl : l ≠ []) (hp : ZU (M Zd e true v ev nx fr inp tr (st + 1) ko ef) l = some t) : ZZ (k + 1) (M Zd e true v ev nx fr inp tr st ko ef) = ZZ k (t.has w) :=
 zBW zBE (zBx rfl (by
  have ha : Zt [zAK [107], zAK [100]] e = some (some [zAR l, w]) := by
   simp only [Zt, show ∀ s, Zp (zAK s) e = some (zAV s e) from fun s => rfl, hk, hw]
  show (match Zt [zAK [107], zAK [100]] e with | none => none | some none => some (M Zd e true v ev nx fr inp tr (st + 1) ko ef, false) | some (some l) => appK (M Zd e true v ev nx fr inp tr (st + 1) ko ef) Zd l) = _
  rw [ha]
  show zCC (M Zd e true v ev nx fr inp tr (st + 1) ko ef) (zAR l) w = _
  unfold zCC
  show (if l = [] then some (M Zd e true v ev nx fr inp tr (st + 1) ko ef, false) else match ZU (M Zd e true v ev nx fr inp tr (st + 1) ko ef) l with | none => none | some t => some (t.has w, true)) = _
  rw [if_neg hl, hp]))
end
theorem yield_tail {e eH : Env} {v : Vl} {o : Ev} {nx km : Int} {fr : List Fm} {st ko : Int} {B : Cd} (hb : (M Z7 e true v (.cons [69] km [zAX, ⟨Zf, [[117]], true, B⟩] eH o) nx fr [] [] st ko E18).bnd = true) :
  Zo (M Z7 e true v (.cons [69] km [zAX, ⟨Zf, [[117]], true, B⟩] eH o) nx fr [] [] st ko E18) Zf ZS = some (M B (.cons [117] ZS eH) true v o nx (fr ++ [.restore (.cons [69] km [zAX, ⟨Zf, [[117]], true, B⟩] eH o) 1]) [] [] st ko E18, true) := by
 unfold Zo
 show (if (M Z7 e true v (.cons [69] km [zAX, ⟨Zf, [[117]], true, B⟩] eH o) nx fr [] [] st ko E18).bnd = true then _ else none) = _
 rw [if_pos hb]
 show some (M B (.cons [117] ZS eH) true v o nx (fr ++ [.restore (.cons [69] km [zAX, ⟨Zf, [[117]], true, B⟩] eH o) (((o.len + 1 : Nat) : Int) - (o.len : Int))]) [] [] st ko E18, true) = _
 rw [show ((o.len + 1 : Nat) : Int) - (o.len : Int) = 1 by omega]
theorem yield_kont {e eH : Env} {v : Vl} {o : Ev} {nx km : Int} {fr : List Fm} {st ko : Int} {B : Cd} {n : Nat} (hb : (M Z7 e true v (.cons [69] km [zAX, ⟨Zf, [[117], [107]], false, B⟩] eH o) nx fr [] [] st ko E18).bnd = true) (ha : atF km fr fr.length = some n) :
  Zo (M Z7 e true v (.cons [69] km [zAX, ⟨Zf, [[117], [107]], false, B⟩] eH o) nx fr [] [] st ko E18) Zf ZS = some (M B (.cons [107] (zAR (fr.drop n)) (.cons [117] ZS eH)) true v o nx (fr.take n) [] [] st (ko + 1) E18, true) := by
 unfold Zo
 show (if (M Z7 e true v (.cons [69] km [zAX, ⟨Zf, [[117], [107]], false, B⟩] eH o) nx fr [] [] st ko E18).bnd = true then (match atF km fr fr.length with | none => _ | some n => _) else none) = _
 rw [if_pos hb, ha]; rfl
theorem opadd_go {e : Env} {v : Vl} {ev : Ev} {nx : Int} {fr : List Fm} {st ko : Int} {a x : Int} {k : Nat} (hf : zAV [98] e = some (Zg a)) : ZZ (k + 1) (M (ZO x) e true v ev nx fr [] [] st ko E18) = ZZ k (M (ZO x) e false (Zg (IntKind.i64.wrap (a + x))) ev nx fr [] [] (st + 1) ko E18) := by
 have ha : Zt [zAK [98], zAi x] e = some (some [Zg a, Zg x]) := by
  simp only [Zt, show ∀ s, Zp (zAK s) e = some (zAV s e) from fun s => rfl, show Zp (zAi x) e = some (some (Zg x)) from rfl, hf]
 exact go_op (by simp) ha rfl
theorem zEQ : ∀ hs : List Hd, Ze hs ≤ hs.length
 | [] => Nat.le_refl _
 | h :: r => by
  have := zEQ r
  simp only [Ze, List.length_cons]
  split <;> split <;> omega
theorem ask_run : ∀ (hs : List Hd) (A : List AF) (F : List Fm) (ev : Ev) (nx ko st : Int) (e : Env) (v : Vl), CF .nil A F ev → EvH ev hs → hs ≠ [] → zDl hs → Mk F nx → 0 ≤ nx → A.length + 3 * hs.length ≤ 1000 → nx + 1000 * hs.length ≤ 50000 → 0 ≤ ko → ko + hs.length ≤ 1000 →
  ∃ F' ev' nx' st' c' e' j, j ≤ 12 * hs.length ∧ ReachM (M Z7 e true v ev nx F [] [] st ko E18) (M c' e' false (Zg (zBF hs)) ev' nx' F' [] [] st' (ko + (Ze hs : Int)) E18) j ∧ CF .nil A F' ev' ∧ Mk F' nx' ∧ nx ≤ nx' ∧ nx' ≤ nx + 1000 * hs.length
 | [], _, _, _, _, _, _, _, _, _, _, h, _, _, _, _, _, _, _ => absurd rfl h
 | h :: r, A, F, ev, nx, ko, st, e, v, hc, hv, _, hcl, hm, h0, hA, hnx, hko0, hko => by
  cases ev with
  | nil => exact absurd hv (by simp [EvH])
  | cons q km l eH o =>
   simp only [EvH] at hv
   obtain ⟨rfl, rfl, rfl, ho⟩ := hv
   simp only [List.length_cons] at hA hnx hko
   have hF := hc.len
   have hE := hc.evlen
   simp only [Ev.len] at hE
   have hb : (M Z7 e true v (.cons [69] km (z8 h) .nil o) nx F [] [] (st + 1) ko E18).bnd = true := zDN (by omega) (by simp only [Ev.len]; omega) (by omega) (by simp) (by omega)
   have first : ∀ (A1 : List AF) (F1 : List Fm) (nx1 ko1 st1 : Int) (e1 : Env) (v1 : Vl), CF .nil A1 F1 o → Mk F1 nx1 → 0 ≤ nx1 → A1.length + 3 * r.length ≤ 1000 → nx1 + 1000 * r.length ≤ 50000 → 0 ≤ ko1 → ko1 + r.length ≤ 1000 →
     ∃ F' ev' nx' st' c' e' j, j ≤ 12 * r.length + 1 ∧ ReachM (M (ZK h.more) e1 true v1 o nx1 F1 [] [] st1 ko1 E18) (M c' e' false (Zg (if h.more then zBF r else 0)) ev' nx' F' [] [] st' (ko1 + ((if h.more then Ze r else 0 : Nat) : Int)) E18) j ∧ CF .nil A1 F' ev' ∧ Mk F' nx' ∧ nx1 ≤ nx' ∧ nx' ≤ nx1 + 1000 * r.length := by
    intro A1 F1 nx1 ko1 st1 e1 v1 hc1 hm1 h01 hA1 hn1 hk1 hk2
    cases hmm : h.more with
    | true =>
     obtain ⟨F', ev', nx', st', c', e', j, g1, g2, g3, g4, g5, g6⟩ := ask_run r A1 F1 o nx1 ko1 st1 e1 v1 hc1 ho (hcl.1 hmm) hcl.2 hm1 h01 hA1 hn1 hk1 hk2
     exact ⟨F', ev', nx', st', c', e', j, by omega, by simpa [ZK] using g2, g3, g4, g5, g6⟩
    | false =>
     refine ⟨F1, o, nx1, st1 + 1, zAi 0, e1, 1, by omega, ?_, hc1, hm1, Int.le_refl _, by omega⟩
     intro k
     show ZZ (k + 1) (M (zAi 0) e1 true v1 o nx1 F1 [] [] st1 ko1 E18) = ZZ k (M (zAi 0) e1 false (Zg 0) o nx1 F1 [] [] (st1 + 1) (ko1 + 0) E18)
     rw [Int.add_zero]; exact go_atom (by decide) rfl
   cases ht : h.tail with
   | true =>
    have harm : z8 h = [zAX, ⟨Zf, [[117]], true, z5 [98] (ZK h.more) (ZO h.x)⟩] := by simp [z8, zDB, ht]
    have hy : Zo (M Z7 e true v (.cons [69] km (z8 h) .nil o) nx F [] [] (st + 1) ko E18) Zf ZS = some (M (z5 [98] (ZK h.more) (ZO h.x)) (.cons [117] ZS .nil) true v o nx (F ++ [.restore (.cons [69] km (z8 h) .nil o) 1]) [] [] (st + 1) ko E18, true) := by
     rw [harm] at hb ⊢; exact yield_tail hb
    have c1 : CF .nil (A ++ [.R]) (F ++ [.restore (.cons [69] km (z8 h) .nil o) 1]) o := hc.app (.R .nil)
    have c2 := c1.app (.B (x := [98]) (c := ZO h.x) (e := .cons [117] ZS .nil) .nil)
    obtain ⟨F', ev', nx', st', c', e', j, g1, g2, g3, g4, g5, g6⟩ := first _ _ nx ko (st + 1 + 1) (.cons [117] ZS .nil) v c2 ((hm.restore _ _).bound _ _ _ _) h0 (by simp; omega) (by omega) hko0 (by omega)
    obtain ⟨F1, F2, v1, rfl, d1, d2⟩ := CF.split g3
    cases d2 with
    | B d3 =>
     cases d3
     obtain ⟨F3, F4, v2, rfl, d4, d5⟩ := CF.split d1
     cases d5 with
     | R d6 =>
      cases d6
      refine ⟨F3, v2, nx', st' + 1 + 1 + 1, ZO h.x, .cons [98] (Zg (if h.more = true then zBF r else 0)) (.cons [117] ZS .nil), j + 5, by simp only [List.length_cons]; omega, ?_, d4, g4.left.left, g5, by simp only [List.length_cons]; omega⟩
      intro k
      have hb2 : (M (z5 [98] (ZK h.more) (ZO h.x)) (.cons [117] ZS .nil) true v o nx (F ++ [.restore (.cons [69] km (z8 h) .nil o) 1]) [] [] (st + 1 + 1) ko E18).bnd = true := zDN (by simp; omega) (by omega) (by omega) (by simp) (by omega)
      rw [show k + (j + 5) = k + 1 + 1 + 1 + j + 1 + 1 by omega, go_yield hy, go_bind hb2, g2, go_pop, opadd_go rfl, go_res]
      have hk9 : (Ze (h :: r) : Int) = ((if h.more = true then Ze r else 0 : Nat) : Int) := by simp [Ze, ht]
      have hv9 : zBF (h :: r) = IntKind.i64.wrap ((if h.more = true then zBF r else 0) + h.x) := rfl
      rw [hk9, hv9]
   | false =>
    have harm : z8 h = [zAX, ⟨Zf, [[117], [107]], false, z5 [98] (ZK h.more) (z5 [100] (ZO h.x) Zd)⟩] := by simp [z8, zDB, ht]
    obtain ⟨A0, AX, F0, X, hh, rfl, rfl, d1, d2, _, hl9, _⟩ := CF.find A F _ 0 _ _ _ _ _ hc rfl
    have hnk : km ∉ Z1 X := by
     have := hm.nd
     rw [ZX, Z1, List.nodup_append] at this
     exact (List.nodup_cons.1 this.2.1).1
    have hat : atF km (F0 ++ .prompt [69] (z8 h) .nil km :: X) (F0 ++ .prompt [69] (z8 h) .nil km :: X).length = some F0.length := by
     rw [show (F0 ++ Fm.prompt [69] (z8 h) .nil km :: X).length = F0.length + 1 + X.length by simp; omega]
     exact atF_skip (d2.ok hnk) _ (Nat.le_refl _)
    have hy : Zo (M Z7 e true v (.cons [69] km (z8 h) .nil o) nx (F0 ++ .prompt [69] (z8 h) .nil km :: X) [] [] (st + 1) ko E18) Zf ZS =
      some (M (z5 [98] (ZK h.more) (z5 [100] (ZO h.x) Zd)) (.cons [107] (zAR (.prompt [69] (z8 h) .nil km :: X)) (.cons [117] ZS .nil)) true v o nx F0 [] [] (st + 1) (ko + 1) E18, true) := by
     have h9 := yield_kont (e := e) (eH := .nil) (v := v) (o := o) (nx := nx) (km := km) (fr := F0 ++ .prompt [69] (z8 h) .nil km :: X) (st := st + 1) (ko := ko) (B := z5 [98] (ZK h.more) (z5 [100] (ZO h.x) Zd)) (n := F0.length) (by rw [← harm]; exact hb) hat
     rw [← harm, List.drop_left, List.take_left] at h9; exact h9
    have hln : A0.length + (AX.length + 1) + 3 * (r.length + 1) ≤ 1000 := by simp only [List.length_append, List.length_cons] at hA; omega
    obtain ⟨K, hK⟩ : ∃ K, zAR (.prompt [69] (z8 h) .nil km :: X) = K := ⟨_, rfl⟩
    rw [hK] at hy
    have d1l := d1.len; have d1e := d1.evlen
    simp only [Ev.len] at d1e
    have c2 := d1.app (.B (x := [98]) (c := z5 [100] (ZO h.x) Zd) (e := .cons [107] K (.cons [117] ZS .nil)) .nil)
    obtain ⟨F', ev', nx', st', c', e', j, g1, g2, g3, g4, g5, g6⟩ := first _ _ nx (ko + 1) (st + 1 + 1) (.cons [107] K (.cons [117] ZS .nil)) v c2 (hm.left.bound _ _ _ _) h0 (by simp; omega) (by omega) (by omega) (by omega)
    obtain ⟨F1, F2, v1, rfl, q1, q2⟩ := CF.split g3
    cases q2 with
    | B q3 =>
     cases q3
     have q1l := q1.len; have q1e := q1.evlen
     simp only [Ev.len] at q1e
     have cX : CF o (.P hh :: AX) (.prompt [69] (z8 h) .nil km :: X) (.cons [69] km (z8 h) .nil o) := by rw [hl9] at d2 ⊢; exact .P d2
     obtain ⟨val, hval⟩ : ∃ val, (if h.more = true then zBF r else 0) = val := ⟨_, rfl⟩
     rw [hval] at g2
     obtain ⟨w, hw⟩ : ∃ w, IntKind.i64.wrap (val + h.x) = w := ⟨_, rfl⟩
     obtain ⟨e3, he3⟩ : ∃ e3, Env.cons [98] (Zg val) (.cons [107] K (.cons [117] ZS .nil)) = e3 := ⟨_, rfl⟩
     obtain ⟨Y, ev2, nx2, p1, p2, p3, p4, p5⟩ := push_CF cX (c := Zd) (e := .cons [100] (Zg w) e3) (a := true) (v := Zg w) (st := st' + 1 + 1 + 1 + 1 + 1) (ko := ko + 1 + ((if h.more = true then Ze r else 0 : Nat) : Int)) (ef := E18) ev' nx' F1 g4.left (by omega) (by simp only [List.length_cons]; omega) (by simp only [List.length_cons]; omega) (by simp only [List.length_cons]; omega) (by
      refine ⟨by omega, ?_⟩
      have : Ze r ≤ r.length := zEQ r
      split <;> omega)
     have hkn : (0 : Int) ≤ ko + 1 + ((if h.more = true then Ze r else 0 : Nat) : Int) ∧ ko + 1 + ((if h.more = true then Ze r else 0 : Nat) : Int) ≤ 100000 := by
      refine ⟨by omega, ?_⟩
      have : Ze r ≤ r.length := zEQ r
      split <;> omega
     refine ⟨F1 ++ Y, ev2, nx2, st' + 1 + 1 + 1 + 1 + 1, Zd, .cons [100] (Zg w) e3, j + 7, by simp only [List.length_cons]; omega, ?_, q1.app p2, p3, by omega, by simp only [List.length_cons] at p5 ⊢; omega⟩
     intro k
     have hb2 : (M (z5 [98] (ZK h.more) (z5 [100] (ZO h.x) Zd)) (.cons [107] K (.cons [117] ZS .nil)) true v o nx F0 [] [] (st + 1 + 1) (ko + 1) E18).bnd = true := zDN (by omega) (by omega) (by omega) (by simp) (by omega)
     have hb3 : (M (z5 [100] (ZO h.x) Zd) e3 true (Zg val) ev' nx' F1 [] [] (st' + 1 + 1) (ko + 1 + ((if h.more = true then Ze r else 0 : Nat) : Int)) E18).bnd = true := zDN (by omega) (by omega) (by omega) (by simp) (by omega)
     have hop := opadd_go (e := e3) (v := Zg val) (ev := ev') (nx := nx') (fr := F1 ++ [.bound false [100] Zd e3]) (st := st' + 1 + 1) (ko := ko + 1 + ((if h.more = true then Ze r else 0 : Nat) : Int)) (a := val) (x := h.x) (k := k + 1 + 1) (by rw [← he3]; rfl)
     rw [hw] at hop
     rw [show k + (j + 7) = k + 1 + 1 + 1 + 1 + 1 + j + 1 + 1 by omega, go_yield hy, go_bind hb2, g2, go_pop, he3, go_bind hb3, hop, go_pop, go_kont (w := Zg w) (by rw [← he3, ← hK]; rfl) rfl (by simp) p1]
     have hk9 : ko + 1 + ((if h.more = true then Ze r else 0 : Nat) : Int) = ko + (Ze (h :: r) : Int) := by simp [Ze, ht]; omega
     have hv9 : zBF (h :: r) = w := by rw [← hw, ← hval]; rfl
     rw [hk9, hv9]; rfl
def allP : List Hd → List AF
 | [] => []
 | h :: hs => allP hs ++ [.P h]
theorem zEF : ∀ hs, (allP hs).length = hs.length
 | [] => rfl
 | h :: hs => by simp [allP, zEF hs]
theorem put_run : ∀ (hs : List Hd) (c : Cd) (v : Vl) (st : Int), hs.length ≤ 100 → ∃ fr ev, ReachM (M (zAG hs c) .nil true v .nil 0 [] [] [] st 0 E18) (M c .nil true v ev hs.length fr [] [] (st + hs.length) 0 E18) hs.length ∧ CF .nil (allP hs) fr ev ∧ EvH ev hs ∧ Mk fr hs.length
 | [], c, v, st, _ => ⟨[], .nil, by rw [show st + (([] : List Hd).length : Int) = st by simp]; exact ReachM.refl _, .nil, trivial, ⟨List.nodup_nil, fun k hk => by cases hk⟩⟩
 | h :: hs, c, v, st, hl => by
  simp only [List.length_cons] at hl
  obtain ⟨fr, ev, g1, g2, g3, g4⟩ := put_run hs (Z3 c (z8 h)) v st (by omega)
  have hF := g2.len; have hE := g2.evlen
  rw [zEF] at hF hE
  simp only [Ev.len] at hE
  refine ⟨fr ++ [.prompt [69] (z8 h) .nil ((hs.length : Int) + 1)], .cons [69] ((hs.length : Int) + 1) (z8 h) .nil ev, ?_, g2.app (.P .nil), ⟨rfl, rfl, rfl, g3⟩, by simpa using g4.prompt _ _ _⟩
  intro k
  rw [zAG, List.length_cons, show k + (hs.length + 1) = k + 1 + hs.length by omega, g1, go_put (zDN (by omega) (by omega) (by omega) (by simp) (by omega))]
  rw [show ((hs.length + 1 : Nat) : Int) = (hs.length : Int) + 1 by omega, Int.add_assoc]
theorem unp_run : ∀ (hs : List Hd) (fr : List Fm) (ev : Ev) (nx ko st : Int) (c : Cd) (e : Env) (w : Vl), CF .nil (allP hs) fr ev → ∃ c' e' ev' st', ReachM (M c e false w ev nx fr [] [] st ko E18) (M c' e' false w ev' nx [] [] [] st' ko E18) (2 * hs.length)
 | [], fr, ev, nx, ko, st, c, e, w, h => by cases h; exact ⟨c, e, .nil, st, ReachM.refl _⟩
 | h :: hs, fr, ev, nx, ko, st, c, e, w, hc => by
  obtain ⟨F1, F2, v1, rfl, g1, g2⟩ := CF.split hc
  cases g2 with
  | P g3 =>
   cases g3
   obtain ⟨c', e', ev', st', r⟩ := unp_run hs F1 v1 nx ko (st + 1 + 1) (zAK [120]) (.cons [120] w .nil) w g1
   refine ⟨c', e', ev', st', fun k => ?_⟩
   rw [List.length_cons, show k + 2 * (hs.length + 1) = k + 2 * hs.length + 1 + 1 by omega, go_unp, go_atom (w := w) (by decide) rfl]
   exact r k
theorem arm_right (h : Hd) : zAL 15 1 (zDB h) = true ∧ z3 (zDB h).body = true := by
 have hf : z3 (ZK h.more) = true := by cases h.more <;> decide
 have hb : z3 (ZO h.x) = true := rfl
 cases ht : h.tail with
 | true => rw [show zDB h = ⟨Zf, [[117]], true, z5 [98] (ZK h.more) (ZO h.x)⟩ by simp [zDB, ht]]; exact ⟨rfl, zBg (by decide) hf hb⟩
 | false => rw [show zDB h = ⟨Zf, [[117], [107]], false, z5 [98] (ZK h.more) (z5 [100] (ZO h.x) Zd)⟩ by simp [zDB, ht]]; exact ⟨rfl, zBg (by decide) hf (zBg (by decide) hb (by decide))⟩
theorem zEe : ∀ (hs : List Hd) (c : Cd), z3 c = true → z3 (zAG hs c) = true
 | [], c, h => h
 | h :: hs, c, hc => by
  rw [zAG]; refine zEe hs _ ?_
  obtain ⟨h1, h2⟩ := arm_right h
  rw [Z3, zDx]
  simp [zCf, zAd, Cd.kind, Cd.kids, Cd.arms, Cd.name, Cd.param, Cd.n, hc, h2, zAI, h1, z8]
  decide
theorem nests_law {hs : List Hd} (hne : hs ≠ []) (hcl : zDl hs) (hl : hs.length ≤ 10) : ∃ n, runR (zAG hs Z7) efs [] 1500 = some ⟨1, 1, zBF hs, [], [], n, Ze hs⟩ := by
 obtain ⟨fr, ev, g1, g2, g3, g4⟩ := put_run hs Z7 Zr 0 (by omega)
 obtain ⟨F', ev', nx', st', c', e', j, p1, p2, p3, p4, p5, p6⟩ := ask_run hs (allP hs) fr ev hs.length 0 (0 + hs.length) .nil Zr g2 g3 hne hcl g4 (by omega) (by rw [zEF]; omega) (by omega) (by omega) (by omega)
 obtain ⟨c2, e2, ev2, st2, q⟩ := unp_run hs F' ev' nx' (0 + (Ze hs : Int)) st' c' e' (Zg (zBF hs)) p3
 refine ⟨st2, runR_of (zEe hs Z7 (by decide)) (sF := M c2 e2 false (Zg (zBF hs)) ev2 nx' [] [] [] st2 (0 + (Ze hs : Int)) E18) ?_ (by rw [Int.zero_add]; rfl)⟩
 obtain ⟨k, hk⟩ : ∃ k, 1500 = k + 2 * hs.length + j + hs.length := ⟨1500 - (2 * hs.length + j + hs.length), by omega⟩
 show ZZ 1500 (M (zAG hs Z7) .nil true Zr .nil 0 [] [] [] 0 0 E18) = _
 rw [hk, g1, p2, q, run_done rfl]
def zEb (p : Int × Nat × Bool) (h : Hd) : Int × Nat × Bool := (if p.2.2 then IntKind.i64.wrap (p.1 + h.x) else p.1, if p.2.2 && !h.tail then p.2.1 + 1 else p.2.1, p.2.2 && h.more)
theorem foldN_off : ∀ (hs : List Hd) (w : Int) (k : Nat), hs.foldl zEb (w, k, false) = (w, k, false)
 | [], w, k => rfl
 | h :: hs, w, k => by rw [List.foldl_cons]; exact foldN_off hs w k
theorem foldN : ∀ (hs : List Hd) (w : Int) (k : Nat), IntKind.i64.wrap w = w → (hs.foldl zEb (w, k, true)).1 = IntKind.i64.wrap (w + zBF hs) ∧ (hs.foldl zEb (w, k, true)).2.1 = k + Ze hs
 | [], w, k, hw => by simp [zBF, Ze, hw]
 | h :: hs, w, k, hw => by
  rw [List.foldl_cons, show zEb (w, k, true) h = (IntKind.i64.wrap (w + h.x), if !h.tail then k + 1 else k, h.more) from rfl]
  cases hm : h.more with
  | true =>
   obtain ⟨g1, g2⟩ := foldN hs (IntKind.i64.wrap (w + h.x)) (if !h.tail then k + 1 else k) (by have := wrap_wl (w + h.x) 0; simpa using this)
   refine ⟨?_, ?_⟩
   ·rw [g1, wrap_wl, zBF, hm, if_pos rfl, wrap_wr]; congr 1; omega
   ·rw [g2, Ze, hm, if_pos rfl]; cases h.tail <;> simp <;> omega
  | false =>
   rw [foldN_off]
   refine ⟨?_, ?_⟩
   ·show IntKind.i64.wrap (w + h.x) = _; rw [zBF, hm, if_neg (by decide), wrap_wr]; congr 1; omega
   ·show (if !h.tail then k + 1 else k) = _; rw [Ze, hm]; cases h.tail <;> simp
theorem wantN (hs : List Hd) : (hs.foldl zEb (0, 0, true)).1 = zBF hs ∧ (hs.foldl zEb (0, 0, true)).2.1 = Ze hs := by
 obtain ⟨g1, g2⟩ := foldN hs 0 0 rfl
 refine ⟨?_, by rw [g2]; omega⟩
 rw [g1, Int.zero_add]
 cases hs with
 | nil => rfl
 | cons h r => rw [zBF]; have := wrap_wl ((if h.more then zBF r else 0) + h.x) 0; simpa using this
theorem nest_snoc : ∀ (hs : List Hd) (h : Hd) (c : Cd), zAG (hs ++ [h]) c = Z3 (zAG hs c) (z8 h)
 | [], h, c => rfl
 | h' :: hs, h, c => by rw [List.cons_append, zAG, zAG]; exact nest_snoc hs h _
abbrev Bools (m : Mem) (o : Option Addr) (n c : Nat) (l : List Bool) : Prop := Sl (fun _ vs (x : Bool) => vs = [Value.bool x]) 1 m o n c l
theorem Bools.mono {m m' : Mem} {o : Option Addr} {n c : Nat} {l : List Bool} (h : Bools m o n c l) (hm : MLe m m') : Bools m' o n c l := Sl.mono h (fun _ _ e => e) hm
theorem zDc {m : Mem} {o : Option Addr} {n c : Nat} {l : List Bool} {y : Nat} (h : Bools m o n c l) (hy : y < l.length) : ∃ p, o = some p ∧ CellsAt m (p.add (y * 1)) [.bool (l[y]?.getD false)] := by
 obtain ⟨p, vs, e1, e2, _, e3⟩ := h.at_ y _ (List.getElem?_eq_getElem hy)
 subst e3
 exact ⟨p, e1, by rw [List.getElem?_eq_getElem hy]; exact e2⟩
def hdN (l : List Int) (a b : List Bool) (n i : Nat) : Hd := ⟨l[i]?.getD 0, a[i]?.getD false && decide (i + 1 < n), b[i]?.getD false⟩
def hsN (l : List Int) (a b : List Bool) (n k : Nat) : List Hd := (List.range k).map (hdN l a b n)
theorem hsN_succ (l : List Int) (a b : List Bool) (n k : Nat) : hsN l a b n (k + 1) = hsN l a b n k ++ [hdN l a b n k] := by simp [hsN, List.range_succ]
theorem zDW (l : List Int) (a b : List Bool) (n k : Nat) : (hsN l a b n k).length = k := by simp [hsN]
theorem closed_of : ∀ hs : List Hd, (∀ i h, hs[i]? = some h → h.more = true → i + 1 < hs.length) → zDl hs
 | [], _ => trivial
 | h :: r, hh => ⟨fun hm => by have := hh 0 h rfl hm; intro e; subst e; simp at this, closed_of r fun i h' hi hm => by have := hh (i + 1) h' (by simpa using hi) hm; simp at this; omega⟩
theorem hsN_closed (l : List Int) (a b : List Bool) (n : Nat) : zDl (hsN l a b n n) := closed_of _ fun i h hi hm => by
 rw [zDW]
 have hil : i < n := by have := (List.getElem?_eq_some_iff.1 hi).1; rwa [zDW] at this
 simp only [hsN, List.getElem?_map, List.getElem?_range hil, Option.map_some, Option.some.injEq] at hi
 subst hi
 simp only [hdN, Bool.and_eq_true, decide_eq_true_eq] at hm
 exact hm.2
theorem more_eq (l : List Int) (a b : List Bool) (n y : Nat) : (decide ((y : Int) < (a.length : Int)) && a[y]?.getD false && decide ((y : Int) < (n : Int) - 1)) = (hdN l a b n y).more := by
 by_cases h : y < a.length
 ·have h1 : ((y : Int) < (a.length : Int)) := by omega
  have h2 : ((y : Int) < (n : Int) - 1) ↔ y + 1 < n := by omega
  simp only [hdN, h1, decide_true, Bool.true_and]; congr 1; exact decide_eq_decide.2 h2
 ·have h1 : ¬ ((y : Int) < (a.length : Int)) := by omega
  simp [hdN, h1, List.getElem?_eq_none (show a.length ≤ y by omega)]
theorem tail_eq (l : List Int) (a b : List Bool) (n y : Nat) : (decide ((y : Int) < (b.length : Int)) && b[y]?.getD false) = (hdN l a b n y).tail := by
 by_cases h : y < b.length
 ·have h1 : ((y : Int) < (b.length : Int)) := by omega
  simp [hdN, h1]
 ·have h1 : ¬ ((y : Int) < (b.length : Int)) := by omega
  simp [hdN, h1, List.getElem?_eq_none (show b.length ≤ y by omega)]
end Go.Proofs.Ytnppknioifgdfaa
namespace Go.Proofs.Ytnppknioifgdfaa
open Go.Proofs.Try
set_option linter.all false
set_option maxRecDepth 4000
open Go.RowKit
set_option maxHeartbeats 12800000 in
theorem zDi {w : World} {m : Mem} {o_l : Option Addr} {c_l : Nat} {l : List Int} {o_a : Option Addr} {c_a : Nat} {a : List Bool} {o_b : Option Addr} {c_b : Nat} {b : List Bool} (hA : Agree w m) (h_l : Ints m o_l l.length c_l l) (h_a : Bools m o_a a.length c_a a) (h_b : Bools m o_b b.length c_b b) (hi : ∀ x ∈ l, zq x) : FnV Try.prog 9 #[.slice o_l l.length c_l, .slice o_a a.length c_a, .slice o_b b.length c_b] w m (fun _ _ v => v = .bool true) := by
 have hb_l := h_l.big; have hc_l := h_l.cap
 have hb_a := h_a.big; have hc_a := h_a.cap
 have hb_b := h_b.big; have hc_b := h_b.cap
 refine zZ (vs := [_, _, _]) func9 rfl rfl rfl fun a0 hfr0 => ?_
 have hst0 := zV hA (zi [] _ w m)
 have hM : MLe m m := MLe.refl m
 refine zB fun _ hK1 => ?_
 refine rp0 hst0 hfr0 (.cons rfl (zD rfl) <| .nil) fun a1 w1 m1 hst1 hle1 hk1 => ?_
 have hfr1 := hk1.fr (.o 0 <| .o 1 <| .o 2 <| .nil)
 replace h_l := h_l.mono hle1
 replace h_a := h_a.mono hle1
 replace h_b := h_b.mono hle1
 clear hst0 hfr0 hk1
 refine hK1 _ _ ?_
 refine zB fun _ hK2 => ?_
 refine rp0 hst1 hfr1 (.cons rfl (za rfl (.nil) call12 (fun w m hK => by have hle_ := KC.le hK; have hA := KC.agree hK; exact shown_c hA)) <| .cons rfl (zD rfl) <| .nil) fun a2 w2 m2 hst2 hle2 hk2 => ?_
 have hfr2 := hk2.fr (.o 0 <| .o 1 <| .o 2 <| .n 7 <| .nil)
 replace h_l := h_l.mono hle2
 replace h_a := h_a.mono hle2
 replace h_b := h_b.mono hle2
 clear hst1 hfr1 hk2
 refine hK2 _ _ ?_
 refine zB fun _ hK3 => ?_
 refine rp0 hst2 hfr2 (.cons rfl (zC rfl) <| .cons rfl (zo rfl underlying26) <| .cons rfl (ob_min2 rfl rfl) <| .cons rfl (zD rfl) <| .nil) fun a3 w3 m3 hst3 hle3 hk3 => ?_
 have hfr3 := hk3.fr (.o 0 <| .o 1 <| .o 2 <| .o 7 <| .n 8 <| .nil)
 replace h_l := h_l.mono hle3
 replace h_a := h_a.mono hle3
 replace h_b := h_b.mono hle3
 clear hst2 hfr2 hk3
 rw [show (if (10 : Int) < (l.length : Int) then (10 : Int) else (l.length : Int)) = ((min l.length 10 : Nat) : Int) by split <;> omega] at hfr3
 obtain ⟨n9, hn9⟩ : ∃ n, min l.length 10 = n := ⟨_, rfl⟩
 rw [hn9] at hfr3
 have hnl9 : n9 ≤ l.length := by omega
 have hnb9 : n9 ≤ 10 := by omega
 refine hK3 _ _ ?_
 refine zB fun _ hK4 => ?_
 refine zB fun _ hK5 => ?_
 refine rp0 hst3 hfr3 (.cons rfl (zC rfl) <| .cons rfl (zS rfl rfl) <| .nil) fun a4 w4 m4 hst4 hle4 hk4 => ?_
 have hfr4 := hk4.fr (.o 0 <| .o 1 <| .o 2 <| .o 7 <| .o 8 <| .n 27 <| .nil)
 replace h_l := h_l.mono hle4
 replace h_a := h_a.mono hle4
 replace h_b := h_b.mono hle4
 clear hst3 hfr3 hk4
 refine hK5 _ _ ?_
 refine zE hfr4 rfl rfl (fun hb27 => ?_) (fun hb27 => ?_)
 ·try simp only [nqs] at hb27
  refine zB fun _ hK6 => ?_
  refine rp0 hst4 hfr4 (.cons rfl (zC rfl) <| .cons rfl (zD rfl) <| .nil) fun a5 w5 m5 hst5 hle5 hk5 => ?_
  have hfr5 := hk5.fr (.n 6 <| .nil)
  clear hst4 hfr4 hk5
  refine hK6 _ _ ?_
  refine zN ?_
  repeat (with_reducible first | refine zH ?_ | refine zG ?_)
  exact zO hst5 hfr5 rfl (.tmp rfl <| .nil) (rfl)
 ·try simp only [nqs] at hb27
  have hn0 : 0 < n9 := by omega
  obtain ⟨st9, hrun9⟩ := nests_law (hs := (hsN l a b n9 n9)) (fun e => by have h9 := zDW l a b n9 n9; rw [e] at h9; simp at h9; omega) (hsN_closed l a b n9) (by rw [zDW]; omega)
  refine zR ?_
  refine hK4 _ _ ?_
  refine zB fun _ hK8 => ?_
  refine z2 2 (by kernel_rfl) ?_
  refine zp (tch := []) hst4 hfr4 (by kernel_rfl) (by kernel_rfl) (by kernel_rfl) (.cons rfl (zP (cs := cdV unitC noY) (.cons rfl <| .nil) underlying25 zeroValue25 (.cons sizeOf3 <| .cons sizeOf9 <| .cons sizeOf9 <| .cons sizeOf3 <| .cons sizeOf22 <| .cons sizeOf23 <| .nil) (rfl)) <| .cons rfl (Zs rfl underlying22 sizeOf25 zeroValue25 rfl rfl rfl rfl) <| .nil) fun a5 w5 m5 hst5 hle5 hk5 => ?_
  have hfr5 := hk5.fr (.o 0 <| .o 1 <| .o 2 <| .o 7 <| .o 8 <| .nil)
  obtain ⟨gA, e9, hA9⟩ := hk5.ex 30 rfl
  replace hfr5 := hfr5.cons e9
  clear hst4 hfr4 hk5
  have hask : CdR m5 Z7 (cdV Z7 ⟨some ⟨gA, 0, none⟩, 1, none, 0⟩) := node1_R ⟨by decide, by decide⟩ hA9 unit_R
  replace hst5 := hst5.more (r := .free) trivial List.nodup_nil (by simp [Res.blocks])
  refine zp (tch := [(1, 0, (fun v => .blk v _)), (2, 0, (fun v => .blk v _))]) hst5 hfr5 (by kernel_rfl) (by kernel_rfl) (by kernel_rfl) (.cons rfl (zP (cs := cdV Z7 ⟨some ⟨gA, 0, none⟩, 1, none, 0⟩) (.cons rfl <| .cons rfl <| .cons rfl <| .nil) underlying25 zeroValue25 (.cons sizeOf3 <| .cons sizeOf9 <| .cons sizeOf9 <| .cons sizeOf3 <| .cons sizeOf22 <| .cons sizeOf23 <| .nil) (rfl)) <| .consT rfl rfl (fun _ => rfl) rfl (zQ zeroValue25 rfl) <| .consT rfl rfl (fun _ => rfl) rfl (zd 9 rfl rfl rfl fun y9 => zX rfl rfl rfl rfl rfl sizeOf25 rfl rfl rfl) <| .nil) fun a6 w6 m6 hst6 hle6 hk6 => ?_
  have hfr6 := hk6.fr (.o 0 <| .o 1 <| .o 2 <| .o 7 <| .o 8 <| .o 30 <| .nil)
  obtain ⟨g9, e10, _⟩ := hk6.ex 9 rfl
  replace hfr6 := hfr6.cons e10
  replace hst6 := hst6.fin (L' := [_]) (.cons e10 <| .cons e10 <| .nil)
  try simp only [List.take_succ_cons, List.take_zero, List.drop_succ_cons, List.drop_zero, List.cons_append, List.nil_append, List.append_nil, List.length_cons, List.length_nil, Nat.zero_add, Nat.reduceAdd] at hst6
  clear hst5 hfr5 hk6
  refine hK8 _ _ ?_
  refine zB fun _ hK11 => ?_
  replace hst6 := hst6.more (r := .free) trivial List.nodup_nil (by simp [Res.blocks])
  refine ra0 (tch := [(1, 1, (fun v => .blk v _)), (2, 1, (fun v => .blk v _))]) hst6 hfr6 (.cons rfl (zg (j := 0) rfl rfl isAgg25 sizeOf25 rfl) <| .consT rfl rfl (fun _ => rfl) rfl (zQ zeroValue25 rfl) <| .consT rfl rfl (fun _ => rfl) rfl (zd 10 rfl rfl rfl fun y10 => zX rfl rfl rfl rfl rfl sizeOf25 rfl rfl rfl) <| .nil) fun a7 w7 m7 hst7 hle7 hk7 => ?_
  have hfr7 := hk7.fr (.o 0 <| .o 1 <| .o 2 <| .o 7 <| .o 8 <| .o 9 <| .nil)
  obtain ⟨g10, e12, _⟩ := hk7.ex 10 rfl
  replace hfr7 := hfr7.cons e12
  replace hst7 := hst7.fin (L' := [_, _]) (.cons e12 <| .cons e12 <| .nil)
  try simp only [List.take_succ_cons, List.take_zero, List.drop_succ_cons, List.drop_zero, List.cons_append, List.nil_append, List.append_nil, List.length_cons, List.length_nil, Nat.zero_add, Nat.reduceAdd] at hst7
  clear hst6 hfr6 hk7
  refine hK11 _ _ ?_
  refine zB fun _ hK13 => ?_
  refine rp0 hst7 hfr7 (.cons rfl (zD rfl) <| .nil) fun a8 w8 m8 hst8 hle8 hk8 => ?_
  have hfr8 := hk8.fr (.o 0 <| .o 1 <| .o 2 <| .o 7 <| .o 8 <| .o 9 <| .o 10 <| .n 11 <| .nil)
  clear hst7 hfr7 hk8
  refine hK13 _ _ ?_
  refine zB fun _ hK14 => ?_
  refine rp0 hst8 hfr8 (.cons rfl (zD rfl) <| .nil) fun a9 w9 m9 hst9 hle9 hk9 => ?_
  have hfr9 := hk9.fr (.o 0 <| .o 1 <| .o 2 <| .o 7 <| .o 8 <| .o 9 <| .o 10 <| .o 11 <| .n 12 <| .nil)
  clear hst8 hfr8 hk9
  refine hK14 _ _ ?_
  refine zB fun _ hK15 => ?_
  refine rp0 hst9 hfr9 (.cons rfl (zD rfl) <| .nil) fun a10 w10 m10 hst10 hle10 hk10 => ?_
  have hfr10 := hk10.fr (.o 0 <| .o 1 <| .o 2 <| .o 7 <| .o 8 <| .o 9 <| .o 10 <| .o 11 <| .o 12 <| .n 13 <| .nil)
  clear hst9 hfr9 hk10
  refine hK15 _ _ ?_
  refine zB fun _ hK16 => ?_
  refine zB fun _ hK17 => ?_
  refine rp0 hst10 hfr10 (.cons rfl (zD rfl) <| .nil) fun a11 w11 m11 hst11 hle11 hk11 => ?_
  have hfr11 := hk11.fr (.o 0 <| .o 1 <| .o 2 <| .o 7 <| .o 8 <| .o 9 <| .o 10 <| .o 11 <| .o 12 <| .o 13 <| .n 14 <| .nil)
  clear hst10 hfr10 hk11
  refine hK17 _ _ ?_
  refine zY ?_
  have zq1 := hle10.trans hle11
  have zq2 := hle9.trans zq1
  have zq3 := hle8.trans zq2
  have zq4 := hle7.trans zq3
  have zq5 := hle6.trans zq4
  replace hask := hask.mono zq5
  refine ZC (T := [(0, _), (1, _), (2, _), (7, _), (8, _), (9, _), (10, _)]) (fun (y : Nat × Int × Nat × Bool × Cd × CdY) => ([(11, .int .i64 y.2.1), (12, .int .i64 (y.2.2.1 : Int)), (13, .bool y.2.2.2.1), (14, .int .i64 (y.1 : Int))] : List (Nat × Value))) (fun y => [_, .blk (.pointer (some ⟨g10, 0, none⟩)) (.cells (cdV y.2.2.2.2.1 y.2.2.2.2.2).toArray 25)]) (fun (y : Nat × Int × Nat × Bool × Cd × CdY) m => (fun (y : Nat) (wq : Int) (kq : Nat) (oq : Bool) (cu : Cd) (yc : CdY) => (y ≤ n9) ∧ (cu = zAG (hsN l a b n9 y) Z7) ∧ (CdR m cu (cdV cu yc)) ∧ ((wq, kq, oq) = (hsN l a b n9 y).foldl zEb (0, 0, true)) ∧ (kq ≤ y)) y.1 y.2.1 y.2.2.1 y.2.2.2.1 y.2.2.2.2.1 y.2.2.2.2.2) (fun y => n9 - y.1) ((0, 0, 0, true, Z7, ⟨some ⟨gA, 0, none⟩, 1, none, 0⟩)) ⟨hst11, MLe.refl _, hfr11.sub (.c <| .c <| .c <| .c <| .c <| .c <| .c <| .c <| .c <| .c <| .c <| .nil), ⟨Nat.zero_le _, rfl, hask, rfl, Nat.le_refl _⟩⟩ fun y a12 w12 m12 hh12 => ?_
  have hst12 := hh12.st; have hle12 := hh12.le; have hfr12 := hh12.fr; have hrel := hh12.rel; clear hh12
  clear hst11 hfr11
  obtain ⟨y, wq, kq, oq, cu, yc⟩ := y
  dsimp only at hrel hfr12 hst12
  obtain ⟨hyn, hcu, hcr, hfo, hkq⟩ := hrel
  subst hcu
  have hlh12 := hle12
  refine zB fun _ hK19 => ?_
  refine zB fun _ hK20 => ?_
  refine rp0 hst12 hfr12 (.cons rfl (zC rfl) <| .cons rfl (zC rfl) <| .cons rfl (ZJ rfl rfl) <| .nil) fun a13 w13 m13 hst13 hle13 hk13 => ?_
  have hfr13 := hk13.fr (.o 11 <| .o 12 <| .o 13 <| .o 14 <| .o 0 <| .o 1 <| .o 2 <| .o 7 <| .o 8 <| .o 9 <| .o 10 <| .n 35 <| .nil)
  clear hst12 hfr12 hk13
  refine hK20 _ _ ?_
  refine zE hfr13 rfl rfl (fun hb35 => ?_) (fun hb35 => ?_)
  ·try simp only [nqs] at hb35
   refine zR ?_
   refine hK19 _ _ ?_
   refine zB fun _ hK21 => ?_
   refine zY ?_
   refine zB fun _ hK22 => ?_
   have zq6 := hle12.trans hle13
   have zq7 := zq5.trans zq6
   have zq8 := hle5.trans zq7
   replace h_a := h_a.mono zq8
   refine rp0 hst13 hfr13 (.cons rfl (zC rfl) <| .cons rfl (zC rfl) <| .cons rfl (zo rfl underlying58) <| .cons rfl (ZJ rfl rfl) <| .cons rfl (zC rfl) <| .cons rfl (zC rfl) <| .cons rfl (zC rfl) <| .cons rfl (zF (κ := .eq (.pointer (o_a.map fun p => p.add (y * 1)))) (b := true) 42 rfl rfl (fun h => by obtain ⟨p, rfl, hc⟩ := zDc h_a (show y < a.length by simpa using h); exact zI rfl rfl underlying58 sizeOf4 rfl (by simp at h; omega))) <| .cons rfl (zF (κ := .eq (.bool (a[y]?.getD false))) (b := true) 42 rfl rfl (fun h => by obtain ⟨p, rfl, hc⟩ := zDc h_a (show y < a.length by simpa using h); exact zj rfl hc isAgg4 rfl)) <| .cons rfl (zU rfl rfl rfl) <| .cons rfl (zC rfl) <| .cons rfl (zC rfl) <| .cons rfl (zC rfl) <| .cons rfl (zAp rfl rfl ⟨by omega, by omega⟩) <| .cons rfl (ZJ rfl rfl) <| .cons rfl (zU rfl rfl rfl) <| .cons rfl (zD rfl) <| .nil) fun a14 w14 m14 hst14 hle14 hk14 => ?_
   have hfr14 := hk14.fr (.o 11 <| .o 12 <| .o 13 <| .o 14 <| .o 0 <| .o 1 <| .o 2 <| .o 7 <| .o 8 <| .o 9 <| .o 10 <| .n 15 <| .nil)
   clear hst13 hfr13 hk14
   rw [more_eq l a b] at hfr14
   refine hK22 _ _ ?_
   refine zB fun _ hK23 => ?_
   have zq9 := zq8.trans hle14
   replace h_b := h_b.mono zq9
   refine rp0 hst14 hfr14 (.cons rfl (zC rfl) <| .cons rfl (zC rfl) <| .cons rfl (zo rfl underlying58) <| .cons rfl (ZJ rfl rfl) <| .cons rfl (zC rfl) <| .cons rfl (zC rfl) <| .cons rfl (zC rfl) <| .cons rfl (zF (κ := .eq (.pointer (o_b.map fun p => p.add (y * 1)))) (b := true) 58 rfl rfl (fun h => by obtain ⟨p, rfl, hc⟩ := zDc h_b (show y < b.length by simpa using h); exact zI rfl rfl underlying58 sizeOf4 rfl (by simp at h; omega))) <| .cons rfl (zF (κ := .eq (.bool (b[y]?.getD false))) (b := true) 58 rfl rfl (fun h => by obtain ⟨p, rfl, hc⟩ := zDc h_b (show y < b.length by simpa using h); exact zj rfl hc isAgg4 rfl)) <| .cons rfl (zU rfl rfl rfl) <| .cons rfl (zD rfl) <| .nil) fun a15 w15 m15 hst15 hle15 hk15 => ?_
   have hfr15 := hk15.fr (.o 11 <| .o 12 <| .o 13 <| .o 14 <| .o 0 <| .o 1 <| .o 2 <| .o 7 <| .o 8 <| .o 9 <| .o 10 <| .o 15 <| .n 16 <| .nil)
   clear hst14 hfr14 hk15
   rw [tail_eq l a b n9] at hfr15
   obtain ⟨HY, hHY⟩ : ∃ h, hdN l a b n9 y = h := ⟨_, rfl⟩
   rw [hHY] at hfr15
   refine hK23 _ _ ?_
   refine zB fun _ hK24 => ?_
   replace hst15 := hst15.more (r := .free) trivial List.nodup_nil (by simp [Res.blocks])
   refine ra0 (tch := [(1, 2, (fun v => .blk v _)), (2, 2, (fun v => .blk v _))]) hst15 hfr15 (.cons rfl (za rfl (.cons rfl <| .nil) call19 (fun w m hK => by have hle_ := KC.le hK; have hA := KC.agree hK; exact zDr (n := 0) hA)) <| .consT rfl rfl (fun _ => rfl) rfl (zQ zeroValue25 rfl) <| .consT rfl rfl (fun _ => rfl) rfl (zd 17 rfl rfl rfl fun y17 => zX rfl rfl rfl rfl rfl sizeOf25 rfl rfl rfl) <| .nil) fun a16 w16 m16 hst16 hle16 hk16 => ?_
   have hfr16 := hk16.fr (.o 11 <| .o 12 <| .o 13 <| .o 14 <| .o 0 <| .o 1 <| .o 2 <| .o 7 <| .o 8 <| .o 9 <| .o 10 <| .o 15 <| .o 16 <| .nil)
   obtain ⟨g17, e25, _⟩ := hk16.ex 17 rfl
   replace hfr16 := hfr16.cons e25
   replace hst16 := hst16.fin (L' := [_, _, _]) (.cons e25 <| .cons e25 <| .nil)
   try simp only [List.take_succ_cons, List.take_zero, List.drop_succ_cons, List.drop_zero, List.cons_append, List.nil_append, List.append_nil, List.length_cons, List.length_nil, Nat.zero_add, Nat.reduceAdd] at hst16
   clear hst15 hfr15 hk16
   refine hK24 _ _ ?_
   refine zDv (T := [(11, _), (12, _), (13, _), (14, _), (0, _), (1, _), (2, _), (7, _), (8, _), (9, _), (10, _), (15, _), (16, _), (17, _)]) (fun (y : Cd × CdY) => ([] : List (Nat × Value))) (fun y => [_, _, .blk (.pointer (some ⟨g17, 0, none⟩)) (.cells (cdV y.1 y.2).toArray 25)]) (fun (y : Cd × CdY) m => (fun (fc : Cd) (yf : CdY) => (fc = ZK HY.more) ∧ (CdR m fc (cdV fc yf))) y.1 y.2) (((zAi 0), noY)) ⟨hst16, MLe.refl _, hfr16.sub (.c <| .c <| .c <| .c <| .c <| .c <| .c <| .c <| .c <| .c <| .c <| .c <| .c <| .c <| .nil), trivial⟩ (fun y a17 w17 m17 hh17 => ?_) (fun K26 hj26 => ?_)
   ·have hst17 := hh17.st; have hle17 := hh17.le; have hfr17 := hh17.fr; have hrel := hh17.rel; clear hh17
    clear hst16 hfr16
    obtain ⟨fc, yf⟩ := y
    dsimp only at hrel hfr17 hst17
    obtain ⟨hfc, hfr7⟩ := hrel
    subst hfc
    refine zB fun _ hK27 => ?_
    have zq10 := hle16.trans hle17
    have zq11 := hle15.trans zq10
    have zq12 := zq9.trans zq11
    replace h_l := h_l.mono zq12
    obtain ⟨p28, vs28, x28, ho28, hd28, hm_x28, ht28, hcv28, hl28, hv28⟩ := h_l.nth (k := y) (by omega)
    cases ho28
    subst hv28
    have hhx9 : HY.x = x28 := by rw [← hHY]; show l[y]?.getD 0 = _; rw [zAM hd28]; rfl
    have hxi9 := hi x28 hm_x28
    replace hst17 := hst17.more (r := .free) trivial List.nodup_nil (by simp [Res.blocks])
    refine zb (tch := [(8, 3, (fun v => .blk v _)), (9, 3, (fun v => .blkx v _ _))]) (fun _ => z1) hst17 hfr17 (by kernel_rfl) (by kernel_rfl) (by kernel_rfl) (.cons rfl (za rfl (.cons rfl <| .nil) call18 (fun w m hK => by have hle_ := KC.le hK; have hA := KC.agree hK; exact zAP (s := [98]) hA)) <| .cons rfl (zC rfl) <| .cons rfl (zC rfl) <| .cons rfl (zI (k := y) rfl rfl underlying26 sizeOf3 rfl (by omega)) <| .cons rfl (zj rfl hcv28 isAgg3 rfl) <| .cons rfl (za rfl (.cons rfl <| .nil) call19 (fun w m hK => by have hle_ := KC.le hK; have hA := KC.agree hK; exact zDr (n := x28) hA)) <| .cons rfl (z6 rfl rfl underlying22 sizeOf25 zeroValue25 rfl rfl rfl rfl rfl) <| .cons rfl (Z4 73 rfl rfl rfl fun y73 => za rfl (.cons rfl <| .cons rfl <| .nil) call25 (fun w m hK => by have hle_ := KC.le hK; have hA := KC.agree hK; have hr0_ := hK.2; exact lop_c (s := [43]) (l := [zAK [98], zAi x28]) hA (Sl.two (R := fun m vs t => CdR m t vs) (show CellsAt _ ⟨_, 0, none⟩ ((cdV (zAK [98]) noY) ++ (cdV (zAi x28) noY)) from hr0_) rfl rfl (zDu _) (int_R hxi9)))) <| .consT rfl rfl (fun _ => rfl) rfl (zQ zeroValue25 rfl) <| .consT rfl rfl (fun _ => rfl) rfl (zd 18 rfl rfl rfl fun y18 => ZE 74 rfl rfl rfl fun y74 => zX rfl rfl rfl rfl rfl sizeOf25 rfl rfl rfl) <| .nil) fun a18 w18 m18 hst18 hle18 hk18 => ?_
    have hfr18 := hk18.fr (.o 11 <| .o 12 <| .o 13 <| .o 14 <| .o 0 <| .o 1 <| .o 2 <| .o 7 <| .o 8 <| .o 9 <| .o 10 <| .o 15 <| .o 16 <| .o 17 <| .nil)
    obtain ⟨g18, e29, _⟩ := hk18.ex 18 rfl
    replace hfr18 := hfr18.cons e29
    replace hst18 := hst18.fin (L' := [_, _, _, _]) (.cons e29 <| .cons e29 <| .nil)
    try simp only [List.take_succ_cons, List.take_zero, List.drop_succ_cons, List.drop_zero, List.cons_append, List.nil_append, List.append_nil, List.length_cons, List.length_nil, Nat.zero_add, Nat.reduceAdd] at hst18
    obtain ⟨g73, h73, hst18⟩ := hst18.unx (k := 3) rfl (fun _ => rfl)
    clear hst17 hfr17 hk18
    have hbd9 : CdR m18 (ZO x28) (cdV (ZO x28) ⟨some ⟨g73, 0, none⟩, 2, none, 0⟩) := zCe ⟨by decide, by decide⟩ (show CellsAt _ ⟨_, 0, none⟩ ((cdV (zAK [98]) noY) ++ (cdV (zAi x28) noY)) from h73) (zDu _) (int_R hxi9)
    refine hK27 _ _ ?_
    refine zB fun _ hK31 => ?_
    replace hst18 := hst18.more (r := .free) trivial List.nodup_nil (by simp [Res.blocks])
    replace hfr7 := hfr7.mono hle18
    refine ra0 (tch := [(5, 4, (fun v => .blk v _)), (6, 4, (fun v => .blkx v _ _))]) hst18 hfr18 (.cons rfl (ZQ (.cons rfl <| .nil) underlying45 sizeOf9 zeroValue9 rfl rfl rfl rfl) <| .cons rfl (zg (j := 2) rfl rfl isAgg25 sizeOf25 rfl) <| .cons rfl (zg (j := 3) rfl rfl isAgg25 sizeOf25 rfl) <| .cons rfl (zn (φ := MP.cd (z5 [98] (ZK HY.more) (ZO x28))) rfl (.cons rfl <| .cons rfl <| .cons rfl <| .nil) call24 (fun w m hK => by have hle_ := KC.le hK; have hA := KC.agree hK; have hfr7 := hfr7.mono hle_; have hbd9 := hbd9.mono hle_; exact FnG.mono (bind_c (s := [98]) (a := (ZK HY.more)) (b := (ZO x28)) hA hfr7 hbd9) fun _ _ _ _ h => h)) <| .cons rfl (zAe 75 rfl rfl rfl fun y75 => Z4 78 rfl rfl rfl fun y78 => zP (.cons rfl <| .cons rfl <| .cons rfl <| .cons rfl <| .nil) underlying47 zeroValue47 (.cons sizeOf9 <| .cons sizeOf45 <| .cons sizeOf4 <| .cons sizeOf25 <| .nil) rfl) <| .consT rfl rfl (fun _ => rfl) rfl (zQ zeroValue47 rfl) <| .consT rfl rfl (fun _ => rfl) rfl (zd 19 rfl rfl rfl fun y19 => ZE 79 rfl rfl rfl fun y79 => zX rfl rfl rfl rfl rfl sizeOf47 rfl rfl rfl) <| .nil) fun a19 w19 m19 hst19 hle19 hk19 => ?_
    have hfr19 := hk19.fr (.o 11 <| .o 12 <| .o 13 <| .o 14 <| .o 0 <| .o 1 <| .o 2 <| .o 7 <| .o 8 <| .o 9 <| .o 10 <| .o 15 <| .o 16 <| .o 17 <| .o 18 <| .nil)
    obtain ⟨g19, e32, _⟩ := hk19.ex 19 rfl
    replace hfr19 := hfr19.cons e32
    replace hst19 := hst19.fin (L' := [_, _, _, _, _]) (.cons e32 <| .cons e32 <| .nil)
    try simp only [List.take_succ_cons, List.take_zero, List.drop_succ_cons, List.drop_zero, List.cons_append, List.nil_append, List.append_nil, List.length_cons, List.length_nil, Nat.zero_add, Nat.reduceAdd] at hst19
    obtain ⟨⟨g75, y78⟩, ⟨h75, h78⟩, hst19⟩ := hst19.unx (k := 4) rfl (fun _ => rfl)
    clear hst18 hfr18 hk19
    have harT : CaR m19 ⟨Zf, [[117]], true, z5 [98] (ZK HY.more) (ZO x28)⟩ (caV ⟨Zf, [[117]], true, z5 [98] (ZK HY.more) (ZO x28)⟩ (some ⟨g75, 0, none⟩, 1, y78)) := arm_R (l := [[117]]) (zCk (l := [[117]]) h75 (by decide)) h78
    refine hK31 _ _ ?_
    refine zDv (T := [(11, _), (12, _), (13, _), (14, _), (0, _), (1, _), (2, _), (7, _), (8, _), (9, _), (10, _), (15, _), (16, _), (19, _)]) (fun (y : Ca × Option Addr × Nat × CdY) => ([] : List (Nat × Value))) (fun y => [_, _, _, _, .blk (.pointer (some ⟨g19, 0, none⟩)) (.cells (caV y.1 y.2).toArray 47)]) (fun (y : Ca × Option Addr × Nat × CdY) m => (fun (ar : Ca) (ya : Option Addr × Nat × CdY) => (ar = zDB HY) ∧ (CaR m ar (caV ar ya))) y.1 y.2) (((⟨Zf, [[117]], true, z5 [98] (ZK HY.more) (ZO x28)⟩ : Ca), (some ⟨g75, 0, none⟩, 1, y78))) ⟨hst19, MLe.refl _, hfr19.sub (.c <| .c <| .c <| .c <| .c <| .c <| .c <| .c <| .c <| .c <| .c <| .c <| .c <| .c <| .nil), trivial⟩ (fun y a20 w20 m20 hh20 => ?_) (fun K34 hj34 => ?_)
    ·have hst20 := hh20.st; have hle20 := hh20.le; have hfr20 := hh20.fr; have hrel := hh20.rel; clear hh20
     clear hst19 hfr19
     obtain ⟨ar, ya⟩ := y
     dsimp only at hrel hfr20 hst20
     obtain ⟨har, harm⟩ := hrel
     subst har
     refine zDv (T := [(13, _), (14, _), (0, _), (1, _), (2, _), (7, _), (8, _), (9, _), (10, _), (15, _), (19, _)]) (fun (y : Int × Nat) => ([(11, .int .i64 y.1), (12, .int .i64 (y.2 : Int))] : List (Nat × Value))) (fun y => [_, _, _, _, _]) (fun (y : Int × Nat) m => (fun (w2 : Int) (k2 : Nat) => (w2 = (if oq = true then IntKind.i64.wrap (wq + HY.x) else wq)) ∧ (k2 = (if (oq && !HY.tail) = true then kq + 1 else kq))) y.1 y.2) ((wq, kq)) ⟨hst20, MLe.refl _, hfr20.sub (.c <| .c <| .c <| .c <| .c <| .c <| .c <| .c <| .c <| .c <| .c <| .c <| .c <| .nil), trivial⟩ (fun y a21 w21 m21 hh21 => ?_) (fun K35 hj35 => ?_)
     ·have hst21 := hh21.st; have hle21 := hh21.le; have hfr21 := hh21.fr; have hrel := hh21.rel; clear hh21
      clear hst20 hfr20
      obtain ⟨w2, k2⟩ := y
      dsimp only at hrel hfr21 hst21
      obtain ⟨hw2, hk2⟩ := hrel
      refine zB fun _ hK36 => ?_
      refine rp0 hst21 hfr21 (.cons rfl (zC rfl) <| .cons rfl (zC rfl) <| .cons rfl (zC rfl) <| .cons rfl (zU rfl rfl rfl) <| .cons rfl (zD rfl) <| .nil) fun a22 w22 m22 hst22 hle22 hk22 => ?_
      have hfr22 := hk22.fr (.o 11 <| .o 12 <| .o 14 <| .o 0 <| .o 1 <| .o 2 <| .o 7 <| .o 8 <| .o 9 <| .o 10 <| .o 19 <| .n 13 <| .nil)
      clear hst21 hfr21 hk22
      refine hK36 _ _ ?_
      refine zb (tch := [(6, 1, (fun _ => .blkx _ _ _))]) (fun _ => z1) hst22 hfr22 (by kernel_rfl) (by kernel_rfl) (by kernel_rfl) (.cons rfl (zg (j := 1) rfl rfl isAgg25 sizeOf25 rfl) <| .cons rfl (Zs rfl underlying22 sizeOf25 zeroValue25 rfl rfl rfl rfl) <| .cons rfl (zn (φ := MP.ca zAX) rfl (.nil) call21 (fun w m hK => by have hle_ := KC.le hK; have hA := KC.agree hK; exact FnG.mono (same_c hA) fun _ _ _ _ h => h)) <| .cons rfl (zg (j := 4) rfl rfl isAgg47 sizeOf47 rfl) <| .cons rfl (zAe 110 rfl rfl rfl fun y110 => z6 rfl rfl underlying23 sizeOf47 zeroValue47 rfl rfl rfl rfl rfl) <| .cons rfl (zAe 109 rfl rfl rfl fun y109 => Z4 112 rfl rfl rfl fun y112 => zP (.cons rfl <| .cons rfl <| .cons rfl <| .cons rfl <| .nil) underlying25 zeroValue25 (.cons sizeOf3 <| .cons sizeOf9 <| .cons sizeOf9 <| .cons sizeOf3 <| .cons sizeOf22 <| .cons sizeOf23 <| .nil) rfl) <| .consT rfl rfl (fun _ => rfl) rfl (ZE 113 rfl rfl rfl fun y113 => zW rfl rfl rfl sizeOf25 rfl rfl rfl) <| .nil) fun a23 w23 m23 hst23 hle23 hk23 => ?_
      have hfr23 := hk23.fr (.o 11 <| .o 12 <| .o 14 <| .o 0 <| .o 1 <| .o 2 <| .o 7 <| .o 8 <| .o 9 <| .o 10 <| .o 13 <| .nil)
      replace hst23 := hst23.fin (L' := [_, _, _, _, _]) (.cons rfl <| .nil)
      try simp only [List.take_succ_cons, List.take_zero, List.drop_succ_cons, List.drop_zero, List.cons_append, List.nil_append, List.append_nil, List.length_cons, List.length_nil, Nat.zero_add, Nat.reduceAdd] at hst23
      obtain ⟨⟨g109, ⟨y110, g112⟩⟩, ⟨h109, ⟨h110, h112⟩⟩, hst23⟩ := hst23.unx (k := 1) rfl (fun _ => rfl)
      clear hst22 hfr22 hk23
      have h112b : CellsAt m23 ⟨g112, 0, none⟩ (caV zAX y110 ++ caV (zDB HY) ya) := h112
      have zq13 := hle22.trans hle23
      have zq14 := hle21.trans zq13
      have zq15 := hle20.trans zq14
      have zq16 := hle19.trans zq15
      have zq17 := hle18.trans zq16
      have zq18 := zq11.trans zq17
      have zq19 := hle14.trans zq18
      have zq20 := hle13.trans zq19
      replace hcr := hcr.mono zq20
      replace harm := harm.mono zq14
      have hnew9 : CdR m23 (Z3 (zAG (hsN l a b n9 y) Z7) (z8 HY)) (cdV (Z3 (zAG (hsN l a b n9 y) Z7) (z8 HY)) ⟨some ⟨g109, 0, none⟩, 1, some ⟨g112, 0, none⟩, 2⟩) := node1a_R ⟨by decide, by decide⟩ (show CellsAt _ ⟨_, 0, none⟩ (cdV (zAG (hsN l a b n9 y) Z7) yc) from h109) hcr (arms2_R h112b h110 harm)
      have hns9 : zAG (hsN l a b n9 (y + 1)) Z7 = Z3 (zAG (hsN l a b n9 y) Z7) (z8 HY) := by rw [hsN_succ, nest_snoc, hHY]
      refine hK21 _ _ ?_
      refine rp0 hst23 hfr23 (.cons rfl (zC rfl) <| .cons rfl (Za rfl rfl ⟨by omega, by omega⟩) <| .cons rfl (zD rfl) <| .nil) fun a24 w24 m24 hst24 hle24 hk24 => ?_
      have hfr24 := hk24.fr (.o 11 <| .o 12 <| .o 0 <| .o 1 <| .o 2 <| .o 7 <| .o 8 <| .o 9 <| .o 10 <| .o 13 <| .n 14 <| .nil)
      clear hst23 hfr23 hk24
      have hst24 := hst24.take 2
      replace hnew9 := hnew9.mono hle24
      have zq21 := zq20.trans hle24
      have hlh24 := hlh12.trans zq21
      exact ⟨(y + 1, w2, k2, (oq && HY.more), (Z3 (zAG (hsN l a b n9 y) Z7) (z8 HY)), ⟨some ⟨g109, 0, none⟩, 1, some ⟨g112, 0, none⟩, 2⟩), m24, by show n9 - (y + 1) < n9 - y; omega, ⟨hst24, hlh24, hfr24.sub (.c <| .c <| .c <| .c <| .c <| .c <| .c <| .c <| .c <| .c <| .c <| .nil), ⟨by show y + 1 ≤ n9; omega, hns9.symm, hnew9, by rw [hsN_succ, List.foldl_append, ← hfo, hHY, hw2, hk2]; rfl, by show k2 ≤ y + 1; rw [hk2]; split <;> omega⟩⟩⟩
     ·have hlj35 : MLe m20 m20 := MLe.refl _
      refine zB fun _ hK38 => ?_
      refine rp0 hst20 hfr20 (.cons rfl (zC rfl) <| .nil) fun a21 w21 m21 hst21 hle21 hk21 => ?_
      have hfr21 := hk21.fr (.o 11 <| .o 12 <| .o 13 <| .o 14 <| .o 0 <| .o 1 <| .o 2 <| .o 7 <| .o 8 <| .o 9 <| .o 10 <| .o 15 <| .o 16 <| .o 19 <| .n 93 <| .nil)
      clear hst20 hfr20 hk21
      refine hK38 _ _ ?_
      refine zE hfr21 rfl rfl (fun hb93 => ?_) (fun hb93 => ?_)
      ·try simp only [nqs] at hb93
       refine zB fun _ hK39 => ?_
       have zq22 := hle20.trans hle21
       have zq23 := hle19.trans zq22
       have zq24 := hle18.trans zq23
       replace hcv28 := hcv28.mono zq24
       refine rp0 hst21 hfr21 (.cons rfl (zC rfl) <| .cons rfl (zC rfl) <| .cons rfl (zC rfl) <| .cons rfl (zI (k := y) rfl rfl underlying26 sizeOf3 rfl (by omega)) <| .cons rfl (zj rfl hcv28 isAgg3 rfl) <| .cons rfl (ob_addW rfl rfl) <| .cons rfl (zD rfl) <| .nil) fun a22 w22 m22 hst22 hle22 hk22 => ?_
       have hfr22 := hk22.fr (.o 12 <| .o 13 <| .o 14 <| .o 0 <| .o 1 <| .o 2 <| .o 7 <| .o 8 <| .o 9 <| .o 10 <| .o 15 <| .o 16 <| .o 19 <| .n 11 <| .nil)
       clear hst21 hfr21 hk22
       refine hK39 _ _ ?_
       refine zB fun _ hK40 => ?_
       refine rp0 hst22 hfr22 (.cons rfl (zC rfl) <| .cons rfl (zu rfl) <| .nil) fun a23 w23 m23 hst23 hle23 hk23 => ?_
       have hfr23 := hk23.fr (.o 12 <| .o 13 <| .o 14 <| .o 0 <| .o 1 <| .o 2 <| .o 7 <| .o 8 <| .o 9 <| .o 10 <| .o 15 <| .o 19 <| .o 11 <| .n 101 <| .nil)
       clear hst22 hfr22 hk23
       refine hK40 _ _ ?_
       refine zE hfr23 rfl rfl (fun hb101 => ?_) (fun hb101 => ?_)
       ·try simp only [nqs] at hb101
        refine rp0 hst23 hfr23 (.cons rfl (zC rfl) <| .cons rfl (Za rfl rfl ⟨by omega, by omega⟩) <| .cons rfl (zD rfl) <| .nil) fun a24 w24 m24 hst24 hle24 hk24 => ?_
        have hfr24 := hk24.fr (.o 13 <| .o 14 <| .o 0 <| .o 1 <| .o 2 <| .o 7 <| .o 8 <| .o 9 <| .o 10 <| .o 15 <| .o 19 <| .o 11 <| .n 12 <| .nil)
        clear hst23 hfr23 hk24
        rw [show (kq : Int) + 1 = ((kq + 1 : Nat) : Int) by omega] at hfr24
        repeat (with_reducible first | refine ZL ?_ | refine ZB ?_ | refine zv ?_)
        have zq25 := hle23.trans hle24
        have zq26 := hle22.trans zq25
        have zq27 := hle21.trans zq26
        replace hlj35 := hlj35.trans zq27
        exact hj35 ((IntKind.i64.wrap (wq + x28)), (kq + 1)) _ _ _ ⟨hst24, hlj35, hfr24.sub (.c <| .c <| .c <| .c <| .c <| .c <| .c <| .c <| .c <| .c <| .c <| .c <| .c <| .nil), ⟨by rw [hb93, hhx9]; rfl, by rw [hb93, hb101]; rfl⟩⟩
       ·try simp only [nqs] at hb101
        refine zR ?_
        repeat (with_reducible first | refine ZL ?_ | refine ZB ?_ | refine zv ?_)
        have zq28 := hle22.trans hle23
        have zq29 := hle21.trans zq28
        replace hlj35 := hlj35.trans zq29
        exact hj35 ((IntKind.i64.wrap (wq + x28)), kq) _ _ _ ⟨hst23, hlj35, hfr23.sub (.c <| .c <| .c <| .c <| .c <| .c <| .c <| .c <| .c <| .c <| .c <| .c <| .c <| .nil), ⟨by rw [hb93, hhx9]; rfl, by rw [hb93, hb101]; rfl⟩⟩
      ·try simp only [nqs] at hb93
       refine zR ?_
       repeat (with_reducible first | refine ZL ?_ | refine ZB ?_ | refine zv ?_)
       replace hlj35 := hlj35.trans hle21
       exact hj35 (wq, kq) _ _ _ ⟨hst21, hlj35, hfr21.sub (.c <| .c <| .c <| .c <| .c <| .c <| .c <| .c <| .c <| .c <| .c <| .c <| .c <| .nil), ⟨by rw [hb93]; rfl, by rw [hb93]; rfl⟩⟩
    ·have hlj34 : MLe m19 m19 := MLe.refl _
     refine zB fun _ hK41 => ?_
     refine rp0 hst19 hfr19 (.cons rfl (zC rfl) <| .cons rfl (zu rfl) <| .nil) fun a20 w20 m20 hst20 hle20 hk20 => ?_
     have hfr20 := hk20.fr (.o 11 <| .o 12 <| .o 13 <| .o 14 <| .o 0 <| .o 1 <| .o 2 <| .o 7 <| .o 8 <| .o 9 <| .o 10 <| .o 15 <| .o 16 <| .o 17 <| .o 18 <| .o 19 <| .n 81 <| .nil)
     clear hst19 hfr19 hk20
     refine hK41 _ _ ?_
     refine zE hfr20 rfl rfl (fun hb81 => ?_) (fun hb81 => ?_)
     ·try simp only [nqs] at hb81
      refine zB fun _ hK42 => ?_
      replace hst20 := hst20.more (r := .free) trivial List.nodup_nil (by simp [Res.blocks])
      refine ra0 (tch := [(4, 5, (fun v => .blk v _)), (5, 5, (fun v => .blkx v _ _))]) hst20 hfr20 (.cons rfl (za rfl (.cons rfl <| .nil) call18 (fun w m hK => by have hle_ := KC.le hK; have hA := KC.agree hK; exact zAP (s := [107]) hA)) <| .cons rfl (za rfl (.cons rfl <| .nil) call18 (fun w m hK => by have hle_ := KC.le hK; have hA := KC.agree hK; exact zAP (s := [100]) hA)) <| .cons rfl (z6 rfl rfl underlying22 sizeOf25 zeroValue25 rfl rfl rfl rfl rfl) <| .cons rfl (Z4 84 rfl rfl rfl fun y84 => zP (.cons rfl <| .cons rfl <| .nil) underlying25 zeroValue25 (.cons sizeOf3 <| .cons sizeOf9 <| .cons sizeOf9 <| .cons sizeOf3 <| .cons sizeOf22 <| .cons sizeOf23 <| .nil) rfl) <| .consT rfl rfl (fun _ => rfl) rfl (zQ zeroValue25 rfl) <| .consT rfl rfl (fun _ => rfl) rfl (zd 20 rfl rfl rfl fun y20 => ZE 85 rfl rfl rfl fun y85 => zX rfl rfl rfl rfl rfl sizeOf25 rfl rfl rfl) <| .nil) fun a21 w21 m21 hst21 hle21 hk21 => ?_
      have hfr21 := hk21.fr (.o 11 <| .o 12 <| .o 13 <| .o 14 <| .o 0 <| .o 1 <| .o 2 <| .o 7 <| .o 8 <| .o 9 <| .o 10 <| .o 15 <| .o 16 <| .o 17 <| .o 18 <| .o 19 <| .nil)
      obtain ⟨g20, e43, _⟩ := hk21.ex 20 rfl
      replace hfr21 := hfr21.cons e43
      replace hst21 := hst21.fin (L' := [_, _, _, _, _, _]) (.cons e43 <| .cons e43 <| .nil)
      try simp only [List.take_succ_cons, List.take_zero, List.drop_succ_cons, List.drop_zero, List.cons_append, List.nil_append, List.append_nil, List.length_cons, List.length_nil, Nat.zero_add, Nat.reduceAdd] at hst21
      obtain ⟨g84, h84, hst21⟩ := hst21.unx (k := 5) rfl (fun _ => rfl)
      clear hst20 hfr20 hk21
      have hap9 : CdR m21 Zd (cdV Zd ⟨some ⟨g84, 0, none⟩, 2, none, 0⟩) := zCe ⟨by decide, by decide⟩ (show CellsAt _ ⟨_, 0, none⟩ ((cdV (zAK [107]) noY) ++ (cdV (zAK [100]) noY)) from h84) (zDu _) (zDu _)
      refine hK42 _ _ ?_
      have zq30 := hle20.trans hle21
      have zq31 := hle19.trans zq30
      replace hfr7 := hfr7.mono zq31
      replace hbd9 := hbd9.mono zq31
      refine zb (tch := [(7, 4, (fun _ => .blkx _ _ _))]) (fun _ => z1) hst21 hfr21 (by kernel_rfl) (by kernel_rfl) (by kernel_rfl) (.cons rfl (ZQ (.cons rfl <| .cons rfl <| .nil) underlying45 sizeOf9 zeroValue9 rfl rfl rfl rfl) <| .cons rfl (zg (j := 2) rfl rfl isAgg25 sizeOf25 rfl) <| .cons rfl (zg (j := 3) rfl rfl isAgg25 sizeOf25 rfl) <| .cons rfl (zg (j := 5) rfl rfl isAgg25 sizeOf25 rfl) <| .cons rfl (zn (φ := MP.cd (z5 [100] (ZO x28) Zd)) rfl (.cons rfl <| .cons rfl <| .cons rfl <| .nil) call24 (fun w m hK => by have hle_ := KC.le hK; have hA := KC.agree hK; have hbd9 := hbd9.mono hle_; have hap9 := hap9.mono hle_; exact FnG.mono (bind_c (s := [100]) (a := (ZO x28)) (b := Zd) hA hbd9 hap9) fun _ _ _ _ h => h)) <| .cons rfl (zDZ 90 rfl rfl rfl fun y90 => zn (φ := MP.cd (z5 [98] (ZK HY.more) (z5 [100] (ZO x28) Zd))) rfl (.cons rfl <| .cons rfl <| .cons rfl <| .nil) call24 (fun w m hK => by have hle_ := KC.le hK; have hA := KC.agree hK; have hr0_ := hK.2; have hfr7 := hfr7.mono hle_; exact FnG.mono (bind_c (s := [98]) (a := (ZK HY.more)) (b := z5 [100] (ZO x28) Zd) hA hfr7 hr0_) fun _ _ _ _ h => h)) <| .cons rfl (zAe 86 rfl rfl rfl fun y86 => Z4 91 rfl rfl rfl fun y91 => zP (.cons rfl <| .cons rfl <| .cons rfl <| .nil) underlying47 zeroValue47 (.cons sizeOf9 <| .cons sizeOf45 <| .cons sizeOf4 <| .cons sizeOf25 <| .nil) rfl) <| .consT rfl rfl (fun _ => rfl) rfl (ZE 92 rfl rfl rfl fun y92 => zW rfl rfl rfl sizeOf47 rfl rfl rfl) <| .nil) fun a22 w22 m22 hst22 hle22 hk22 => ?_
      have hfr22 := hk22.fr (.o 11 <| .o 12 <| .o 13 <| .o 14 <| .o 0 <| .o 1 <| .o 2 <| .o 7 <| .o 8 <| .o 9 <| .o 10 <| .o 15 <| .o 16 <| .o 19 <| .nil)
      replace hst22 := hst22.fin (L' := [_, _, _, _, _, _]) (.cons rfl <| .nil)
      try simp only [List.take_succ_cons, List.take_zero, List.drop_succ_cons, List.drop_zero, List.cons_append, List.nil_append, List.append_nil, List.length_cons, List.length_nil, Nat.zero_add, Nat.reduceAdd] at hst22
      obtain ⟨⟨g86, y91⟩, ⟨h86, h91⟩, hst22⟩ := hst22.unx (k := 4) rfl (fun _ => rfl)
      clear hst21 hfr21 hk22
      have harN : CaR m22 ⟨Zf, [[117], [107]], false, z5 [98] (ZK HY.more) (z5 [100] (ZO x28) Zd)⟩ (caV ⟨Zf, [[117], [107]], false, z5 [98] (ZK HY.more) (z5 [100] (ZO x28) Zd)⟩ (some ⟨g86, 0, none⟩, 2, y91)) := arm_R (l := [[117], [107]]) (zCk (l := [[117], [107]]) h86 (by decide)) h91
      repeat (with_reducible first | refine ZL ?_ | refine ZB ?_ | refine zv ?_)
      have hst22 := hst22.take 5
      have zq32 := zq30.trans hle22
      replace hlj34 := hlj34.trans zq32
      exact hj34 ((⟨Zf, [[117], [107]], false, z5 [98] (ZK HY.more) (z5 [100] (ZO x28) Zd)⟩ : Ca), (some ⟨g86, 0, none⟩, 2, y91)) _ _ _ ⟨hst22, hlj34, hfr22.sub (.c <| .c <| .c <| .c <| .c <| .c <| .c <| .c <| .c <| .c <| .c <| .c <| .c <| .c <| .nil), ⟨by simp [zDB, hb81, hhx9], harN⟩⟩
     ·try simp only [nqs] at hb81
      refine zR ?_
      repeat (with_reducible first | refine ZL ?_ | refine ZB ?_ | refine zv ?_)
      replace harT := harT.mono hle20
      replace hlj34 := hlj34.trans hle20
      exact hj34 ((⟨Zf, [[117]], true, z5 [98] (ZK HY.more) (ZO x28)⟩ : Ca), (some ⟨g75, 0, none⟩, 1, y78)) _ _ _ ⟨hst20, hlj34, hfr20.sub (.c <| .c <| .c <| .c <| .c <| .c <| .c <| .c <| .c <| .c <| .c <| .c <| .c <| .c <| .nil), ⟨by simp [zDB, hb81, hhx9], harT⟩⟩
   ·have hlj26 : MLe m16 m16 := MLe.refl _
    refine zB fun _ hK46 => ?_
    refine rp0 hst16 hfr16 (.cons rfl (zC rfl) <| .nil) fun a17 w17 m17 hst17 hle17 hk17 => ?_
    have hfr17 := hk17.fr (.o 11 <| .o 12 <| .o 13 <| .o 14 <| .o 0 <| .o 1 <| .o 2 <| .o 7 <| .o 8 <| .o 9 <| .o 10 <| .o 15 <| .o 16 <| .o 17 <| .n 65 <| .nil)
    clear hst16 hfr16 hk17
    refine hK46 _ _ ?_
    refine zE hfr17 rfl rfl (fun hb65 => ?_) (fun hb65 => ?_)
    ·try simp only [nqs] at hb65
     refine ra0 (tch := [(1, 2, (fun _ => .blk _ _))]) hst17 hfr17 (.cons rfl (zg (j := 0) rfl rfl isAgg25 sizeOf25 rfl) <| .consT rfl rfl (fun _ => rfl) rfl (zW rfl rfl rfl sizeOf25 rfl rfl rfl) <| .nil) fun a18 w18 m18 hst18 hle18 hk18 => ?_
     have hfr18 := hk18.fr (.o 11 <| .o 12 <| .o 13 <| .o 14 <| .o 0 <| .o 1 <| .o 2 <| .o 7 <| .o 8 <| .o 9 <| .o 10 <| .o 15 <| .o 16 <| .o 17 <| .nil)
     replace hst18 := hst18.fin (L' := [_, _, _]) (.cons rfl <| .nil)
     try simp only [List.take_succ_cons, List.take_zero, List.drop_succ_cons, List.drop_zero, List.cons_append, List.nil_append, List.append_nil, List.length_cons, List.length_nil, Nat.zero_add, Nat.reduceAdd] at hst18
     clear hst17 hfr17 hk18
     repeat (with_reducible first | refine ZL ?_ | refine ZB ?_ | refine zv ?_)
     have zq33 := hle17.trans hle18
     have zq34 := hle16.trans zq33
     have zq35 := hle15.trans zq34
     have zq36 := hle14.trans zq35
     have zq37 := zq6.trans zq36
     replace hask := hask.mono zq37
     replace hlj26 := hlj26.trans zq33
     exact hj26 (Z7, ⟨some ⟨gA, 0, none⟩, 1, none, 0⟩) _ _ _ ⟨hst18, hlj26, hfr18.sub (.c <| .c <| .c <| .c <| .c <| .c <| .c <| .c <| .c <| .c <| .c <| .c <| .c <| .c <| .nil), ⟨by rw [hb65]; rfl, hask⟩⟩
    ·try simp only [nqs] at hb65
     refine zR ?_
     repeat (with_reducible first | refine ZL ?_ | refine ZB ?_ | refine zv ?_)
     replace hlj26 := hlj26.trans hle17
     exact hj26 ((zAi 0), noY) _ _ _ ⟨hst17, hlj26, hfr17.sub (.c <| .c <| .c <| .c <| .c <| .c <| .c <| .c <| .c <| .c <| .c <| .c <| .c <| .c <| .nil), ⟨by rw [hb65]; rfl, int_R ⟨by decide, by decide⟩⟩⟩
  ·try simp only [nqs] at hb35
   have hge : y = n9 := by omega
   subst hge
   obtain ⟨hw9, hk9⟩ := wantN (hsN l a b y y)
   rw [← hfo] at hw9 hk9
   dsimp only at hw9 hk9
   refine z9 ?_
   refine hK16 _ _ ?_
   refine zB fun _ hK47 => ?_
   replace hst13 := hst13.more (r := .free) trivial List.nodup_nil (by simp [Res.blocks])
   replace hcr := hcr.mono hle13
   refine zb (tch := [(3, 2, (fun v => .blk v _)), (4, 2, (fun v => .blkx v _ _))]) (fun _ => z1) hst13 hfr13 (by kernel_rfl) (by kernel_rfl) (by kernel_rfl) (.cons rfl (zg (j := 1) rfl rfl isAgg25 sizeOf25 rfl) <| .cons rfl (zn (φ := MP.efs efs) rfl (.nil) call15 (fun w m hK => by have hle_ := KC.le hK; have hA := KC.agree hK; exact FnG.mono (zCx hA) fun _ _ _ _ h => h)) <| .cons rfl (zDZ 115 rfl rfl rfl fun y115 => zn (φ := MP.rn ⟨1, 1, zBF (hsN l a b y y), [], [], st9, Ze (hsN l a b y y)⟩) rfl (.cons rfl <| .cons rfl <| .cons rfl <| .cons rfl <| .nil) call14 (fun w m hK => by have hle_ := KC.le hK; have hA := KC.agree hK; have hr0_ := hK.2; have hcr := hcr.mono hle_; exact FnG.mono (run_c (c := zAG (hsN l a b y y) Z7) (es := efs) (input := []) (fuel := 1500) (r := ⟨1, 1, zBF (hsN l a b y y), [], [], st9, Ze (hsN l a b y y)⟩) hA (hcr) hr0_ Sl.empty (by simp) hrun9 (by simp) (by omega)) fun _ _ _ _ h => h)) <| .consT rfl rfl (fun _ => rfl) rfl (zQ zeroValue35 rfl) <| .consT rfl rfl (fun _ => rfl) rfl (zd 21 rfl rfl rfl fun y21 => ZE 116 rfl rfl rfl fun y116 => zX rfl rfl rfl rfl rfl sizeOf35 rfl rfl rfl) <| .nil) fun a14 w14 m14 hst14 hle14 hk14 => ?_
   have hfr14 := hk14.fr (.o 11 <| .o 12 <| .o 13 <| .o 14 <| .o 7 <| .nil)
   obtain ⟨g21, e48, _⟩ := hk14.ex 21 rfl
   replace hfr14 := hfr14.cons e48
   replace hst14 := hst14.fin (L' := [_, _, _]) (.cons e48 <| .cons e48 <| .nil)
   try simp only [List.take_succ_cons, List.take_zero, List.drop_succ_cons, List.drop_zero, List.cons_append, List.nil_append, List.append_nil, List.length_cons, List.length_nil, Nat.zero_add, Nat.reduceAdd] at hst14
   obtain ⟨y116, h116, hst14⟩ := hst14.unx (k := 2) rfl (fun _ => rfl)
   clear hst13 hfr13 hk14
   refine hK47 _ _ ?_
   refine zB fun _ hK50 => ?_
   refine rp0 hst14 hfr14 (.cons rfl (zC rfl) <| .cons rfl (zC rfl) <| .cons rfl (zA (off := 0) rfl underlying35 rfl rfl sizeOf33 rfl) <| .cons rfl (zA (off := 0) rfl underlying33 rfl rfl sizeOf3 rfl) <| .cons rfl (zM (k := 0) (j := 2) rfl rfl isAgg3 rfl) <| .cons rfl (zS rfl rfl) <| .cons rfl (zU rfl rfl rfl) <| .cons rfl (zC rfl) <| .cons rfl (zA (off := 0) rfl underlying35 rfl rfl sizeOf33 rfl) <| .cons rfl (zA (off := 1) rfl underlying33 rfl rfl sizeOf31 rfl) <| .cons rfl (zA (off := 1) rfl underlying31 rfl rfl sizeOf3 rfl) <| .cons rfl (zM (k := 2) (j := 2) rfl rfl isAgg3 rfl) <| .cons rfl (zC rfl) <| .cons rfl (zS rfl rfl) <| .cons rfl (zU rfl rfl rfl) <| .cons rfl (zC rfl) <| .cons rfl (zA (off := 7) rfl underlying35 rfl rfl sizeOf3 rfl) <| .cons rfl (zM (j := 2) rfl rfl isAgg3 rfl) <| .cons rfl (zC rfl) <| .cons rfl (zS rfl rfl) <| .cons rfl (zU rfl rfl rfl) <| .cons rfl (zD rfl) <| .nil) fun a15 w15 m15 hst15 hle15 hk15 => ?_
   have hfr15 := hk15.fr (.o 11 <| .o 12 <| .o 13 <| .o 14 <| .n 6 <| .nil)
   clear hst14 hfr14 hk15
   refine hK50 _ _ ?_
   refine zN ?_
   repeat (with_reducible first | refine zH ?_ | refine zG ?_)
   exact zO hst15 hfr15 rfl (.tmp rfl <| .nil) (by refine congrArg Value.bool ?_; rw [hw9, hk9]; simp)
end Go.Proofs.Ytnppknioifgdfaa
namespace Go.Proofs.Ytnppknioifgdfaa
set_option linter.all false
open Go.RowKit Go.WideShapes Go.ChangeShapes Go.Deep Go.WideElems Go.ChangeAt Go.ChangeMaps
def zDQ (W : World) : Mem := ⟨fun b o => W.cell? ⟨b, o, none⟩, fun b => match W.heap[b]? with | some (.map es cl) => some (es, cl) | _ => none⟩
theorem agree_snap (W : World) : Agree W (zDQ W) := ⟨fun _ _ _ h => h, fun b es h => by
 change (match W.heap[b]? with | some (.map es cl) => some (es, cl) | _ => none) = some es at h
 split at h
 ·rename_i ents cl he
  injection h with h
  subst h; exact he
 ·cases h⟩
theorem cell_spot {W : World} {a : Addr} {v : Value} (h : W.cell? a = some v) : a.spot = none := by
 unfold World.cell? at h
 split at h
 ·split at h
  ·cases h
  ·rename_i hs; cases e : a.spot with
   | none => rfl
   | some x => rw [e] at hs; exact absurd rfl hs
 ·cases h
theorem snap_of {W : World} {a : Addr} {v : Value} (h : W.cell? a = some v) : zDQ W a.block a.off = some v := by
 have := cell_spot h
 show W.cell? ⟨a.block, a.off, none⟩ = some v
 rw [← h]; congr 1
 cases a; simp only at this; subst this; rfl
theorem cellsAt_snap {W : World} {base : Nat} {a : Addr} {n : Nat} {cs : List Value} (h : W.cells? base a n = some cs) (hn : 0 < n) : CellsAt (zDQ W) a cs ∧ cs.length = n := by
 obtain ⟨_, hl, hat⟩ := World.cells?_some h
 have h0 := hat 0 hn
 have e0 : a.add 0 = a := by unfold Addr.add; rfl
 rw [e0, List.getElem?_eq_getElem (by omega)] at h0
 refine ⟨⟨cell_spot h0, fun i v e => ?_⟩, hl⟩
 have hi : i < n := by have := (List.getElem?_eq_some_iff.1 e).1; omega
 have := hat i hi
 rw [e] at this
 have := snap_of this
 rwa [zBy, zDY] at this
section
variable {H : Type} {enc : TypeId × Value → H} {P : Program} {W : World} {base : Nat} {spare : Nat → Bool} {held : Bool}
theorem sl_of_trod {α : Type} {R : Mem → List Value → α → Prop} {t e : TypeId} {sz fuel : Nat} {cs : List Value} {x : DataW H × List MemPlace} (ht : P.underlying t = some (.slice e)) (hc : P.cellsOf e = sz) (hsz : 0 < sz)
  (hR : ∀ n cs x, DataW.trod enc P W base spare held n e cs = some x → cs.length = sz → ∃ a : α, R (zDQ W) cs a) (h : DataW.trod enc P W base spare held fuel t cs = some x) :
  ∃ o n c l, cs = [.slice o n c] ∧ Sl R sz (zDQ W) o n c l ∧ c ≤ maxLen := by
 rcases open_slice ht h with ⟨rfl, _⟩ | ⟨a, len, cap, m, n, D, Pl, rfl, hb, hl, hm, hmm, _, hi⟩
 ·exact ⟨none, 0, 0, [], rfl, ⟨rfl, Nat.le_refl _, Nat.zero_le _, fun i x hx => by simp at hx⟩, Nat.zero_le _⟩
 ·have hlm : len ≤ m := by rw [hmm]; split <;> omega
  have key : ∀ k, k ≤ len → ∃ l : List α, l.length = k ∧ ∀ i x, l[i]? = some x → ∃ vs, CellsAt (zDQ W) (a.add (i * sz)) vs ∧ vs.length = sz ∧ R (zDQ W) vs x := by
   intro k
   induction k with
   | zero => intro _; exact ⟨[], rfl, fun i x hx => by simp at hx⟩
   | succ k ih =>
    intro hk
    obtain ⟨l, hl1, hl2⟩ := ih (by omega)
    obtain ⟨cs', hcs, htr⟩ := hi k (by omega)
    rw [hc] at hcs
    obtain ⟨h1, h2⟩ := cellsAt_snap hcs hsz
    obtain ⟨y, hy⟩ := hR n cs' _ htr h2
    refine ⟨l ++ [y], by simp [hl1], fun i x hx => ?_⟩
    rw [List.getElem?_append] at hx
    split at hx
    ·exact hl2 i x hx
    ·have hik : i = k := by
      have := (List.getElem?_eq_some_iff.1 hx).1
      simp at this; omega
     subst hik
     rw [hl1, Nat.sub_self] at hx
     simp only [List.getElem?_cons_zero, Option.some.injEq] at hx
     subst hx
     exact ⟨cs', h1, h2, hy⟩
  obtain ⟨l, hl1, hl2⟩ := key len (Nat.le_refl _)
  refine ⟨some a, len, cap, l, rfl, ⟨hl1, hl, ?_, fun i x hx => ?_⟩, hm⟩
  ·simp only [maxLen] at hm; omega
  ·obtain ⟨vs, h1, h2, h3⟩ := hl2 i x hx
   exact ⟨a, vs, rfl, h1, h2, h3⟩
theorem sl_of {α : Type} {R : Mem → List Value → α → Prop} {r : Reach} {b0 : Nat} {t e : TypeId} {sz : Nat} {v : Value} {d : DataW H} {ps : List MemPlace} (ht : P.underlying t = some (.slice e)) (hc : P.cellsOf e = sz) (hsz : 0 < sz)
  (hR : ∀ n cs x, DataW.trod enc P W base spare held n e cs = some x → cs.length = sz → ∃ a : α, R (zDQ W) cs a) (hval : Value.okWide P W r b0 t v) (hd : DataW.Trod enc P W base spare held t v d ps) :
  ∃ o n c l, v = .slice o n c ∧ Sl R sz (zDQ W) o n c l ∧ c ≤ maxLen := by
 obtain ⟨o, n, c, rfl⟩ := okWide_slice ht hval
 obtain ⟨fuel, hf⟩ := hd
 obtain ⟨o', n', c', l, e1, h1, h2⟩ := sl_of_trod ht hc hsz hR hf
 simp only [Value.cells, List.cons.injEq, and_true] at e1
 injection e1 with e1 e2 e3
 subst e1 e2 e3
 exact ⟨_, _, _, l, rfl, h1, h2⟩
theorem zBz (hl : laidOutB P = true) {W' : World} {sp : Nat → Bool} : ∀ {ts : List TypeId} {vs : List Value} {ds : List (DataW H)} {ps : List MemPlace}, (ts.all fun t => P.readableRec t && decide (t < P.types.size)) = true →
  DataW.TrodAll enc P W base (fun _ => true) true ts vs ds ps → (∀ p ∈ ps, W.sameAt W' p) → (∀ p ∈ ps, sp p.block = true) → DataW.TrodAll enc P W' base sp true ts vs ds ps
 | [], vs, ds, ps, _, h, _, _ => by
  obtain ⟨rfl, rfl, rfl⟩ := trodAll_nil h
  exact rfl
 | t :: ts, vs, ds, ps, hts, h, h1, h2 => by
  obtain ⟨v, vs', d, ds', p, q, rfl, rfl, rfl, hd, hr⟩ := trodAll_cons h
  simp only [List.all_cons, Bool.and_eq_true, decide_eq_true_eq] at hts
  obtain ⟨⟨hr1, hr2⟩, hts'⟩ := hts
  exact ⟨p, q, Trod_stays hl hr1 hr2 hd (fun x hx => h1 x (List.mem_append_left _ hx)) (fun x hx => h2 x (List.mem_append_left _ hx)),
   zBz hl hts' hr (fun x hx => h1 x (List.mem_append_right _ hx)) (fun x hx => h2 x (List.mem_append_right _ hx)), rfl⟩
theorem post_law {f : Func} {s : ChangeSpec} {W' : World} {m' : Mem} {args : Array Value} {ds : List (DataW H)} {gs : List (DataW H)} {before : List MemPlace} {t : TypeId}
  (hl : laidOutB P = true) (hts : (f.params.toList.all fun t => P.readableRec t && decide (t < P.types.size)) = true) (hvs : s.vars = []) (hres : f.resultTypes = #[t]) (ht : P.underlying t = some .bool)
  (hfn : s.fn H (ds ++ gs) = { results := [.lit (.bool true)], args := ds }) (hW : DataW.Whole enc P f.params.toList s.vars false W args.toList ds gs before) (hx : ExtG [] W (zDQ W) W' m') :
  s.post enc P f false true false false W args (.bool true) W' := by
 have hb := hx.below
 have hlt : ∀ p ∈ before, p.block < W.heap.size := fun p hp => hW.lt p hp
 have hold : ∀ p ∈ before, (fun b => decide (b < W.heap.size)) p.block = true := fun p hp => by simpa using hlt p hp
 have hsame : ∀ p ∈ before, W.sameAt W' p := fun p hp => hb.same (hlt p hp)
 have hW0 := hW
 obtain ⟨pa, pv, hA, hV, hps, hz, hn⟩ := hW
 rw [hvs] at hV
 obtain ⟨rfl, rfl⟩ := trodVars_none hV
 rw [List.append_nil] at hps
 subst hps
 have hres' : ∀ (b : Nat) (sp : Nat → Bool) (hd : Bool), DataW.TrodAll enc P W' b sp hd f.resultTypes.toList ((Value.bool true).resultList f.resultTypes.size) (s.fn H (ds ++ [])).results [] := fun b sp hd => by
  rw [hfn, hres]
  exact trodAll_mk1 ⟨1, by simp [DataW.trod, Value.cells, ht]⟩
 have hargs : ∀ sp : Nat → Bool, (∀ p ∈ before, sp p.block = true) → DataW.TrodAll enc P W' 0 sp true f.params.toList args.toList (s.fn H (ds ++ [])).args before := fun sp hsp => by
  rw [hfn]; exact zBz hl hts hA hsame hsp
 have hvars : ∀ sp : Nat → Bool, DataW.TrodVars enc P W' sp s.vars (s.fn H (ds ++ [])).vars [] := fun sp => by
  rw [hvs, hfn]; exact rfl
 refine ⟨ds, [], before, [], before, [], hW0, hres' _ _ _, hargs _ hold, hvars _, World.keptBut_mono (fun p hp => ⟨hp, ?_⟩) (hb.frame (· ∈ before)), fun _ => ?_⟩
 ·exact Or.inr (Or.inl hp)
 ·refine ⟨ok_one hres rfl (okWide_bool_mk ht true), _, _, ([] ++ before) ++ [], ⟨[] ++ before, [], trodAll_append (hargs _ (fun _ _ => rfl)) (hres' _ _ _), hvars _, rfl, ?_, ?_⟩, ?_⟩
  ·intro b off hp
   have hin : MemPlace.cell b off ∈ before := by simpa using hp
   rw [hb.frozen (hlt _ hin)]
   exact hz b off hin
  ·intro ha
   have := hn ha
   simpa using this
  ·intro p hp _
   simpa using hp
end
end Go.Proofs.Ytnppknioifgdfaa
namespace Go.Proofs.Ytnppknioifgdfaa
set_option linter.all false
open Go.RowKit Go.WideShapes Go.ChangeShapes Go.Deep Go.WideElems Go.ChangeAt Go.ChangeMaps
section
variable {H : Type} {enc : TypeId × Value → H} {P : Program} {W : World} {base : Nat} {spare : Nat → Bool} {held : Bool}
theorem int_open {t : TypeId} {n : Nat} {cs : List Value} {x : DataW H × List MemPlace} (ht : P.underlying t = some (.int .i64)) (h : DataW.trod enc P W base spare held n t cs = some x) : ∃ k : Int, cs = [.int .i64 k] ∧ zq k ∧ Rows.uptoBulk x.1 = 1 := by
 obtain ⟨k, e, rfl, hs⟩ := DataW.trod_int ht h
 simp only [Lit.wf, Bool.and_eq_true, decide_eq_true_eq] at hs
 have h1 : IntKind.i64.min = -9223372036854775808 := by decide
 have h2 : IntKind.i64.max = 9223372036854775807 := by decide
 exact ⟨k, e, ⟨by omega, by omega⟩, by simp [Rows.uptoBulk]⟩
end
end Go.Proofs.Ytnppknioifgdfaa
namespace Go.Proofs.Ytnppknioifgdfaa
open Go.Proofs.Try
set_option linter.all false
set_option maxRecDepth 4000
open Go.RowKit Go.WideShapes Go.ChangeShapes Go.Deep Go.WideElems Go.ChangeAt Go.ChangeMaps
theorem ints_arg {H : Type} {enc : TypeId × Value → H} {W : World} {base : Nat} {spare : Nat → Bool} {held : Bool} {r : Reach} {b0 : Nat} {v : Value} {d : DataW H} {ps : List MemPlace} (hval : Value.okWide Try.prog W r b0 26 v) (hd : DataW.Trod enc Try.prog W base spare held 26 v d ps) :
  ∃ o c l, v = .slice o l.length c ∧ Ints (zDQ W) o l.length c l ∧ ∀ x ∈ l, zq x := by
 obtain ⟨o, n, c, l, rfl, h1, _⟩ := sl_of (R := fun _ vs (x : Int) => vs = [Value.int .i64 x] ∧ zq x) (sz := 1) underlying26 (by kernel_rfl) (by omega) (fun n cs x ht _ => by obtain ⟨k, e, h, _⟩ := int_open underlying3 ht; exact ⟨k, e, h⟩) hval hd
 obtain rfl := h1.len
 refine ⟨o, c, l, rfl, ⟨rfl, h1.cap, h1.big, fun i x hx => ?_⟩, fun x hx => ?_⟩
 ·obtain ⟨p, vs, a1, a2, a3, a4⟩ := h1.at_ i x hx; exact ⟨p, vs, a1, a2, a3, a4.1⟩
 ·obtain ⟨i, hi⟩ := List.mem_iff_getElem?.1 hx
  obtain ⟨p, vs, a1, a2, a3, a4⟩ := h1.at_ i x hi; exact a4.2
end Go.Proofs.Ytnppknioifgdfaa
namespace Go.Proofs.Ytnppknioifgdfaa
open Go.Proofs.Try
set_option linter.all false
set_option maxRecDepth 4000
open Go.RowKit Go.WideShapes Go.ChangeShapes Go.Deep Go.WideElems Go.ChangeAt Go.ChangeMaps
theorem bools_arg {H : Type} {enc : TypeId × Value → H} {W : World} {base : Nat} {spare : Nat → Bool} {held : Bool} {r : Reach} {b0 : Nat} {v : Value} {d : DataW H} {ps : List MemPlace} (hval : Value.okWide Try.prog W r b0 58 v) (hd : DataW.Trod enc Try.prog W base spare held 58 v d ps) :
  ∃ o c l, v = .slice o l.length c ∧ Bools (zDQ W) o l.length c l := by
 obtain ⟨o, n, c, l, rfl, h1, _⟩ := sl_of (R := fun _ vs (x : Bool) => vs = [Value.bool x]) (sz := 1) underlying58 (by kernel_rfl) (by omega) (fun n cs x ht _ => by obtain ⟨b, e, _⟩ := DataW.trod_bool underlying4 ht; exact ⟨b, e⟩) hval hd
 obtain rfl := h1.len
 exact ⟨o, c, l, rfl, h1⟩
end Go.Proofs.Ytnppknioifgdfaa
namespace Go.Proofs.Ytnppknioifgdfaa
open Go.Proofs.Try
set_option linter.all false
set_option maxRecDepth 4000
open Go.ChangeShapes Go.WideShapes Go.ChangeAt Go.RowKit Go.Deep
theorem machineNests_own : ownKnob Try.prog.godebug = none := by kernel_rfl
theorem machineNests_laid : laidOutB Try.prog = true := by kernel_rfl
set_option maxRecDepth 100000 in
theorem machineNests_contract (H : Type) (enc : TypeId × Value → H) (W : World) (base : Nat) (args : Array Value) (ds gs : List (DataW H)) (before : List MemPlace)
  (hval : ∀ (j : Nat) t v, Try.f9.params[j]? = some t → args[j]? = some v → Value.okWide Try.prog W .any base t v)
  (hW : DataW.Whole enc Try.prog Try.f9.params.toList Rows.machineNestsSpec.vars false W args.toList ds gs before) (hc : ∀ k, (OpenSpec.ofChange Rows.machineNestsSpec).cond = some k → k H (ds ++ gs) = true) (hL : laidMetH Try.prog Rows.machineNestsRow.laid W) :
  Calls Try.prog 9 args W fun e W' => ∃ v, e = .returned v ∧ Rows.machineNestsSpec.post enc Try.prog Try.f9 false true false false W args v W' := by
 have hW' := hW
 obtain ⟨p, q, hA0, hV, rfl, hfz, hnd⟩ := hW
 have hA : DataW.TrodAll enc Try.prog W 0 (fun _ => true) true Try.f9.params.toList args.toList ds p := hA0
 rw [Try.params9] at hA hval
 obtain ⟨v0, vs0, d0, ds0, p0, q0, e0, rfl, rfl, h0, hA0⟩ := trodAll_cons hA
 obtain ⟨v1, vs1, d1, ds1, p1, q1, e1, rfl, rfl, h1, hA1⟩ := trodAll_cons hA0
 obtain ⟨v2, vs2, d2, ds2, p2, q2, e2, rfl, rfl, h2, hA2⟩ := trodAll_cons hA1
 obtain ⟨e3, rfl, rfl⟩ := trodAll_nil hA2
 subst e3 e2 e1
 obtain rfl : args = #[v0, v1, v2] := Array.toList_inj.1 e0
 obtain ⟨rfl, rfl⟩ := trodVars_none hV
 obtain ⟨o_l, c_l, l, rfl, hs_l, hi_l⟩ := ints_arg (hval 0 26 v0 rfl rfl) h0
 obtain ⟨o_a, c_a, a, rfl, hs_a⟩ := bools_arg (hval 1 58 v1 rfl rfl) h1
 obtain ⟨o_b, c_b, b, rfl, hs_b⟩ := bools_arg (hval 2 58 v2 rfl rfl) h2
 have hA0 := agree_snap W
 refine Calls.mono (zDi hA0 hs_l hs_a hs_b hi_l) fun e W' ⟨v, m', he, hx, hv⟩ => ?_
 subst hv
 exact ⟨_, he, post_law machineNests_laid (by kernel_rfl) rfl rfl underlying4 rfl hW' hx⟩
theorem machineNests_laidmet (os : Go.Os) : laidMetH Try.prog Rows.machineNestsRow.laid (((World.holding Try.prog os ⟨#[], #[], []⟩)).forCall (fun _ _ => 0) ⟨#[], #[.slice none 0 0, .slice none 0 0, .slice none 0 0], []⟩).memory :=
 laidMet_of_run' 8 (by kernel_rfl) (by kernel_rfl)
theorem machineNests_reads (os : Go.Os) {H : Type} (enc : TypeId × Value → H) : ∃ places, DataW.whole enc Try.prog (((World.holding Try.prog os ⟨#[], #[], []⟩)).forCall (fun _ _ => 0) ⟨#[], #[.slice none 0 0, .slice none 0 0, .slice none 0 0], []⟩).memory Try.f9.params.toList Rows.machineNestsSpec.vars false #[.slice none 0 0, .slice none 0 0, .slice none 0 0].toList 12 = some ([.nil, .nil, .nil], [], places) :=
 ⟨[], by kernel_rfl⟩
set_option maxRecDepth 100000 in
theorem machineNests_lifted (os : Go.Os) (started : os.Started) (H : Type) (enc : TypeId × Value → H) (F : Stop.Interp) :
  ReturnsInHanded {} Try.checked os 9 .any ((OpenSpec.ofChange Rows.machineNestsSpec).preRow enc Try.prog Try.f9 Rows.machineNestsRow.domain false Rows.machineNestsRow.laid) (((OpenSpec.ofChange Rows.machineNestsSpec).at F).post enc Try.prog Try.f9 false true false false) := by
 obtain ⟨places, hx⟩ := machineNests_reads os enc
 refine returnsInHanded_of_row (C := Try.checked) (s := (OpenSpec.ofChange Rows.machineNestsSpec)) machineNests_own started (by kernel_rfl) func9
  (witness_row_at (enc := enc) (C := Try.checked) false ((World.holding Try.prog os ⟨#[], #[], []⟩)) #[.slice none 0 0, .slice none 0 0, .slice none 0 0] rfl (by kernel_rfl) (by kernel_rfl) (by kernel_rfl)
   (OpenSpec.preRow_of_cond 12 hx (by kernel_rfl) (fun k hk => by cases hk) (by kernel_rfl) (machineNests_laidmet os))) ?_
 intro W base args ds gs before hval hW _ hc _ hL _ _
 exact machineNests_contract H enc W base args ds gs before hval hW hc hL
theorem machineNests_holds : Rows.MachineNestsSaid :=
 OpenClaim.holds_of_cond 9 Try.f9 rfl rfl rfl rfl rfl rfl rfl ⟨rfl, rfl, rfl, rfl, rfl⟩ rfl rfl rfl rfl rfl (by kernel_rfl) func9 (by kernel_rfl)
  (of_decide_eq_true (by kernel_rfl)) (by unfold Func.isWrapper; first | (rw [if_pos (by decide +kernel)]; kernel_rfl) | (rw [if_neg (by decide +kernel)]; exact ⟨rfl, rfl⟩))
  (fun os started H enc _ F => by rw [OpenClaim.pre_eq_preRow]; exact machineNests_lifted os started H enc F)
end Go.Proofs.Ytnppknioifgdfaa
