/-
  The law's proof, whole. Conditions: those of each theorem.
-/
import Derived.Test.YtlidonjpgigocaaGreatSqE
import Derived.ProofKit
import Derived.Carry
import Derived.ChangeSame
import Derived.ShutString
import Derived.Deep.Slices
import Derived.Deep.Fields
import Derived.LaidSub
import Derived.MakeChecks
import Derived.LaidLaws
import Derived.Lib.LaidTab
import Derived.OpenShut
import Derived.Deep.DeepHandedRow
import Derived.Test.YtlidonjpgigocaaGreatRows
namespace Go.Proofs.YtlidonjpgigocaaGreat
open Go.Proofs.Tryz
set_option linter.all false
set_option maxRecDepth 4000
open Go.RowKit
abbrev prV (x : Ty × Ty) (y z : (Option Addr × Nat) × (Option Addr × Nat)) : List Value := tyV x.1 y ++ tyV x.2 z
def PrR (m : Mem) (x : Ty × Ty) (vs : List Value) : Prop := ∃ y z, vs = prV x y z ∧ TyR m x.1 (tyV x.1 y) ∧ TyR m x.2 (tyV x.2 z)
theorem PrR.mono {m m' : Mem} {x : Ty × Ty} {vs : List Value} (h : PrR m x vs) (hm : MLe m m') : PrR m' x vs := by obtain ⟨y, z, e, h1, h2⟩ := h; exact ⟨y, z, e, h1.mono hm, h2.mono hm⟩
abbrev Prs (m : Mem) (o : Option Addr) (n c : Nat) (l : List (Ty × Ty)) : Prop := Sl (fun m vs x => PrR m x vs) 12 m o n c l
theorem Prs.mono {m m' : Mem} {o : Option Addr} {n c : Nat} {l : List (Ty × Ty)} (h : Prs m o n c l) (hm : MLe m m') : Prs m' o n c l := Sl.mono h (fun _ _ e => e.mono hm) hm
theorem st_ad {G0 : List Nat} {W : World} {mE : Mem} {A B C D : Res} {w : World} {m : Mem} (h : St G0 W mE [A, B, C, D] w m) : St G0 W mE [A, D] w m := by
 have hp : ([A, D] ++ [B, C]).Perm [A, B, C, D] := List.Perm.cons _ (List.perm_append_comm (l₁ := [D]) (l₂ := [B, C]))
 have hf := hp.flatMap_right Res.blocks
 refine ⟨h.ext, fun r hr => h.loc.all r (hp.mem_iff.1 (List.mem_append_left _ hr)), ?_, fun g hg => h.loc.own g (hf.mem_iff.1 (by rw [List.flatMap_append]; exact List.mem_append_left _ hg))⟩
 have h1 := hf.nodup_iff.2 h.loc.apart
 rw [List.flatMap_append] at h1
 exact (List.nodup_append.1 h1).1
theorem SmU.gd {rv : List Int} {w : Nat} {U : USt} (h : SmU rv w U) : Gd7 U := ⟨h.inv.ok, h.inv.ap, by have := h.n9; omega⟩
set_option maxHeartbeats 6400000 in
theorem unifyTells_c {w : World} {m : Mem} {o_l : Option Addr} {c_l : Nat} {l : List (Ty × Ty)} (hA : Agree w m) (h_l : Prs m o_l l.length c_l l) (hw : ∀ x ∈ l, (wdT x.1 ≤ 10000000 ∧ ZH x.1 ≤ 10000000) ∧ wdT x.2 ≤ 10000000 ∧ ZH x.2 ≤ 10000000) : FnV Tryz.prog 3 #[.slice o_l l.length c_l] w m (fun _ _ v => v = .bool true) := by
 have hb_l := h_l.big; have hc_l := h_l.cap
 refine zY (vs := [_]) func3 rfl rfl rfl fun a0 hfr0 => ?_
 have hst0 := zX hA (zw [] _ w m)
 have hM : MLe m m := MLe.refl m
 refine zE fun _ hK1 => ?_
 refine rp0 hst0 hfr0 (.cons rfl (zH rfl) <| .nil) fun a1 w1 m1 hst1 hle1 hk1 => ?_
 have hfr1 := hk1.fr (.o 0 <| .nil)
 replace h_l := h_l.mono hle1
 replace hM := hM.trans hle1
 clear hst0 hfr0 hk1
 refine hK1 _ _ ?_
 refine zE fun _ hK2 => ?_
 refine rp0 hst1 hfr1 (.cons rfl (zp rfl (.nil) call9 (fun w m hK => by have hle_ := KC.le hK; have hA := KC.agree hK; exact shown_c hA)) <| .cons rfl (zH rfl) <| .nil) fun a2 w2 m2 hst2 hle2 hk2 => ?_
 have hfr2 := hk2.fr (.o 0 <| .n 3 <| .nil)
 replace h_l := h_l.mono hle2
 replace hM := hM.trans hle2
 clear hst1 hfr1 hk2
 refine hK2 _ _ ?_
 refine zE fun _ hK3 => ?_
 replace hst2 := hst2.more (r := .free) trivial List.nodup_nil (by simp [Res.blocks])
 refine ra0 (tch := [(1, 0, (fun v => .blk v _)), (2, 0, (fun v => .blkx v _ _))]) hst2 hfr2 (.cons rfl (zZ (φ := MP.subQ zAB) rfl (.nil) call10 (fun w m hK => by have hle_ := KC.le hK; have hA := KC.agree hK; exact FnG.mono (zEf hA) fun _ _ _ _ h => h)) <| .consT rfl rfl (fun _ => rfl) rfl (zj zeroValue29 rfl) <| .consT rfl rfl (fun _ => rfl) rfl (ze 4 rfl rfl rfl fun y4 => ZL 14 rfl rfl rfl fun y14 => ZD rfl rfl rfl rfl rfl sizeOf29 rfl rfl rfl) <| .nil) fun a3 w3 m3 hst3 hle3 hk3 => ?_
 have hfr3 := hk3.fr (.o 0 <| .o 3 <| .nil)
 obtain ⟨g4, e4, _⟩ := hk3.ex 4 rfl
 replace hfr3 := hfr3.cons e4
 replace hst3 := hst3.fin (L' := [_]) (.cons e4 <| .cons e4 <| .nil)
 try simp only [List.take_succ_cons, List.take_zero, List.drop_succ_cons, List.drop_zero, List.cons_append, List.nil_append, List.append_nil, List.length_cons, List.length_nil, Nat.zero_add, Nat.reduceAdd] at hst3
 obtain ⟨⟨q1, q2⟩, hS0, hst3⟩ := hst3.unx (k := 0) rfl (fun _ => rfl)
 replace h_l := h_l.mono hle3
 replace hM := hM.trans hle3
 clear hst2 hfr2 hk3
 refine hK3 _ _ ?_
 refine zE fun _ hK6 => ?_
 replace hst3 := hst3.more (r := .free) trivial List.nodup_nil (by simp [Res.blocks])
 refine ra0 (tch := [(1, 1, (fun v => .blk v _))]) hst3 hfr3 (.cons rfl (ZM (.cons rfl <| .nil) underlying39 zeroValue39 (.cons sizeOf36 <| .cons sizeOf3 <| .cons sizeOf37 <| .nil) rfl) <| .consT rfl rfl (fun _ => rfl) rfl (zAR rfl rfl) <| .consA 16 rfl rfl <| .nil) fun a4 w4 m4 hst4 hle4 hk4 => ?_
 have hfr4 := hk4.fr (.o 0 <| .o 3 <| .o 4 <| .nil)
 obtain ⟨gW, e7, _⟩ := hk4.ex 16 rfl
 replace hfr4 := hfr4.cons (hk4.same 5 rfl e7)
 replace hst4 := hst4.fin (L' := [_, _]) (.cons e7 <| .nil)
 replace h_l := h_l.mono hle4
 replace hS0 := hS0.mono hle4
 replace hM := hM.trans hle4
 clear hst3 hfr3 hk4
 refine hK6 _ _ ?_
 refine zE fun _ hK8 => ?_
 refine rp0 hst4 hfr4 (.cons rfl (zH rfl) <| .nil) fun a5 w5 m5 hst5 hle5 hk5 => ?_
 have hfr5 := hk5.fr (.o 0 <| .o 3 <| .o 4 <| .o 5 <| .n 6 <| .nil)
 replace h_l := h_l.mono hle5
 replace hS0 := hS0.mono hle5
 replace hM := hM.trans hle5
 clear hst4 hfr4 hk5
 refine hK8 _ _ ?_
 refine zE fun _ hK9 => ?_
 refine zE fun _ hK10 => ?_
 refine rp0 hst5 hfr5 (.cons rfl (zH rfl) <| .nil) fun a6 w6 m6 hst6 hle6 hk6 => ?_
 have hfr6 := hk6.fr (.o 0 <| .o 3 <| .o 4 <| .o 5 <| .o 6 <| .n 7 <| .nil)
 replace h_l := h_l.mono hle6
 replace hS0 := hS0.mono hle6
 replace hM := hM.trans hle6
 clear hst5 hfr5 hk6
 refine hK10 _ _ ?_
 refine zT ?_
 refine z6 (T := [(0, _), (3, _), (4, _)]) (fun (y : Nat × Value × Value × Nat × USt × QQ × ZZ) => ([(5, y.2.1), (6, y.2.2.1), (7, .int .i64 (y.1 : Int))] : List (Nat × Value))) (fun y => [.blk (.pointer (some ⟨g4, 0, none⟩)) (.cells (zAJ y.2.2.2.2.2.1).toArray 29), RB y.2.2.2.1 y.2.2.2.2.1.s y.2.2.2.2.2.2 y.2.2.2.2.1.nx 0]) (fun (y : Nat × Value × Value × Nat × USt × QQ × ZZ) m => (fun (y : Nat) (vW : Value) (vN : Value) (gw : Nat) (U : USt) (q : QQ) (z : ZZ) => (y ≤ min l.length 4) ∧ (vW = .pointer (some ⟨gw, 0, none⟩)) ∧ (vN = .int .i64 U.nx) ∧ (SubQ m U.s (zAJ q)) ∧ (RSubR m U.s (rsV U.s z)) ∧ (∃ rv w, SmU rv w U)) y.1 y.2.1 y.2.2.1 y.2.2.2.1 y.2.2.2.2.1 y.2.2.2.2.2.1 y.2.2.2.2.2.2) (fun y => min l.length 4 - y.1) ((0, .pointer (some ⟨gW, 0, none⟩), .int .i64 9, gW, ⟨zAB, 9⟩, (q1, q2), (((none, 0), (none, 0)), (none, 0), (none, 0)))) ⟨hst6, MLe.refl _, hfr6.sub (.c <| .c <| .c <| .c <| .c <| .c <| .nil), ⟨Nat.zero_le _, rfl, rfl, hS0, rs_none, ⟨_, _, smU_none (by omega) (by omega)⟩⟩⟩ fun y a7 w7 m7 hh7 => ?_
 have hst7 := hh7.st; have hle7 := hh7.le; have hfr7 := hh7.fr; have hrel := hh7.rel; clear hh7
 replace h_l := h_l.mono hle7
 replace hS0 := hS0.mono hle7
 clear hst6 hfr6
 replace hM := hM.trans hle7
 obtain ⟨y, vW, vN, gw, U, q, z⟩ := y
 dsimp only at hrel hfr7 hst7
 obtain ⟨hyn, rfl, rfl, hS, hW, hJs⟩ := hrel
 obtain ⟨rv9, w9, hSm⟩ := hJs
 have hlh7 := hle7
 refine zE fun _ hK12 => ?_
 refine zE fun _ hK13 => ?_
 refine rp0 hst7 hfr7 (.cons rfl (zG rfl) <| .cons rfl (zG rfl) <| .cons rfl (zt rfl underlying22) <| .cons rfl (ZG rfl rfl) <| .cons rfl (zG rfl) <| .cons rfl (zG rfl) <| .cons rfl (ZG rfl rfl) <| .cons rfl (z8 rfl rfl rfl) <| .nil) fun a8 w8 m8 hst8 hle8 hk8 => ?_
 have hfr8 := hk8.fr (.o 5 <| .o 6 <| .o 7 <| .o 0 <| .o 3 <| .o 4 <| .n 24 <| .nil)
 replace h_l := h_l.mono hle8
 replace hS0 := hS0.mono hle8
 replace hS := hS.mono hle8
 replace hW := hW.mono hle8
 have hlh8 := hlh7.trans hle8
 replace hM := hM.trans hle8
 clear hst7 hfr7 hk8
 refine hK13 _ _ ?_
 refine zJ hfr8 rfl rfl (fun hb24 => ?_) (fun hb24 => ?_)
 ·try simp only [nqs] at hb24
  refine zR ?_
  refine hK12 _ _ ?_
  refine zE fun _ hK14 => ?_
  refine zT ?_
  refine zE fun _ hK15 => ?_
  refine zE fun _ hK16 => ?_
  obtain ⟨p17, vs17, x17, ho17, hd17, hm_x17, ht17, hcv17, hl17, hv17⟩ := h_l.nth (k := y) (by omega)
  cases ho17
  obtain ⟨⟨⟨oa17, ca17⟩, ob17, cb17⟩, ⟨⟨oc17, cc17⟩, od17, cd17⟩, rfl, hty17, htz17⟩ := id hv17
  refine rp0 hst8 hfr8 (.cons rfl (zG rfl) <| .cons rfl (zG rfl) <| .cons rfl (zN (k := y) rfl rfl underlying22 sizeOf47 rfl (by omega)) <| .cons rfl (zF (off := 0) rfl underlying47 rfl rfl sizeOf45 rfl) <| .cons rfl (Zs rfl hcv17 isAgg45 sizeOf45 rfl rfl) <| .cons rfl (zp rfl (.cons rfl <| .nil) call11 (fun w m hK => by have hle_ := KC.le hK; have hA := KC.agree hK; have hty17 := hty17.mono hle_; exact small_c (t := x17.1) hA hty17 (by have := hw x17 hm_x17; omega))) <| .cons rfl (zBJ rfl) <| .cons rfl (zG rfl) <| .cons rfl (zG rfl) <| .cons rfl (zG rfl) <| .cons rfl (zN (k := y) rfl rfl underlying22 sizeOf47 rfl (by omega)) <| .cons rfl (zF (off := 6) rfl underlying47 rfl rfl sizeOf45 rfl) <| .cons rfl (Zs rfl hcv17 isAgg45 sizeOf45 rfl rfl) <| .cons rfl (zp rfl (.cons rfl <| .nil) call11 (fun w m hK => by have hle_ := KC.le hK; have hA := KC.agree hK; have htz17 := htz17.mono hle_; exact small_c (t := x17.2) hA htz17 (by have := hw x17 hm_x17; omega))) <| .cons rfl (zBJ rfl) <| .cons rfl (zAq rfl rfl rfl) <| .nil) fun a9 w9 m9 hst9 hle9 hk9 => ?_
  have hfr9 := hk9.fr (.o 5 <| .o 6 <| .o 7 <| .o 0 <| .o 3 <| .o 4 <| .n 42 <| .nil)
  clear hst8 hfr8 hk9
  have hwx := hw x17 hm_x17
  refine hK16 _ _ ?_
  refine zJ hfr9 rfl rfl (fun hb42 => ?_) (fun hb42 => ?_)
  ·try simp only [nqs] at hb42
   refine z7 ?_
   refine hK14 _ _ ?_
   skip
   refine rp0 hst9 hfr9 (.cons rfl (zG rfl) <| .cons rfl (zy rfl rfl ⟨by omega, by omega⟩) <| .cons rfl (zH rfl) <| .nil) fun a10 w10 m10 hst10 hle10 hk10 => ?_
   have hfr10 := hk10.fr (.o 5 <| .o 6 <| .o 0 <| .o 3 <| .o 4 <| .n 7 <| .nil)
   clear hst9 hfr9 hk10
   have zq1 := hle9.trans hle10
   replace hS := hS.mono zq1
   replace hW := hW.mono zq1
   have hlh10 := hlh8.trans zq1
   exact ⟨(y + 1, .pointer (some ⟨gw, 0, none⟩), .int .i64 U.nx, gw, U, q, z), m10, by show min l.length 4 - (y + 1) < min l.length 4 - y; omega, ⟨hst10, hlh10, hfr10.sub (.c <| .c <| .c <| .c <| .c <| .c <| .nil), ⟨by show y + 1 ≤ min l.length 4; omega, rfl, rfl, hS, hW, ⟨_, _, hSm⟩⟩⟩⟩
  ·try simp only [nqs] at hb42
   have ha : zBP x17.1 = true := by simp_all
   have hb : zBP x17.2 = true := by simp_all
   obtain ⟨hra, _, hwda, hcta⟩ := zBt ha
   obtain ⟨hrb, _, hwdb, hctb⟩ := zBt hb
   obtain ⟨k9, R9, hR9, ⟨rv8, w8, hU8⟩, hn9⟩ := sm_run hSm ha hb
   obtain ⟨O9, hO9⟩ : ∃ O, O = zDY R9 U := ⟨_, rfl⟩
   have hf9 : O9.1 = R9.1 := by rw [hO9, outU_fst]
   refine zR ?_
   refine hK15 _ _ ?_
   refine zE fun _ hK18 => ?_
   refine zE fun _ hK19 => ?_
   replace hcv17 := hcv17.mono hle9
   replace hty17 := hty17.mono hle9
   refine Zf (fun _ => mixed) hst9 hfr9 (by kernel_rfl) (by kernel_rfl) (.cons rfl (zG rfl) <| .cons rfl (zG rfl) <| .cons rfl (zN (k := y) rfl rfl underlying22 sizeOf47 rfl (by omega)) <| .cons rfl (zF (off := 0) rfl underlying47 rfl rfl sizeOf45 rfl) <| .cons rfl (Zs rfl hcv17 isAgg45 sizeOf45 rfl rfl) <| .cons rfl (zp rfl (.cons rfl <| .nil) call12 (fun w m hK => by have hle_ := KC.le hK; have hA := KC.agree hK; have hty17 := hty17.mono hle_; exact large_c (t := x17.1) hA hty17 (by omega))) <| .cons rfl (zG rfl) <| .cons rfl (zG rfl) <| .cons rfl (zN (k := y) rfl rfl underlying22 sizeOf47 rfl (by omega)) <| .cons rfl (zF (off := 0) rfl underlying47 rfl rfl sizeOf45 rfl) <| .cons rfl (Zs rfl hcv17 isAgg45 sizeOf45 rfl rfl) <| .cons rfl (zp rfl (.cons rfl <| .nil) call13 (fun w m hK => by have hle_ := KC.le hK; have hA := KC.agree hK; have hty17 := hty17.mono hle_; exact zGG (t := x17.1) hA hty17 (by omega))) <| .cons rfl (ob_bneq rfl rfl underlying4) <| .nil) fun a10 w10 m10 hst10 hle10 hk10 => ?_
   have hfr10 := hk10.fr (.o 5 <| .o 6 <| .o 7 <| .o 0 <| .o 3 <| .o 4 <| .n 55 <| .nil)
   clear hst9 hfr9 hk10
   refine hK19 _ _ ?_
   refine zJ hfr10 rfl rfl (fun hb55 => ?_) (fun hb55 => ?_)
   ·try simp only [nqs] at hb55
    have hno : False := by simp at hb55
    refine zE fun _ hK20 => ?_
    refine rp0 hst10 hfr10 (.cons rfl (zH rfl) <| .nil) fun a11 w11 m11 hst11 hle11 hk11 => ?_
    have hfr11 := hk11.fr (.o 5 <| .o 6 <| .o 7 <| .n 2 <| .nil)
    clear hst10 hfr10 hk11
    refine hK20 _ _ ?_
    refine zU ?_
    repeat (with_reducible first | refine zL ?_ | refine zI ?_)
    exact zV hst11 hfr11 rfl (.tmp rfl <| .nil) (hno.elim)
   ·try simp only [nqs] at hb55
    refine zR ?_
    refine hK18 _ _ ?_
    refine zE fun _ hK22 => ?_
    replace hst10 := hst10.more (r := .free) trivial List.nodup_nil (by simp [Res.blocks])
    have zq2 := hle9.trans hle10
    replace hS := hS.mono zq2
    replace htz17 := htz17.mono zq2
    replace hcv17 := hcv17.mono hle10
    replace hty17 := hty17.mono hle10
    refine zn (tch := [(17, 2, (fun v => .blk v _)), (18, 2, (fun v => .blkx v _ _))]) (fun _ => mixed) hst10 hfr10 (by kernel_rfl) (by kernel_rfl) (by kernel_rfl) (.cons rfl (zh (j := 0) rfl rfl isAgg29 sizeOf29 rfl) <| .cons rfl (zG rfl) <| .cons rfl (zG rfl) <| .cons rfl (zN (k := y) rfl rfl underlying22 sizeOf47 rfl (by omega)) <| .cons rfl (zF (off := 0) rfl underlying47 rfl rfl sizeOf45 rfl) <| .cons rfl (Zs rfl hcv17 isAgg45 sizeOf45 rfl rfl) <| .cons rfl (zG rfl) <| .cons rfl (zG rfl) <| .cons rfl (zN (k := y) rfl rfl underlying22 sizeOf47 rfl (by omega)) <| .cons rfl (zF (off := 6) rfl underlying47 rfl rfl sizeOf45 rfl) <| .cons rfl (Zs rfl hcv17 isAgg45 sizeOf45 rfl rfl) <| .cons rfl (zG rfl) <| .cons rfl (zZ (φ := MP.un O9) rfl (.cons rfl <| .cons rfl <| .cons rfl <| .cons rfl <| .nil) call14 (fun w m hK => by have hle_ := KC.le hK; have hA := KC.agree hK; have hS := hS.mono hle_; have hty17 := hty17.mono hle_; have htz17 := htz17.mono hle_; exact FnG.mono ((by rw [hO9]; exact types7_c (n := U.nx) hA hS hty17 htz17 hR9)) fun _ _ _ _ h => h)) <| .cons rfl (ZK 69 rfl rfl rfl fun y69 => zG rfl) <| .cons rfl (ZK 56 rfl rfl rfl fun y56 => zk rfl rfl) <| .cons rfl (ZI 56 rfl rfl rfl fun y56 => zk rfl rfl) <| .cons rfl (ZI 56 rfl rfl rfl fun y56 => zk rfl rfl) <| .consT rfl rfl (fun _ => rfl) rfl (zj zeroValue29 rfl) <| .consT rfl rfl (fun _ => rfl) rfl (ze 8 rfl rfl rfl fun y8 => ZL 70 rfl rfl rfl fun y70 => ZD rfl rfl rfl rfl rfl sizeOf29 rfl rfl rfl) <| .cons rfl (zH rfl) <| .cons rfl (zH rfl) <| .nil) fun a11 w11 m11 hst11 hle11 hk11 => ?_
    have hfr11 := hk11.fr (.o 5 <| .o 6 <| .o 7 <| .o 0 <| .o 3 <| .o 4 <| .n 9 <| .n 10 <| .nil)
    obtain ⟨g23, e23, _⟩ := hk11.ex 8 rfl
    replace hfr11 := hfr11.cons e23
    replace hst11 := hst11.fin (L' := [_, _, _]) (.cons e23 <| .cons e23 <| .nil)
    try simp only [List.take_succ_cons, List.take_zero, List.drop_succ_cons, List.drop_zero, List.cons_append, List.nil_append, List.append_nil, List.length_cons, List.length_nil, Nat.zero_add, Nat.reduceAdd] at hst11
    obtain ⟨⟨q8, q9⟩, hS8, hst11⟩ := hst11.unx (k := 2) rfl (fun _ => rfl)
    clear hst10 hfr10 hk11
    refine hK22 _ _ ?_
    refine zE fun _ hK25 => ?_
    replace hst11 := hst11.more (r := .free) trivial List.nodup_nil (by simp [Res.blocks])
    refine ra0 (tch := [(3, 3, (fun v => .blk v _)), (4, 3, (fun v => .blk v _))]) hst11 hfr11 (.cons rfl (zG rfl) <| .cons rfl (zg rfl) <| .cons rfl (zh (j := 1) rfl rfl isAgg39 sizeOf39 rfl) <| .consT rfl rfl (fun _ => rfl) rfl (zj zeroValue39 rfl) <| .consT rfl rfl (fun _ => rfl) rfl (ze 11 rfl rfl rfl fun y11 => ZD rfl rfl rfl rfl rfl sizeOf39 rfl rfl rfl) <| .nil) fun a12 w12 m12 hst12 hle12 hk12 => ?_
    have hfr12 := hk12.fr (.o 5 <| .o 6 <| .o 7 <| .o 0 <| .o 3 <| .o 4 <| .o 9 <| .o 10 <| .o 8 <| .nil)
    obtain ⟨gN, e26, _⟩ := hk12.ex 11 rfl
    replace hfr12 := hfr12.cons e26
    replace hst12 := hst12.fin (L' := [_, _, _, _]) (.cons e26 <| .cons e26 <| .nil)
    try simp only [List.take_succ_cons, List.take_zero, List.drop_succ_cons, List.drop_zero, List.cons_append, List.nil_append, List.append_nil, List.length_cons, List.length_nil, Nat.zero_add, Nat.reduceAdd] at hst12
    clear hst11 hfr11 hk12
    refine hK25 _ _ ?_
    refine zE fun _ hK27 => ?_
    have zq3 := hle11.trans hle12
    have zq4 := zq2.trans zq3
    replace h_l := h_l.mono zq4
    replace hS0 := hS0.mono zq4
    replace hW := hW.mono zq4
    replace hv17 := hv17.mono zq4
    replace hM := hM.trans zq4
    replace hS := hS.mono zq3
    replace hcv17 := hcv17.mono zq3
    replace hty17 := hty17.mono zq3
    replace htz17 := htz17.mono zq3
    replace hS8 := hS8.mono hle12
    refine zn (tch := [(11, 1, (fun _ => RK gw R9))]) (fun _ => mixed) hst12 hfr12 (by kernel_rfl) (by kernel_rfl) (by kernel_rfl) (.cons rfl (zG rfl) <| .cons rfl (zG rfl) <| .cons rfl (zG rfl) <| .cons rfl (zN (k := y) rfl rfl underlying22 sizeOf47 rfl (by omega)) <| .cons rfl (zF (off := 0) rfl underlying47 rfl rfl sizeOf45 rfl) <| .cons rfl (Zs rfl hcv17 isAgg45 sizeOf45 rfl rfl) <| .cons rfl (zG rfl) <| .cons rfl (zG rfl) <| .cons rfl (zN (k := y) rfl rfl underlying22 sizeOf47 rfl (by omega)) <| .cons rfl (zF (off := 6) rfl underlying47 rfl rfl sizeOf45 rfl) <| .cons rfl (Zs rfl hcv17 isAgg45 sizeOf45 rfl rfl) <| .consT rfl rfl (fun _ => rfl) rfl (ZV rfl (.cons rfl <| .cons rfl <| .cons rfl <| .nil) call15 (κ := .ex (MP.anyV)) (fun σ w m hK hr hkn => by have hle_ := KC.le hK; have hA := KC.agree hK; have hM := hM.trans hle_; have h_l := h_l.mono hle_; have hS0 := hS0.mono hle_; have hS := hS.mono hle_; have hW := hW.mono hle_; have hcv17 := hcv17.mono hle_; have hv17 := hv17.mono hle_; have hty17 := hty17.mono hle_; have htz17 := htz17.mono hle_; have hS8 := hS8.mono hle_; exact rp_T (rtypes_t k9 _ _ (0, U) R9 (fun h => absurd rfl h) (fun _ => hR9) hSm.gd hra hrb _ _ gw z _ _ hA hr hW hty17 htz17))) <| .nil) fun a13 w13 m13 hst13 hle13 hk13 => ?_
    have hfr13 := hk13.fr (.o 5 <| .o 6 <| .o 7 <| .o 0 <| .o 3 <| .o 4 <| .o 9 <| .o 10 <| .o 8 <| .o 11 <| .nil)
    obtain ⟨y28, e28, hy28⟩ := hk13.ex 87 rfl
    replace hst13 := hst13.fin (L' := [_, _, _, _]) (.cons e28 <| .nil)
    clear hst12 hfr12 hk13
    obtain ⟨z3, hst13, hW3⟩ := rp_open (k := 1) hst13 rfl
    simp only [List.set_cons_succ, List.set_cons_zero] at hst13
    refine hK27 _ _ ?_
    refine zE fun _ hK29 => ?_
    refine zE fun _ hK30 => ?_
    refine rp0 hst13 hfr13 (.cons rfl (zG rfl) <| .cons rfl (zG rfl) <| .cons rfl (zg rfl) <| .cons rfl (zF (off := 5) rfl underlying39 rfl rfl sizeOf37 rfl) <| .cons rfl (zW (j := 1) rfl rfl isAgg37 rfl) <| .cons rfl (Z6 rfl rfl) <| .nil) fun a14 w14 m14 hst14 hle14 hk14 => ?_
    have hfr14 := hk14.fr (.o 5 <| .o 6 <| .o 7 <| .o 0 <| .o 3 <| .o 4 <| .o 9 <| .o 10 <| .o 8 <| .o 11 <| .n 93 <| .nil)
    clear hst13 hfr13 hk14
    refine hK30 _ _ ?_
    refine zJ hfr14 rfl rfl (fun hb93 => ?_) (fun hb93 => ?_)
    ·try simp only [nqs] at hb93
     have hno : False := by first | exact hb93 hf9 | omega
     refine zE fun _ hK31 => ?_
     refine rp0 hst14 hfr14 (.cons rfl (zH rfl) <| .nil) fun a15 w15 m15 hst15 hle15 hk15 => ?_
     have hfr15 := hk15.fr (.o 5 <| .o 6 <| .o 7 <| .n 2 <| .nil)
     clear hst14 hfr14 hk15
     refine hK31 _ _ ?_
     refine zU ?_
     repeat (with_reducible first | refine zL ?_ | refine zI ?_)
     exact zV hst15 hfr15 rfl (.tmp rfl <| .nil) (hno.elim)
    ·try simp only [nqs] at hb93
     refine zR ?_
     refine hK29 _ _ ?_
     refine zE fun _ hK33 => ?_
     refine zE fun _ hK34 => ?_
     refine rp0 hst14 hfr14 (.cons rfl (zG rfl) <| .cons rfl (Z6 rfl rfl) <| .nil) fun a15 w15 m15 hst15 hle15 hk15 => ?_
     have hfr15 := hk15.fr (.o 5 <| .o 6 <| .o 7 <| .o 0 <| .o 3 <| .o 4 <| .o 9 <| .o 8 <| .o 11 <| .n 95 <| .nil)
     clear hst14 hfr14 hk15
     refine hK34 _ _ ?_
     refine zJ hfr15 rfl rfl (fun hb95 => ?_) (fun hb95 => ?_)
     ·try simp only [nqs] at hb95
      rw [out_err (by omega : R9.1 ≠ 0)] at hO9
      subst hO9
      have zq5 := hle14.trans hle15
      have zq6 := hle13.trans zq5
      replace hS8 := hS8.mono zq6
      have hS9 : SubQ m15 U.s (zAJ (q8, q9)) := hS8
      refine rp0 hst15 hfr15 (.cons rfl (zH rfl) <| .nil) fun a16 w16 m16 hst16 hle16 hk16 => ?_
      have hfr16 := hk16.fr (.o 6 <| .o 7 <| .o 0 <| .o 3 <| .o 4 <| .o 9 <| .o 8 <| .n 5 <| .nil)
      clear hst15 hfr15 hk16
      refine hK33 _ _ ?_
      refine zE fun _ hK35 => ?_
      refine ra0 (tch := [(1, 0, (fun _ => .blk _ _))]) hst16 hfr16 (.cons rfl (zh (j := 2) rfl rfl isAgg29 sizeOf29 rfl) <| .consT rfl rfl (fun _ => rfl) rfl (zm rfl rfl rfl sizeOf29 rfl rfl rfl) <| .nil) fun a17 w17 m17 hst17 hle17 hk17 => ?_
      have hfr17 := hk17.fr (.o 6 <| .o 7 <| .o 0 <| .o 3 <| .o 4 <| .o 9 <| .o 5 <| .nil)
      replace hst17 := hst17.fin (L' := [_, _, _, _]) (.cons rfl <| .nil)
      try simp only [List.take_succ_cons, List.take_zero, List.drop_succ_cons, List.drop_zero, List.cons_append, List.nil_append, List.append_nil, List.length_cons, List.length_nil, Nat.zero_add, Nat.reduceAdd] at hst17
      clear hst16 hfr16 hk17
      refine hK35 _ _ ?_
      refine zE fun _ hK36 => ?_
      refine rp0 hst17 hfr17 (.cons rfl (zG rfl) <| .cons rfl (zH rfl) <| .nil) fun a18 w18 m18 hst18 hle18 hk18 => ?_
      have hfr18 := hk18.fr (.o 7 <| .o 0 <| .o 3 <| .o 4 <| .o 5 <| .n 6 <| .nil)
      clear hst17 hfr17 hk18
      refine hK36 _ _ ?_
      refine zE fun _ hK37 => ?_
      refine zE fun _ hK38 => ?_
      refine rp0 hst18 hfr18 (.cons rfl (zG rfl) <| .cons rfl (zG rfl) <| .cons rfl (zg rfl) <| .cons rfl (zF (off := 4) rfl underlying39 rfl rfl sizeOf3 rfl) <| .cons rfl (zW (j := 3) rfl rfl isAgg3 rfl) <| .cons rfl (Z6 rfl rfl) <| .nil) fun a19 w19 m19 hst19 hle19 hk19 => ?_
      have hfr19 := hk19.fr (.o 7 <| .o 0 <| .o 3 <| .o 4 <| .o 5 <| .o 6 <| .n 103 <| .nil)
      clear hst18 hfr18 hk19
      refine hK38 _ _ ?_
      refine zJ hfr19 rfl rfl (fun hb103 => ?_) (fun hb103 => ?_)
      ·try simp only [nqs] at hb103
       have hno : False := by first | exact hb103 rfl | exact hb103 trivial | omega
       refine zE fun _ hK39 => ?_
       refine rp0 hst19 hfr19 (.cons rfl (zH rfl) <| .nil) fun a20 w20 m20 hst20 hle20 hk20 => ?_
       have hfr20 := hk20.fr (.o 7 <| .o 5 <| .o 6 <| .n 2 <| .nil)
       clear hst19 hfr19 hk20
       refine hK39 _ _ ?_
       refine zU ?_
       repeat (with_reducible first | refine zL ?_ | refine zI ?_)
       exact zV hst20 hfr20 rfl (.tmp rfl <| .nil) (hno.elim)
      ·try simp only [nqs] at hb103
       refine zR ?_
       refine hK37 _ _ ?_
       refine zE fun _ hK41 => ?_
       refine rp0 hst19 hfr19 (.cons rfl (zH rfl) <| .nil) fun a20 w20 m20 hst20 hle20 hk20 => ?_
       have hfr20 := hk20.fr (.o 7 <| .o 0 <| .o 3 <| .o 4 <| .o 5 <| .o 6 <| .n 12 <| .nil)
       clear hst19 hfr19 hk20
       refine hK41 _ _ ?_
       refine zT ?_
       have zq7 := hle19.trans hle20
       have zq8 := hle18.trans zq7
       have zq9 := hle17.trans zq8
       have zq10 := hle16.trans zq9
       have zq11 := zq6.trans zq10
       have zq12 := zq4.trans zq11
       have hlh20 := hlh8.trans zq12
       have hlq42 := hlh20
       refine z6 (T := [(7, _), (0, _), (3, _), (4, _), (5, _), (6, _)]) (fun (j : Nat) => ([(12, .int .i64 ((j + 1 : Nat) : Int))] : List (Nat × Value))) (fun _ => _) (fun (j : Nat) m => (j ≤ 29) ∧ (True)) (fun j => 29 - j) (0) ⟨hst20, MLe.refl _, hfr20.sub (.c <| .c <| .c <| .c <| .c <| .c <| .c <| .nil), ⟨Nat.zero_le _, trivial⟩⟩ fun j a21 w21 m21 hh21 => ?_
       have hst21 := hh21.st; have hle21 := hh21.le; have hfr21 := hh21.fr; have hrel := hh21.rel; clear hh21
       clear hst20 hfr20
       obtain ⟨hjn, _⟩ := hrel
       have hlh21 := hle21
       refine zE fun _ hK43 => ?_
       refine zE fun _ hK44 => ?_
       refine rp0 hst21 hfr21 (.cons rfl (zG rfl) <| .cons rfl (ZG rfl rfl) <| .nil) fun a22 w22 m22 hst22 hle22 hk22 => ?_
       have hfr22 := hk22.fr (.o 12 <| .o 7 <| .o 0 <| .o 3 <| .o 4 <| .o 5 <| .o 6 <| .n 105 <| .nil)
       clear hst21 hfr21 hk22
       refine hK44 _ _ ?_
       refine zJ hfr22 rfl rfl (fun hb105 => ?_) (fun hb105 => ?_)
       ·try simp only [nqs] at hb105
        refine zR ?_
        refine hK43 _ _ ?_
        refine zE fun _ hK45 => ?_
        refine zT ?_
        refine zE fun _ hK46 => ?_
        have hwt9 : wdT (Zn ((j + 1 : Nat) : Int)) ≤ 400000000 := by simp [Zn, wdT, zCG]
        have zq13 := hle21.trans hle22
        have zq14 := zq11.trans zq13
        replace hW := hW.mono zq14
        have zq15 := zq10.trans zq13
        replace hS9 := hS9.mono zq15
        refine Zf (fun _ => mixed) hst22 hfr22 (by kernel_rfl) (by kernel_rfl) (.cons rfl (zh (j := 0) rfl rfl isAgg29 sizeOf29 rfl) <| .cons rfl (zG rfl) <| .cons rfl (zZ (φ := MP.ty (Zn ((j + 1 : Nat) : Int))) rfl (.cons rfl <| .nil) call18 (fun w m hK => by have hle_ := KC.le hK; have hA := KC.agree hK; exact FnG.mono (zFL (n := ((j + 1 : Nat) : Int)) hA ⟨by omega, by omega⟩) fun _ _ _ _ h => h)) <| .cons rfl (ZI 110 rfl rfl rfl fun y110 => zZ (φ := MP.ty (zM (U).s (Zn ((j + 1 : Nat) : Int)))) rfl (.cons rfl <| .cons rfl <| .nil) call17 (fun w m hK => by have hle_ := KC.le hK; have hA := KC.agree hK; have hr0_ := hK.2; have hS9 := hS9.mono hle_; exact FnG.mono (zDi (Zn ((j + 1 : Nat) : Int)) hA hS9 hr0_ (hSm.w.up (by omega)) hwt9) fun _ _ _ _ h => h)) <| .cons rfl (zG rfl) <| .cons rfl (zg rfl) <| .cons rfl (zF (off := 0) rfl underlying39 rfl rfl sizeOf36 rfl) <| .cons rfl (Za (j := 3) rfl rfl isAgg36 sizeOf36 rfl rfl) <| .cons rfl (zG rfl) <| .cons rfl (zZ (φ := MP.ty (Zn ((j + 1 : Nat) : Int))) rfl (.cons rfl <| .nil) call18 (fun w m hK => by have hle_ := KC.le hK; have hA := KC.agree hK; exact FnG.mono (zFL (n := ((j + 1 : Nat) : Int)) hA ⟨by omega, by omega⟩) fun _ _ _ _ h => h)) <| .cons rfl (ZI 117 rfl rfl rfl fun y117 => zZ (φ := MP.ty (zM (U).s (Zn ((j + 1 : Nat) : Int)))) rfl (.cons rfl <| .cons rfl <| .nil) call19 (fun w m hK => by have hle_ := KC.le hK; have hA := KC.agree hK; have hr0_ := hK.2; have hW := hW.mono hle_; exact FnG.mono (zCn (Zn ((j + 1 : Nat) : Int)) hA hW hr0_ (hSm.w.up (by omega)) hwt9) fun _ _ _ _ h => h)) <| .cons rfl (ZI 111 rfl rfl rfl fun y111 => ZI 118 rfl rfl rfl fun y118 => zp rfl (.cons rfl <| .cons rfl <| .nil) call16 (fun w m hK => by have hle_ := KC.le hK; have hA := KC.agree hK; have hr0_ := hK.2; have hr1_ := hK.1.2; exact sameR_c (zM (U).s (Zn ((j + 1 : Nat) : Int))) (u := zM (U).s (Zn ((j + 1 : Nat) : Int))) hA hr1_ hr0_)) <| .cons rfl (zBJ rfl) <| .cons rfl (zG rfl) <| .cons rfl (zh (j := 0) rfl rfl isAgg29 sizeOf29 rfl) <| .cons rfl (zG rfl) <| .cons rfl (ZM (.cons rfl <| .nil) underlying43 zeroValue43 (.cons sizeOf41 <| .cons sizeOf3 <| .nil) rfl) <| .cons rfl (zZ (φ := MP.rw (zQ (U).s ⟨[], ((j + 1 : Nat) : Int)⟩)) rfl (.cons rfl <| .cons rfl <| .nil) call21 (fun w m hK => by have hle_ := KC.le hK; have hA := KC.agree hK; have hS9 := hS9.mono hle_; exact FnG.mono (zDx (r := ⟨[], ((j + 1 : Nat) : Int)⟩) hA hS9 ⟨none, 0, rfl, Sl.empty, (show Zg ((j + 1 : Nat) : Int) from ⟨by omega, by omega⟩)⟩ (hSm.w.up (by omega)) (by simp)) fun _ _ _ _ h => h)) <| .cons rfl (zG rfl) <| .cons rfl (zg rfl) <| .cons rfl (zF (off := 0) rfl underlying39 rfl rfl sizeOf36 rfl) <| .cons rfl (Za (j := 3) rfl rfl isAgg36 sizeOf36 rfl rfl) <| .cons rfl (zG rfl) <| .cons rfl (ZM (.cons rfl <| .nil) underlying43 zeroValue43 (.cons sizeOf41 <| .cons sizeOf3 <| .nil) rfl) <| .cons rfl (zZ (φ := MP.rw (zQ (U).s ⟨[], ((j + 1 : Nat) : Int)⟩)) rfl (.cons rfl <| .cons rfl <| .nil) call22 (fun w m hK => by have hle_ := KC.le hK; have hA := KC.agree hK; have hW := hW.mono hle_; exact FnG.mono (zCR (r := ⟨[], ((j + 1 : Nat) : Int)⟩) hA hW ⟨none, 0, rfl, Sl.empty, (show Zg ((j + 1 : Nat) : Int) from ⟨by omega, by omega⟩)⟩ (hSm.w.up (by omega)) (by simp)) fun _ _ _ _ h => h)) <| .cons rfl (ZI 125 rfl rfl rfl fun y125 => ZI 132 rfl rfl rfl fun y132 => zp rfl (.cons rfl <| .cons rfl <| .nil) call20 (fun w m hK => by have hle_ := KC.le hK; have hA := KC.agree hK; have hr0_ := hK.2; have hr1_ := hK.1.2; exact zES (a := zQ (U).s ⟨[], ((j + 1 : Nat) : Int)⟩) (b := zQ (U).s ⟨[], ((j + 1 : Nat) : Int)⟩) hA hr1_ hr0_)) <| .cons rfl (zBJ rfl) <| .cons rfl (zAq rfl rfl rfl) <| .nil) fun a23 w23 m23 hst23 hle23 hk23 => ?_
        have hfr23 := hk23.fr (.o 12 <| .o 7 <| .o 0 <| .o 3 <| .o 4 <| .o 5 <| .o 6 <| .n 135 <| .nil)
        clear hst22 hfr22 hk23
        refine hK46 _ _ ?_
        refine zJ hfr23 rfl rfl (fun hb135 => ?_) (fun hb135 => ?_)
        ·try simp only [nqs] at hb135
         have hno : False := by simp [zGL] at hb135
         refine zE fun _ hK47 => ?_
         refine rp0 hst23 hfr23 (.cons rfl (zH rfl) <| .nil) fun a24 w24 m24 hst24 hle24 hk24 => ?_
         have hfr24 := hk24.fr (.o 12 <| .o 7 <| .o 5 <| .o 6 <| .n 2 <| .nil)
         clear hst23 hfr23 hk24
         refine hK47 _ _ ?_
         refine zU ?_
         repeat (with_reducible first | refine zL ?_ | refine zI ?_)
         exact zV hst24 hfr24 rfl (.tmp rfl <| .nil) (hno.elim)
        ·try simp only [nqs] at hb135
         refine zR ?_
         refine hK45 _ _ ?_
         refine rp0 hst23 hfr23 (.cons rfl (zG rfl) <| .cons rfl (zy rfl rfl ⟨by omega, by omega⟩) <| .cons rfl (zH rfl) <| .nil) fun a24 w24 m24 hst24 hle24 hk24 => ?_
         have hfr24 := hk24.fr (.o 7 <| .o 0 <| .o 3 <| .o 4 <| .o 5 <| .o 6 <| .n 12 <| .nil)
         clear hst23 hfr23 hk24
         have zq16 := hle23.trans hle24
         have zq17 := hle22.trans zq16
         have hlh24 := hlh21.trans zq17
         exact ⟨j + 1, m24, by show 29 - (j + 1) < 29 - j; omega, ⟨hst24, hlh24, hfr24.sub (.c <| .c <| .c <| .c <| .c <| .c <| .c <| .nil), ⟨by show j + 1 ≤ 29; omega, trivial⟩⟩⟩
       ·try simp only [nqs] at hb105
        refine z7 ?_
        refine hK14 _ _ ?_
        have hst22 := st_ad hst22
        refine rp0 hst22 hfr22 (.cons rfl (zG rfl) <| .cons rfl (zy rfl rfl ⟨by omega, by omega⟩) <| .cons rfl (zH rfl) <| .nil) fun a23 w23 m23 hst23 hle23 hk23 => ?_
        have hfr23 := hk23.fr (.o 12 <| .o 0 <| .o 3 <| .o 4 <| .o 5 <| .o 6 <| .n 7 <| .nil)
        clear hst22 hfr22 hk23
        have zq18 := hle22.trans hle23
        have zq19 := hle21.trans zq18
        have zq20 := zq11.trans zq19
        replace hW := hW.mono zq20
        have zq21 := zq10.trans zq19
        replace hS9 := hS9.mono zq21
        replace hlq42 := hlq42.trans zq19
        exact ⟨(y + 1, .pointer (some ⟨gN, 0, none⟩), .int .i64 (U).nx, gN, U, (q8, q9), z), m23, by show min l.length 4 - (y + 1) < min l.length 4 - y; omega, ⟨hst23, hlq42, hfr23.sub (.c <| .c <| .c <| .c <| .c <| .c <| .nil), ⟨by show y + 1 ≤ min l.length 4; omega, rfl, rfl, hS9, hW, ⟨_, _, hSm⟩⟩⟩⟩
     ·try simp only [nqs] at hb95
      have hz9 : R9.1 = 0 := by omega
      rw [out_ok hz9] at hO9
      subst hO9
      rw [hz9] at hst15
      have zq22 := hle14.trans hle15
      have zq23 := hle13.trans zq22
      replace hS8 := hS8.mono zq23
      have hS9 : SubQ m15 R9.2.s (zAJ (q8, q9)) := hS8
      refine zR ?_
      refine hK33 _ _ ?_
      refine zE fun _ hK49 => ?_
      refine ra0 (tch := [(1, 0, (fun _ => .blk _ _))]) hst15 hfr15 (.cons rfl (zh (j := 2) rfl rfl isAgg29 sizeOf29 rfl) <| .consT rfl rfl (fun _ => rfl) rfl (zm rfl rfl rfl sizeOf29 rfl rfl rfl) <| .nil) fun a16 w16 m16 hst16 hle16 hk16 => ?_
      have hfr16 := hk16.fr (.o 5 <| .o 6 <| .o 7 <| .o 0 <| .o 3 <| .o 4 <| .o 9 <| .nil)
      replace hst16 := hst16.fin (L' := [_, _, _, _]) (.cons rfl <| .nil)
      try simp only [List.take_succ_cons, List.take_zero, List.drop_succ_cons, List.drop_zero, List.cons_append, List.nil_append, List.append_nil, List.length_cons, List.length_nil, Nat.zero_add, Nat.reduceAdd] at hst16
      clear hst15 hfr15 hk16
      refine hK49 _ _ ?_
      refine zE fun _ hK50 => ?_
      refine rp0 hst16 hfr16 (.cons rfl (zG rfl) <| .cons rfl (zH rfl) <| .nil) fun a17 w17 m17 hst17 hle17 hk17 => ?_
      have hfr17 := hk17.fr (.o 5 <| .o 7 <| .o 0 <| .o 3 <| .o 4 <| .n 6 <| .nil)
      clear hst16 hfr16 hk17
      refine hK50 _ _ ?_
      refine zE fun _ hK51 => ?_
      refine zE fun _ hK52 => ?_
      refine rp0 hst17 hfr17 (.cons rfl (zG rfl) <| .cons rfl (zG rfl) <| .cons rfl (zg rfl) <| .cons rfl (zF (off := 4) rfl underlying39 rfl rfl sizeOf3 rfl) <| .cons rfl (zW (j := 1) rfl rfl isAgg3 rfl) <| .cons rfl (Z6 rfl rfl) <| .nil) fun a18 w18 m18 hst18 hle18 hk18 => ?_
      have hfr18 := hk18.fr (.o 5 <| .o 7 <| .o 0 <| .o 3 <| .o 4 <| .o 6 <| .n 103 <| .nil)
      clear hst17 hfr17 hk18
      refine hK52 _ _ ?_
      refine zJ hfr18 rfl rfl (fun hb103 => ?_) (fun hb103 => ?_)
      ·try simp only [nqs] at hb103
       have hno : False := by first | exact hb103 rfl | exact hb103 trivial | omega
       refine zE fun _ hK53 => ?_
       refine rp0 hst18 hfr18 (.cons rfl (zH rfl) <| .nil) fun a19 w19 m19 hst19 hle19 hk19 => ?_
       have hfr19 := hk19.fr (.o 5 <| .o 7 <| .o 6 <| .n 2 <| .nil)
       clear hst18 hfr18 hk19
       refine hK53 _ _ ?_
       refine zU ?_
       repeat (with_reducible first | refine zL ?_ | refine zI ?_)
       exact zV hst19 hfr19 rfl (.tmp rfl <| .nil) (hno.elim)
      ·try simp only [nqs] at hb103
       refine zR ?_
       refine hK51 _ _ ?_
       refine zE fun _ hK55 => ?_
       refine rp0 hst18 hfr18 (.cons rfl (zH rfl) <| .nil) fun a19 w19 m19 hst19 hle19 hk19 => ?_
       have hfr19 := hk19.fr (.o 5 <| .o 7 <| .o 0 <| .o 3 <| .o 4 <| .o 6 <| .n 12 <| .nil)
       clear hst18 hfr18 hk19
       refine hK55 _ _ ?_
       refine zT ?_
       have zq24 := hle18.trans hle19
       have zq25 := hle17.trans zq24
       have zq26 := hle16.trans zq25
       have zq27 := zq23.trans zq26
       have zq28 := zq4.trans zq27
       have hlh19 := hlh8.trans zq28
       have hlq56 := hlh19
       refine z6 (T := [(5, _), (7, _), (0, _), (3, _), (4, _), (6, _)]) (fun (j : Nat) => ([(12, .int .i64 ((j + 1 : Nat) : Int))] : List (Nat × Value))) (fun _ => _) (fun (j : Nat) m => (j ≤ 29) ∧ (True)) (fun j => 29 - j) (0) ⟨hst19, MLe.refl _, hfr19.sub (.c <| .c <| .c <| .c <| .c <| .c <| .c <| .nil), ⟨Nat.zero_le _, trivial⟩⟩ fun j a20 w20 m20 hh20 => ?_
       have hst20 := hh20.st; have hle20 := hh20.le; have hfr20 := hh20.fr; have hrel := hh20.rel; clear hh20
       clear hst19 hfr19
       obtain ⟨hjn, _⟩ := hrel
       have hlh20 := hle20
       refine zE fun _ hK57 => ?_
       refine zE fun _ hK58 => ?_
       refine rp0 hst20 hfr20 (.cons rfl (zG rfl) <| .cons rfl (ZG rfl rfl) <| .nil) fun a21 w21 m21 hst21 hle21 hk21 => ?_
       have hfr21 := hk21.fr (.o 12 <| .o 5 <| .o 7 <| .o 0 <| .o 3 <| .o 4 <| .o 6 <| .n 105 <| .nil)
       clear hst20 hfr20 hk21
       refine hK58 _ _ ?_
       refine zJ hfr21 rfl rfl (fun hb105 => ?_) (fun hb105 => ?_)
       ·try simp only [nqs] at hb105
        refine zR ?_
        refine hK57 _ _ ?_
        refine zE fun _ hK59 => ?_
        refine zT ?_
        refine zE fun _ hK60 => ?_
        have hwt9 : wdT (Zn ((j + 1 : Nat) : Int)) ≤ 400000000 := by simp [Zn, wdT, zCG]
        have zq29 := hle20.trans hle21
        have zq30 := zq26.trans zq29
        have zq31 := zq22.trans zq30
        replace hW3 := hW3.mono zq31
        replace hS9 := hS9.mono zq30
        refine Zf (fun _ => mixed) hst21 hfr21 (by kernel_rfl) (by kernel_rfl) (.cons rfl (zh (j := 0) rfl rfl isAgg29 sizeOf29 rfl) <| .cons rfl (zG rfl) <| .cons rfl (zZ (φ := MP.ty (Zn ((j + 1 : Nat) : Int))) rfl (.cons rfl <| .nil) call18 (fun w m hK => by have hle_ := KC.le hK; have hA := KC.agree hK; exact FnG.mono (zFL (n := ((j + 1 : Nat) : Int)) hA ⟨by omega, by omega⟩) fun _ _ _ _ h => h)) <| .cons rfl (ZI 110 rfl rfl rfl fun y110 => zZ (φ := MP.ty (zM (R9.2).s (Zn ((j + 1 : Nat) : Int)))) rfl (.cons rfl <| .cons rfl <| .nil) call17 (fun w m hK => by have hle_ := KC.le hK; have hA := KC.agree hK; have hr0_ := hK.2; have hS9 := hS9.mono hle_; exact FnG.mono (zDi (Zn ((j + 1 : Nat) : Int)) hA hS9 hr0_ (hU8.w.up (by omega)) hwt9) fun _ _ _ _ h => h)) <| .cons rfl (zG rfl) <| .cons rfl (zg rfl) <| .cons rfl (zF (off := 0) rfl underlying39 rfl rfl sizeOf36 rfl) <| .cons rfl (Za (j := 1) rfl rfl isAgg36 sizeOf36 rfl rfl) <| .cons rfl (zG rfl) <| .cons rfl (zZ (φ := MP.ty (Zn ((j + 1 : Nat) : Int))) rfl (.cons rfl <| .nil) call18 (fun w m hK => by have hle_ := KC.le hK; have hA := KC.agree hK; exact FnG.mono (zFL (n := ((j + 1 : Nat) : Int)) hA ⟨by omega, by omega⟩) fun _ _ _ _ h => h)) <| .cons rfl (ZI 117 rfl rfl rfl fun y117 => zZ (φ := MP.ty (zM (R9.2).s (Zn ((j + 1 : Nat) : Int)))) rfl (.cons rfl <| .cons rfl <| .nil) call19 (fun w m hK => by have hle_ := KC.le hK; have hA := KC.agree hK; have hr0_ := hK.2; have hW3 := hW3.mono hle_; exact FnG.mono (zCn (Zn ((j + 1 : Nat) : Int)) hA hW3 hr0_ (hU8.w.up (by omega)) hwt9) fun _ _ _ _ h => h)) <| .cons rfl (ZI 111 rfl rfl rfl fun y111 => ZI 118 rfl rfl rfl fun y118 => zp rfl (.cons rfl <| .cons rfl <| .nil) call16 (fun w m hK => by have hle_ := KC.le hK; have hA := KC.agree hK; have hr0_ := hK.2; have hr1_ := hK.1.2; exact sameR_c (zM (R9.2).s (Zn ((j + 1 : Nat) : Int))) (u := zM (R9.2).s (Zn ((j + 1 : Nat) : Int))) hA hr1_ hr0_)) <| .cons rfl (zBJ rfl) <| .cons rfl (zG rfl) <| .cons rfl (zh (j := 0) rfl rfl isAgg29 sizeOf29 rfl) <| .cons rfl (zG rfl) <| .cons rfl (ZM (.cons rfl <| .nil) underlying43 zeroValue43 (.cons sizeOf41 <| .cons sizeOf3 <| .nil) rfl) <| .cons rfl (zZ (φ := MP.rw (zQ (R9.2).s ⟨[], ((j + 1 : Nat) : Int)⟩)) rfl (.cons rfl <| .cons rfl <| .nil) call21 (fun w m hK => by have hle_ := KC.le hK; have hA := KC.agree hK; have hS9 := hS9.mono hle_; exact FnG.mono (zDx (r := ⟨[], ((j + 1 : Nat) : Int)⟩) hA hS9 ⟨none, 0, rfl, Sl.empty, (show Zg ((j + 1 : Nat) : Int) from ⟨by omega, by omega⟩)⟩ (hU8.w.up (by omega)) (by simp)) fun _ _ _ _ h => h)) <| .cons rfl (zG rfl) <| .cons rfl (zg rfl) <| .cons rfl (zF (off := 0) rfl underlying39 rfl rfl sizeOf36 rfl) <| .cons rfl (Za (j := 1) rfl rfl isAgg36 sizeOf36 rfl rfl) <| .cons rfl (zG rfl) <| .cons rfl (ZM (.cons rfl <| .nil) underlying43 zeroValue43 (.cons sizeOf41 <| .cons sizeOf3 <| .nil) rfl) <| .cons rfl (zZ (φ := MP.rw (zQ (R9.2).s ⟨[], ((j + 1 : Nat) : Int)⟩)) rfl (.cons rfl <| .cons rfl <| .nil) call22 (fun w m hK => by have hle_ := KC.le hK; have hA := KC.agree hK; have hW3 := hW3.mono hle_; exact FnG.mono (zCR (r := ⟨[], ((j + 1 : Nat) : Int)⟩) hA hW3 ⟨none, 0, rfl, Sl.empty, (show Zg ((j + 1 : Nat) : Int) from ⟨by omega, by omega⟩)⟩ (hU8.w.up (by omega)) (by simp)) fun _ _ _ _ h => h)) <| .cons rfl (ZI 125 rfl rfl rfl fun y125 => ZI 132 rfl rfl rfl fun y132 => zp rfl (.cons rfl <| .cons rfl <| .nil) call20 (fun w m hK => by have hle_ := KC.le hK; have hA := KC.agree hK; have hr0_ := hK.2; have hr1_ := hK.1.2; exact zES (a := zQ (R9.2).s ⟨[], ((j + 1 : Nat) : Int)⟩) (b := zQ (R9.2).s ⟨[], ((j + 1 : Nat) : Int)⟩) hA hr1_ hr0_)) <| .cons rfl (zBJ rfl) <| .cons rfl (zAq rfl rfl rfl) <| .nil) fun a22 w22 m22 hst22 hle22 hk22 => ?_
        have hfr22 := hk22.fr (.o 12 <| .o 5 <| .o 7 <| .o 0 <| .o 3 <| .o 4 <| .o 6 <| .n 135 <| .nil)
        clear hst21 hfr21 hk22
        refine hK60 _ _ ?_
        refine zJ hfr22 rfl rfl (fun hb135 => ?_) (fun hb135 => ?_)
        ·try simp only [nqs] at hb135
         have hno : False := by simp [zGL] at hb135
         refine zE fun _ hK61 => ?_
         refine rp0 hst22 hfr22 (.cons rfl (zH rfl) <| .nil) fun a23 w23 m23 hst23 hle23 hk23 => ?_
         have hfr23 := hk23.fr (.o 12 <| .o 5 <| .o 7 <| .o 6 <| .n 2 <| .nil)
         clear hst22 hfr22 hk23
         refine hK61 _ _ ?_
         refine zU ?_
         repeat (with_reducible first | refine zL ?_ | refine zI ?_)
         exact zV hst23 hfr23 rfl (.tmp rfl <| .nil) (hno.elim)
        ·try simp only [nqs] at hb135
         refine zR ?_
         refine hK59 _ _ ?_
         refine rp0 hst22 hfr22 (.cons rfl (zG rfl) <| .cons rfl (zy rfl rfl ⟨by omega, by omega⟩) <| .cons rfl (zH rfl) <| .nil) fun a23 w23 m23 hst23 hle23 hk23 => ?_
         have hfr23 := hk23.fr (.o 5 <| .o 7 <| .o 0 <| .o 3 <| .o 4 <| .o 6 <| .n 12 <| .nil)
         clear hst22 hfr22 hk23
         have zq32 := hle22.trans hle23
         have zq33 := hle21.trans zq32
         have hlh23 := hlh20.trans zq33
         exact ⟨j + 1, m23, by show 29 - (j + 1) < 29 - j; omega, ⟨hst23, hlh23, hfr23.sub (.c <| .c <| .c <| .c <| .c <| .c <| .c <| .nil), ⟨by show j + 1 ≤ 29; omega, trivial⟩⟩⟩
       ·try simp only [nqs] at hb105
        refine z7 ?_
        refine hK14 _ _ ?_
        have hst21 := hst21.take 2
        refine rp0 hst21 hfr21 (.cons rfl (zG rfl) <| .cons rfl (zy rfl rfl ⟨by omega, by omega⟩) <| .cons rfl (zH rfl) <| .nil) fun a22 w22 m22 hst22 hle22 hk22 => ?_
        have hfr22 := hk22.fr (.o 12 <| .o 5 <| .o 0 <| .o 3 <| .o 4 <| .o 6 <| .n 7 <| .nil)
        clear hst21 hfr21 hk22
        have zq34 := hle21.trans hle22
        have zq35 := hle20.trans zq34
        have zq36 := zq26.trans zq35
        have zq37 := zq22.trans zq36
        replace hW3 := hW3.mono zq37
        replace hS9 := hS9.mono zq36
        replace hlq56 := hlq56.trans zq35
        exact ⟨(y + 1, .pointer (some ⟨gw, 0, none⟩), .int .i64 (R9.2).nx, gw, R9.2, (q8, q9), z3), m22, by show min l.length 4 - (y + 1) < min l.length 4 - y; omega, ⟨hst22, hlq56, hfr22.sub (.c <| .c <| .c <| .c <| .c <| .c <| .nil), ⟨by show y + 1 ≤ min l.length 4; omega, rfl, rfl, hS9, hW3, ⟨_, _, hU8⟩⟩⟩⟩
 ·try simp only [nqs] at hb24
  refine z7 ?_
  refine hK9 _ _ ?_
  refine zE fun _ hK63 => ?_
  refine rp0 hst8 hfr8 (.cons rfl (zG rfl) <| .cons rfl (zH rfl) <| .nil) fun a9 w9 m9 hst9 hle9 hk9 => ?_
  have hfr9 := hk9.fr (.o 5 <| .o 6 <| .o 7 <| .n 2 <| .nil)
  clear hst8 hfr8 hk9
  refine hK63 _ _ ?_
  refine zU ?_
  repeat (with_reducible first | refine zL ?_ | refine zI ?_)
  exact zV hst9 hfr9 rfl (.tmp rfl <| .nil) (rfl)
end Go.Proofs.YtlidonjpgigocaaGreat
namespace Go.Proofs.YtlidonjpgigocaaGreat
set_option linter.all false
open Go.RowKit Go.WideShapes Go.ChangeShapes Go.Deep Go.WideElems Go.ChangeAt Go.ChangeMaps
def zFJ (W : World) : Mem := ⟨fun b o => W.cell? ⟨b, o, none⟩, fun b => match W.heap[b]? with | some (.map es cl) => some (es, cl) | _ => none⟩
theorem agree_snap (W : World) : Agree W (zFJ W) := ⟨fun _ _ _ h => h, fun b es h => by
 change (match W.heap[b]? with | some (.map es cl) => some (es, cl) | _ => none) = some es at h
 split at h
 ·rename_i ents cl he
  injection h with h
  subst h; exact he
 ·cases h⟩
theorem cell_spot {W : World} {a : Addr} {v : Value} (h : W.cell? a = some v) : a.spot = none := by
 unfold World.cell? at h
 split at h
 ·split at h
  ·cases h
  ·rename_i hs; cases e : a.spot with
   | none => rfl
   | some x => rw [e] at hs; exact absurd rfl hs
 ·cases h
theorem snap_of {W : World} {a : Addr} {v : Value} (h : W.cell? a = some v) : zFJ W a.block a.off = some v := by
 have := cell_spot h
 show W.cell? ⟨a.block, a.off, none⟩ = some v
 rw [← h]; congr 1
 cases a; simp only at this; subst this; rfl
theorem cellsAt_snap {W : World} {base : Nat} {a : Addr} {n : Nat} {cs : List Value} (h : W.cells? base a n = some cs) (hn : 0 < n) : CellsAt (zFJ W) a cs ∧ cs.length = n := by
 obtain ⟨_, hl, hat⟩ := World.cells?_some h
 have h0 := hat 0 hn
 have e0 : a.add 0 = a := by unfold Addr.add; rfl
 rw [e0, List.getElem?_eq_getElem (by omega)] at h0
 refine ⟨⟨cell_spot h0, fun i v e => ?_⟩, hl⟩
 have hi : i < n := by have := (List.getElem?_eq_some_iff.1 e).1; omega
 have := hat i hi
 rw [e] at this
 have := snap_of this
 rwa [zDq, zFu] at this
section
variable {H : Type} {enc : TypeId × Value → H} {P : Program} {W : World} {base : Nat} {spare : Nat → Bool} {held : Bool}
theorem zEE (hl : laidOutB P = true) {W' : World} {sp : Nat → Bool} : ∀ {ts : List TypeId} {vs : List Value} {ds : List (DataW H)} {ps : List MemPlace}, (ts.all fun t => P.readableRec t && decide (t < P.types.size)) = true →
  DataW.TrodAll enc P W base (fun _ => true) true ts vs ds ps → (∀ p ∈ ps, W.sameAt W' p) → (∀ p ∈ ps, sp p.block = true) → DataW.TrodAll enc P W' base sp true ts vs ds ps
 | [], vs, ds, ps, _, h, _, _ => by
  obtain ⟨rfl, rfl, rfl⟩ := trodAll_nil h
  exact rfl
 | t :: ts, vs, ds, ps, hts, h, h1, h2 => by
  obtain ⟨v, vs', d, ds', p, q, rfl, rfl, rfl, hd, hr⟩ := trodAll_cons h
  simp only [List.all_cons, Bool.and_eq_true, decide_eq_true_eq] at hts
  obtain ⟨⟨hr1, hr2⟩, hts'⟩ := hts
  exact ⟨p, q, Trod_stays hl hr1 hr2 hd (fun x hx => h1 x (List.mem_append_left _ hx)) (fun x hx => h2 x (List.mem_append_left _ hx)),
   zEE hl hts' hr (fun x hx => h1 x (List.mem_append_right _ hx)) (fun x hx => h2 x (List.mem_append_right _ hx)), rfl⟩
theorem post_law {f : Func} {s : ChangeSpec} {W' : World} {m' : Mem} {args : Array Value} {ds : List (DataW H)} {gs : List (DataW H)} {before : List MemPlace} {t : TypeId}
  (hl : laidOutB P = true) (hts : (f.params.toList.all fun t => P.readableRec t && decide (t < P.types.size)) = true) (hvs : s.vars = []) (hres : f.resultTypes = #[t]) (ht : P.underlying t = some .bool)
  (hfn : s.fn H (ds ++ gs) = { results := [.lit (.bool true)], args := ds }) (hW : DataW.Whole enc P f.params.toList s.vars false W args.toList ds gs before) (hx : ExtG [] W (zFJ W) W' m') :
  s.post enc P f false true false false W args (.bool true) W' := by
 have hb := hx.below
 have hlt : ∀ p ∈ before, p.block < W.heap.size := fun p hp => hW.lt p hp
 have hold : ∀ p ∈ before, (fun b => decide (b < W.heap.size)) p.block = true := fun p hp => by simpa using hlt p hp
 have hsame : ∀ p ∈ before, W.sameAt W' p := fun p hp => hb.same (hlt p hp)
 have hW0 := hW
 obtain ⟨pa, pv, hA, hV, hps, hz, hn⟩ := hW
 rw [hvs] at hV
 obtain ⟨rfl, rfl⟩ := trodVars_none hV
 rw [List.append_nil] at hps
 subst hps
 have hres' : ∀ (b : Nat) (sp : Nat → Bool) (hd : Bool), DataW.TrodAll enc P W' b sp hd f.resultTypes.toList ((Value.bool true).resultList f.resultTypes.size) (s.fn H (ds ++ [])).results [] := fun b sp hd => by
  rw [hfn, hres]
  exact trodAll_mk1 ⟨1, by simp [DataW.trod, Value.cells, ht]⟩
 have hargs : ∀ sp : Nat → Bool, (∀ p ∈ before, sp p.block = true) → DataW.TrodAll enc P W' 0 sp true f.params.toList args.toList (s.fn H (ds ++ [])).args before := fun sp hsp => by
  rw [hfn]; exact zEE hl hts hA hsame hsp
 have hvars : ∀ sp : Nat → Bool, DataW.TrodVars enc P W' sp s.vars (s.fn H (ds ++ [])).vars [] := fun sp => by
  rw [hvs, hfn]; exact rfl
 refine ⟨ds, [], before, [], before, [], hW0, hres' _ _ _, hargs _ hold, hvars _, World.keptBut_mono (fun p hp => ⟨hp, ?_⟩) (hb.frame (· ∈ before)), fun _ => ?_⟩
 ·exact Or.inr (Or.inl hp)
 ·refine ⟨ok_one hres rfl (okWide_bool_mk ht true), _, _, ([] ++ before) ++ [], ⟨[] ++ before, [], trodAll_append (hargs _ (fun _ _ => rfl)) (hres' _ _ _), hvars _, rfl, ?_, ?_⟩, ?_⟩
  ·intro b off hp
   have hin : MemPlace.cell b off ∈ before := by simpa using hp
   rw [hb.frozen (hlt _ hin)]
   exact hz b off hin
  ·intro ha
   have := hn ha
   simpa using this
  ·intro p hp _
   simpa using hp
end
end Go.Proofs.YtlidonjpgigocaaGreat
namespace Go.Proofs.YtlidonjpgigocaaGreat
set_option linter.all false
open Go.RowKit Go.WideShapes Go.ChangeShapes Go.Deep Go.WideElems Go.ChangeAt Go.ChangeMaps
section
variable {H : Type} {enc : TypeId × Value → H} {P : Program} {W : World} {base : Nat} {spare : Nat → Bool} {held : Bool}
theorem bulk_mem {d : DataW H} : ∀ {l : List (DataW H)}, d ∈ l → Rows.uptoBulk d ≤ Rows.uptoBulkAll l
 | x :: l, h => by
  rw [Rows.uptoBulkAll]
  rcases List.mem_cons.1 h with rfl | h
  ·omega
  ·have := bulk_mem h; omega
theorem one_bulk (d : DataW H) : 1 ≤ Rows.uptoBulk d := by
 cases d with
 | lit l => cases l <;> simp [Rows.uptoBulk]
 | _ => simp [Rows.uptoBulk]
theorem bulk_app : ∀ (l r : List (DataW H)), Rows.uptoBulkAll (l ++ r) = Rows.uptoBulkAll l + Rows.uptoBulkAll r
 | [], r => by simp [Rows.uptoBulkAll]
 | x :: l, r => by simp only [List.cons_append, Rows.uptoBulkAll, bulk_app l r]; omega
theorem sl_open {α : Type} {R : Mem → List Value → α → Prop} {β : α → Nat} {t e : TypeId} {sz fuel : Nat} {cs : List Value} {x : DataW H × List MemPlace} (B : Nat) (ht : P.underlying t = some (.slice e)) (hc : P.cellsOf e = sz) (hsz : 0 < sz)
  (hR : ∀ n cs (x : DataW H × List MemPlace), Rows.uptoBulk x.1 < B → DataW.trod enc P W base spare held n e cs = some x → cs.length = sz → ∃ a : α, R (zFJ W) cs a ∧ β a ≤ Rows.uptoBulk x.1)
  (h : DataW.trod enc P W base spare held fuel t cs = some x) (hB : Rows.uptoBulk x.1 ≤ B) :
  ∃ o n c l, cs = [.slice o n c] ∧ Sl R sz (zFJ W) o n c l ∧ c ≤ maxLen ∧ (l.map β).sum + 1 ≤ Rows.uptoBulk x.1 := by
 rcases open_slice ht h with ⟨rfl, rfl⟩ | ⟨a, len, cap, m, n, D, Pl, rfl, hb, hl, hm, hmm, rfl, hi⟩
 ·exact ⟨none, 0, 0, [], rfl, ⟨rfl, Nat.le_refl _, Nat.zero_le _, fun i x hx => by simp at hx⟩, Nat.zero_le _, by simp [Rows.uptoBulk]⟩
 ·have hlm : len ≤ m := by rw [hmm]; split <;> omega
  simp only [Rows.uptoBulk] at hB ⊢
  have key : ∀ k, k ≤ len → ∃ l : List α, l.length = k ∧ (l.map β).sum ≤ Rows.uptoBulkAll ((List.range k).map D) ∧ ∀ i x, l[i]? = some x → ∃ vs, CellsAt (zFJ W) (a.add (i * sz)) vs ∧ vs.length = sz ∧ R (zFJ W) vs x := by
   intro k
   induction k with
   | zero => intro _; exact ⟨[], rfl, by simp, fun i x hx => by simp at hx⟩
   | succ k ih =>
    intro hk
    obtain ⟨l, hl1, hl0, hl2⟩ := ih (by omega)
    obtain ⟨cs', hcs, htr⟩ := hi k (by omega)
    rw [hc] at hcs
    obtain ⟨h1, h2⟩ := cellsAt_snap hcs hsz
    have hD : Rows.uptoBulk (D k) ≤ Rows.uptoBulkAll ((List.range len).map D) := bulk_mem (List.mem_map.2 ⟨k, List.mem_range.2 (by omega), rfl⟩)
    obtain ⟨y, hy, hβ⟩ := hR n cs' _ (by simp only; omega) htr h2
    refine ⟨l ++ [y], by simp [hl1], ?_, fun i x hx => ?_⟩
    ·simp only [List.range_succ, List.map_append, bulk_app, List.sum_append, List.map_cons, List.map_nil, List.sum_cons, List.sum_nil, Rows.uptoBulkAll] at hβ ⊢; omega
    rw [List.getElem?_append] at hx
    split at hx
    ·exact hl2 i x hx
    ·have hik : i = k := by
      have := (List.getElem?_eq_some_iff.1 hx).1
      simp at this; omega
     subst hik
     rw [hl1, Nat.sub_self] at hx
     simp only [List.getElem?_cons_zero, Option.some.injEq] at hx
     subst hx
     exact ⟨cs', h1, h2, hy⟩
  obtain ⟨l, hl1, hl0, hl2⟩ := key len (Nat.le_refl _)
  refine ⟨some a, len, cap, l, rfl, ⟨hl1, hl, ?_, fun i x hx => ?_⟩, hm, by omega⟩
  ·simp only [maxLen] at hm; omega
  ·obtain ⟨vs, h1, h2, h3⟩ := hl2 i x hx
   exact ⟨a, vs, rfl, h1, h2, h3⟩
theorem zDc {e : TypeId} {fs : Array Field} {fuel : Nat} {cs : List Value} {x : DataW H × List MemPlace} (he : P.underlying e = some (.struct fs)) (h : DataW.trod enc P W base spare held fuel e cs = some x) :
  ∃ (n : Nat) (ys : List (DataW H × List MemPlace)), ys.length = fs.size ∧ Rows.uptoBulk x.1 = Rows.uptoBulkAll (ys.map (·.1)) + 1 ∧ cs.length = P.cellsOf e ∧
   ∀ (i : Nat) (f : Field), fs[i]? = some f → ∃ y, ys[i]? = some y ∧ DataW.trod enc P W base spare held n f.type ((cs.drop f.offset).take (P.cellsOf f.type)) = some y := by
 obtain ⟨xs, n, rfl, rfl, hl, hx, hf⟩ := DataW.trod_struct he h
 refine ⟨n, xs, hx, by simp [Rows.uptoBulk], hl, fun i f hi => ?_⟩
 have h1 : i < fs.size := (Array.getElem?_eq_some_iff.1 hi).1
 have h2 : xs[i]? = some (xs[i]'(by omega)) := List.getElem?_eq_getElem (by omega)
 exact ⟨_, h2, (hf i f hi).trans h2⟩
theorem zGH {t : TypeId} {n : Nat} {cs : List Value} {x : DataW H × List MemPlace} (ht : P.underlying t = some (.int .i64)) (h : DataW.trod enc P W base spare held n t cs = some x) : ∃ k : Int, cs = [.int .i64 k] ∧ Zg k ∧ Rows.uptoBulk x.1 = 1 := by
 obtain ⟨k, e, rfl, hs⟩ := DataW.trod_int ht h
 simp only [Lit.wf, Bool.and_eq_true, decide_eq_true_eq] at hs
 have h1 : IntKind.i64.min = -9223372036854775808 := by decide
 have h2 : IntKind.i64.max = 9223372036854775807 := by decide
 exact ⟨k, e, ⟨by omega, by omega⟩, by simp [Rows.uptoBulk]⟩
theorem str_open {t : TypeId} {n : Nat} {cs : List Value} {x : DataW H × List MemPlace} (ht : P.underlying t = some .string) (h : DataW.trod enc P W base spare held n t cs = some x) : ∃ l : Str, cs = [S l] ∧ l.length ≤ maxLen ∧ Rows.uptoBulk x.1 = l.length + 1 := by
 obtain ⟨s, e, rfl, hs⟩ := DataW.trod_string ht h
 obtain ⟨⟨l⟩⟩ := s
 exact ⟨l, e, by rw [S_size] at hs; exact hs, by simp [Rows.uptoBulk]⟩
end
end Go.Proofs.YtlidonjpgigocaaGreat
namespace Go.Proofs.YtlidonjpgigocaaGreat
open Go.Proofs.Tryz
set_option linter.all false
set_option maxRecDepth 4000
open Go.RowKit Go.WideShapes Go.ChangeShapes Go.Deep Go.WideElems Go.ChangeAt Go.ChangeMaps
theorem strs_open {H : Type} {enc : TypeId × Value → H} {W : World} {base : Nat} {spare : Nat → Bool} {held : Bool} {n : Nat} {cs : List Value} {x : DataW H × List MemPlace} (h : DataW.trod enc Tryz.prog W base spare held n 41 cs = some x) :
  ∃ o c l, cs = [.slice o l.length c] ∧ Strs (zFJ W) o l.length c l ∧ c ≤ maxLen ∧ zFz l ≤ 2 * Rows.uptoBulk x.1 := by
 obtain ⟨o, q, c, l, el, hsl, hc, bl⟩ := sl_open (R := fun _ vs (x : Str) => vs = [S x]) (β := fun s => s.length + 1) (sz := 1) (Rows.uptoBulk x.1) underlying41 (by kernel_rfl) (by omega)
  (fun n cs x _ ht _ => by obtain ⟨s, es, _, bs⟩ := str_open underlying9 ht; exact ⟨s, es, by omega⟩) h (Nat.le_refl _)
 obtain rfl := hsl.len
 refine ⟨o, c, l, el, hsl, hc, ?_⟩
 have key : ∀ l : List Str, zFz l ≤ 2 * (l.map fun s => s.length + 1).sum := by
  intro l; unfold zFz
  induction l with
  | nil => simp
  | cons x xs ih => simp only [List.map_cons, List.sum_cons]; omega
 have := key l; omega
theorem ty_open {H : Type} {enc : TypeId × Value → H} {W : World} {base : Nat} {spare : Nat → Bool} {held : Bool} : ∀ (B n : Nat) (cs : List Value) (x : DataW H × List MemPlace), Rows.uptoBulk x.1 ≤ B →
  DataW.trod enc Tryz.prog W base spare held n 45 cs = some x → ∃ t : Ty, TyR (zFJ W) t cs ∧ zBe t ≤ 2 * Rows.uptoBulk x.1 := by
 intro B
 induction B with
 | zero => intro n cs x hB h; exact absurd (one_bulk x.1) (by omega)
 | succ B ih =>
  intro n cs x hB h
  obtain ⟨n', ys, hl, hx, hcl, hf⟩ := zDc underlying45 h
  obtain ⟨y0, e0, h0⟩ := hf 0 _ rfl
  obtain ⟨y1, e1, h1⟩ := hf 1 _ rfl
  obtain ⟨y2, e2, h2⟩ := hf 2 _ rfl
  obtain ⟨y3, e3, h3⟩ := hf 3 _ rfl
  obtain ⟨y4, e4, h4⟩ := hf 4 _ rfl
  have hcl' : cs.length = 6 := hcl.trans (by kernel_rfl)
  match cs, hcl' with
  | [c0, c1, c2, c3, c4, c5], _ =>
  change DataW.trod enc Tryz.prog W base spare held n' 3 (([c0, c1, c2, c3, c4, c5].drop 0).take (Tryz.prog.cellsOf 3)) = some y0 at h0
  change DataW.trod enc Tryz.prog W base spare held n' 9 (([c0, c1, c2, c3, c4, c5].drop 1).take (Tryz.prog.cellsOf 9)) = some y1 at h1
  change DataW.trod enc Tryz.prog W base spare held n' 3 (([c0, c1, c2, c3, c4, c5].drop 2).take (Tryz.prog.cellsOf 3)) = some y2 at h2
  change DataW.trod enc Tryz.prog W base spare held n' 33 (([c0, c1, c2, c3, c4, c5].drop 3).take (Tryz.prog.cellsOf 33)) = some y3 at h3
  change DataW.trod enc Tryz.prog W base spare held n' 43 (([c0, c1, c2, c3, c4, c5].drop 4).take (Tryz.prog.cellsOf 43)) = some y4 at h4
  rw [show Tryz.prog.cellsOf 3 = 1 by kernel_rfl] at h0 h2
  rw [show Tryz.prog.cellsOf 9 = 1 by kernel_rfl] at h1
  rw [show Tryz.prog.cellsOf 33 = 1 by kernel_rfl] at h3
  rw [show Tryz.prog.cellsOf 43 = 2 by kernel_rfl] at h4
  obtain ⟨k, ek, hk, bk⟩ := zGH underlying3 h0
  obtain ⟨s, es, hs, bs⟩ := str_open underlying9 h1
  obtain ⟨v, ev, hv, bv⟩ := zGH underlying3 h2
  obtain ⟨n4, zs, zl, zx, _, zf⟩ := zDc underlying43 h4
  obtain ⟨z0, f0, g0⟩ := zf 0 _ rfl
  obtain ⟨z1, f1, g1⟩ := zf 1 _ rfl
  change DataW.trod enc Tryz.prog W base spare held n4 41 (([c4, c5].drop 0).take (Tryz.prog.cellsOf 41)) = some z0 at g0
  change DataW.trod enc Tryz.prog W base spare held n4 3 (([c4, c5].drop 1).take (Tryz.prog.cellsOf 3)) = some z1 at g1
  rw [show Tryz.prog.cellsOf 41 = 1 by kernel_rfl] at g0
  rw [show Tryz.prog.cellsOf 3 = 1 by kernel_rfl] at g1
  obtain ⟨ol, cl, ls, els, hls, hcls, bls⟩ := strs_open g0
  obtain ⟨rv, erv, hrv, brv⟩ := zGH underlying3 g1
  have hys : ys = [y0, y1, y2, y3, y4] := by
   match ys, hl with
   | [a, b, c, d, e], _ => simp at e0 e1 e2 e3 e4; subst e0 e1 e2 e3 e4; rfl
  have hzs : zs = [z0, z1] := by
   match zs, zl with
   | [a, b], _ => simp at f0 f1; subst f0 f1; rfl
  subst hys; subst hzs
  simp only [List.map_cons, List.map_nil, Rows.uptoBulkAll] at hx zx
  obtain ⟨o, q, c, l, el, hsl, hc, bl⟩ := sl_open (R := fun m vs t => TyR m t vs ∧ zBe t ≤ 2 * Rows.uptoBulk y3.1 + 0 * vs.length) (β := fun t => (zBe t + 1) / 2) (sz := 6) (Rows.uptoBulk y3.1) underlying33 (by kernel_rfl) (by omega)
   (fun n cs x hx' ht _ => by obtain ⟨t, h1, h2⟩ := ih n cs x (by omega) ht; exact ⟨t, ⟨h1, by omega⟩, by omega⟩) h3 (Nat.le_refl _)
  obtain rfl := hsl.len
  have hsl' : Tys (zFJ W) o l.length c l := ⟨rfl, hsl.cap, hsl.big, fun i x hx => by obtain ⟨p, vs, a1, a2, a3, a4⟩ := hsl.at_ i x hx; exact ⟨p, vs, a1, a2, a3, a4.1⟩⟩
  have key : ∀ l : List Ty, zBG l ≤ 2 * (l.map fun t => (zBe t + 1) / 2).sum := by
   intro l
   induction l with
   | nil => simp [zBG]
   | cons x xs ih => simp only [zBG, List.map_cons, List.sum_cons]; omega
  have hkey := key l
  simp only [List.drop_zero, List.take_succ_cons, List.take_zero, List.drop_succ_cons, List.cons.injEq, and_true] at ek es ev el els erv
  subst ek es ev el els erv
  exact ⟨⟨k, s, v, l, ls, rv⟩, TyR.build hsl' hls hk hv hrv, by rw [zBe]; omega⟩
theorem TyR.toV {m : Mem} {t : Ty} {vs : List Value} (h : TyR m t vs) : ∃ y, vs = tyV t y := by obtain ⟨o, c, o2, c2, rfl, -⟩ := h.open_; exact ⟨((o, c), (o2, c2)), rfl⟩
end Go.Proofs.YtlidonjpgigocaaGreat
namespace Go.Proofs.YtlidonjpgigocaaGreat
open Go.Proofs.Tryz
set_option linter.all false
set_option maxRecDepth 4000
open Go.RowKit Go.WideShapes Go.ChangeShapes Go.Deep Go.WideElems Go.ChangeAt Go.ChangeMaps
theorem pr_one {H : Type} {enc : TypeId × Value → H} {W : World} {base : Nat} {spare : Nat → Bool} {held : Bool} {n : Nat} {cs : List Value} {x : DataW H × List MemPlace} (h : DataW.trod enc Tryz.prog W base spare held n 47 cs = some x) :
  ∃ a : Ty × Ty, PrR (zFJ W) a cs ∧ zBe a.1 ≤ 2 * Rows.uptoBulk x.1 ∧ zBe a.2 ≤ 2 * Rows.uptoBulk x.1 := by
 obtain ⟨n4, ys, zl, hx, hcl, hf⟩ := zDc underlying47 h
 obtain ⟨y0, e0, h0⟩ := hf 0 _ rfl
 obtain ⟨y1, e1, h1⟩ := hf 1 _ rfl
 have hcl' : cs.length = 12 := hcl.trans (by kernel_rfl)
 match cs, hcl' with
 | [c0, c1, c2, c3, c4, c5, c6, c7, c8, c9, c10, c11], _ =>
 change DataW.trod enc Tryz.prog W base spare held n4 45 (([c0, c1, c2, c3, c4, c5, c6, c7, c8, c9, c10, c11].drop 0).take (Tryz.prog.cellsOf 45)) = some y0 at h0
 change DataW.trod enc Tryz.prog W base spare held n4 45 (([c0, c1, c2, c3, c4, c5, c6, c7, c8, c9, c10, c11].drop 6).take (Tryz.prog.cellsOf 45)) = some y1 at h1
 rw [show Tryz.prog.cellsOf 45 = 6 by kernel_rfl] at h0 h1
 obtain ⟨t, ht, bt⟩ := ty_open _ _ _ _ (Nat.le_refl _) h0
 obtain ⟨u, hu, bu⟩ := ty_open _ _ _ _ (Nat.le_refl _) h1
 have hys : ys = [y0, y1] := by
  match ys, zl with
  | [a, b], _ => simp at e0 e1; subst e0 e1; rfl
 subst hys
 simp only [List.map_cons, List.map_nil, Rows.uptoBulkAll] at hx
 simp only [List.drop_zero, List.take_succ_cons, List.take_zero, List.drop_succ_cons] at ht hu
 obtain ⟨y, ey⟩ := ht.toV
 obtain ⟨z, ez⟩ := hu.toV
 refine ⟨(t, u), ⟨y, z, ?_, ey ▸ ht, ez ▸ hu⟩, by show zBe t ≤ _; omega, by show zBe u ≤ _; omega⟩
 show _ = tyV t y ++ tyV u z
 rw [← ey, ← ez]; rfl
theorem prs_arg {H : Type} {enc : TypeId × Value → H} {W : World} {base : Nat} {spare : Nat → Bool} {held : Bool} {r : Reach} {b0 : Nat} {v : Value} {d : DataW H} {ps : List MemPlace} (hval : Value.okWide Tryz.prog W r b0 22 v) (hd : DataW.Trod enc Tryz.prog W base spare held 22 v d ps) :
  ∃ o c l, v = .slice o l.length c ∧ Prs (zFJ W) o l.length c l ∧ ∀ x ∈ l, zBe x.1 ≤ 2 * Rows.uptoBulk d ∧ zBe x.2 ≤ 2 * Rows.uptoBulk d := by
 obtain ⟨o, n, c, rfl⟩ := okWide_slice underlying22 hval
 obtain ⟨fuel, hf⟩ := hd
 obtain ⟨o', q, c', l, el, hsl, hc, bl⟩ := sl_open (R := fun m vs (a : Ty × Ty) => PrR m a vs ∧ zBe a.1 ≤ 2 * Rows.uptoBulk d ∧ zBe a.2 ≤ 2 * Rows.uptoBulk d) (β := fun _ => 0) (sz := 12) (Rows.uptoBulk d) underlying22 (by kernel_rfl) (by omega)
  (fun n cs x hx' ht _ => by obtain ⟨a, h1, h2, h3⟩ := pr_one ht; exact ⟨a, ⟨h1, by omega, by omega⟩, Nat.zero_le _⟩) hf (Nat.le_refl _)
 obtain rfl := hsl.len
 simp only [Value.cells, List.cons.injEq, and_true] at el
 rw [el]
 refine ⟨o', c', l, rfl, ⟨rfl, hsl.cap, hsl.big, fun i x hx => by obtain ⟨p, vs, a1, a2, a3, a4⟩ := hsl.at_ i x hx; exact ⟨p, vs, a1, a2, a3, a4.1⟩⟩, fun x hx => ?_⟩
 obtain ⟨i, hi⟩ := List.mem_iff_getElem?.1 hx
 obtain ⟨p, vs, a1, a2, a3, a4⟩ := hsl.at_ i x hi
 exact a4.2
end Go.Proofs.YtlidonjpgigocaaGreat
namespace Go.Proofs.YtlidonjpgigocaaGreat
open Go.Proofs.Tryz
set_option linter.all false
set_option maxRecDepth 4000
open Go.ChangeShapes Go.WideShapes Go.ChangeAt Go.RowKit Go.Deep
theorem unifyTells_own : ownKnob Tryz.prog.godebug = none := by kernel_rfl
theorem unifyTells_laid : laidOutB Tryz.prog = true := by kernel_rfl
set_option maxRecDepth 100000 in
theorem unifyTells_contract (H : Type) (enc : TypeId × Value → H) (W : World) (base : Nat) (args : Array Value) (ds gs : List (DataW H)) (before : List MemPlace)
  (hval : ∀ (j : Nat) t v, Tryz.f3.params[j]? = some t → args[j]? = some v → Value.okWide Tryz.prog W .any base t v)
  (hW : DataW.Whole enc Tryz.prog Tryz.f3.params.toList Rows.unifyTellsSpec.vars false W args.toList ds gs before) (hc : ∀ k, (Rows.OpenSpec.upto Rows.unifyTellsSpec).cond = some k → k H (ds ++ gs) = true) (hL : laidMetH Tryz.prog Rows.unifyTellsUptoRow.laid W) :
  Calls Tryz.prog 3 args W fun e W' => ∃ v, e = .returned v ∧ Rows.unifyTellsSpec.post enc Tryz.prog Tryz.f3 false true false false W args v W' := by
 have hW' := hW
 obtain ⟨p, q, hA0, hV, rfl, hfz, hnd⟩ := hW
 have hA : DataW.TrodAll enc Tryz.prog W 0 (fun _ => true) true Tryz.f3.params.toList args.toList ds p := hA0
 rw [Tryz.params3] at hA hval
 obtain ⟨v0, vs0, d0, ds0, p0, q0, e0, rfl, rfl, h0, hA0⟩ := trodAll_cons hA
 obtain ⟨e1, rfl, rfl⟩ := trodAll_nil hA0
 subst e1
 obtain rfl : args = #[v0] := Array.toList_inj.1 e0
 obtain ⟨rfl, rfl⟩ := trodVars_none hV
 have hbulk : Rows.uptoBulkAll [d0] ≤ 1048576 := by have := hc _ rfl; simpa [Rows.uptoSmall] using this
 obtain ⟨o_l, c_l, l, rfl, hs_l, hbk_l⟩ := prs_arg (hval 0 22 v0 rfl rfl) h0
 have hA0 := agree_snap W
 simp only [Rows.uptoBulkAll] at hbulk
 refine Calls.mono (unifyTells_c hA0 hs_l (fun x hx => by have h1 := hbk_l x hx; have h2 := wd_bulk x.1; have h3 := cnt_bulk x.1; have h4 := wd_bulk x.2; have h5 := cnt_bulk x.2; omega)) fun e W' ⟨v, m', he, hx, hv⟩ => ?_
 subst hv
 exact ⟨_, he, post_law unifyTells_laid (by kernel_rfl) rfl rfl underlying4 rfl hW' hx⟩
theorem unifyTells_laidmet (os : Go.Os) : laidMetH Tryz.prog Rows.unifyTellsUptoRow.laid (((World.holding Tryz.prog os ⟨#[], #[], []⟩)).forCall (fun _ _ => 0) ⟨#[], #[.slice none 0 0], []⟩).memory :=
 laidMet_of_run' 8 (by kernel_rfl) (by kernel_rfl)
theorem unifyTells_reads (os : Go.Os) {H : Type} (enc : TypeId × Value → H) : ∃ places, DataW.whole enc Tryz.prog (((World.holding Tryz.prog os ⟨#[], #[], []⟩)).forCall (fun _ _ => 0) ⟨#[], #[.slice none 0 0], []⟩).memory Tryz.f3.params.toList Rows.unifyTellsSpec.vars false #[.slice none 0 0].toList 12 = some ([.nil], [], places) :=
 ⟨[], by kernel_rfl⟩
set_option maxRecDepth 100000 in
theorem unifyTells_lifted (os : Go.Os) (started : os.Started) (H : Type) (enc : TypeId × Value → H) (F : Stop.Interp) :
  ReturnsInHanded {} Tryz.checked os 3 .any ((Rows.OpenSpec.upto Rows.unifyTellsSpec).preRow enc Tryz.prog Tryz.f3 Rows.unifyTellsUptoRow.domain false Rows.unifyTellsUptoRow.laid) (((Rows.OpenSpec.upto Rows.unifyTellsSpec).at F).post enc Tryz.prog Tryz.f3 false true false false) := by
 obtain ⟨places, hx⟩ := unifyTells_reads os enc
 refine returnsInHanded_of_row (C := Tryz.checked) (s := (Rows.OpenSpec.upto Rows.unifyTellsSpec)) unifyTells_own started (by kernel_rfl) func3
  (witness_row_at (enc := enc) (C := Tryz.checked) false ((World.holding Tryz.prog os ⟨#[], #[], []⟩)) #[.slice none 0 0] rfl (by kernel_rfl) (by kernel_rfl) (by kernel_rfl)
   (OpenSpec.preRow_of_cond 12 hx (by kernel_rfl) (fun k hk => by cases hk; kernel_rfl) (by kernel_rfl) (unifyTells_laidmet os))) ?_
 intro W base args ds gs before hval hW _ hc _ hL _ _
 exact unifyTells_contract H enc W base args ds gs before hval hW hc hL
theorem unifyTells_holds : Rows.UnifyTellsUptoSaid :=
 OpenClaim.holds_of_cond 3 Tryz.f3 rfl rfl rfl rfl rfl rfl rfl ⟨rfl, rfl, rfl, rfl, rfl⟩ rfl rfl rfl rfl rfl (by kernel_rfl) func3 (by kernel_rfl)
  (of_decide_eq_true (by kernel_rfl)) (by unfold Func.isWrapper; first | (rw [if_pos (by decide +kernel)]; kernel_rfl) | (rw [if_neg (by decide +kernel)]; exact ⟨rfl, rfl⟩))
  (fun os started H enc _ F => by rw [OpenClaim.pre_eq_preRow]; exact unifyTells_lifted os started H enc F)
end Go.Proofs.YtlidonjpgigocaaGreat
