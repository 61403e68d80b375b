/-
  The law's proof, whole. Conditions: those of each theorem.
-/
import Derived.Test.YtmdhhjmomilhjaaDoorSqD
import Derived.ProofKit
import Derived.Carry
import Derived.ChangeSame
import Derived.ShutString
import Derived.Deep.Slices
import Derived.Deep.Fields
import Derived.LaidSub
import Derived.MakeChecks
import Derived.LaidLaws
import Derived.Lib.LaidTab
import Derived.OpenShut
import Derived.Deep.DeepHandedRow
import Derived.Test.YtmdhhjmomilhjaaDoorRows
import Derived.Test.YtmdhhjmomilhjaaDoorCards
import Derived.Test.YtmdhhjmomilhjaaDoorTie
namespace Go.Proofs.YtmdhhjmomilhjaaDoor
open Go.Proofs.Tryd
set_option linter.all false
set_option maxRecDepth 4000
open Go.RowKit
open Go.Lib (itoa decDigits)
theorem own_new {W w : World} {mE m : Mem} {L : List Res} {k g : Nat} {o : Obj} (h : St [] W mE L w m) (hk : L[k]? = some (.blk (.pointer (some ⟨g, 0, none⟩)) o)) : W.heap.size ≤ g := by
 rcases h.loc.own g (List.mem_flatMap.2 ⟨_, List.mem_of_getElem? hk, by simp [Res.blocks, zn]⟩) with h1 | h1
 ·cases h1
 ·exact h1
theorem countM_pos (t : Tm) : 0 < zQ t := by have := zp t; omega
theorem code_c : ∀ f, zBc f
 | 0 => fun _ _ _ _ _ hf _ _ _ => absurd hf (Nat.not_le_of_gt (countM_pos _))
 | f + 1 => fun hA hr h hT hL hf hbk hnb hNT => code_s hA hr h hT (code_c f) hL hf hbk hnb hNT
mutual
/-- How many pieces of a kind. -/
def nK (k : Int) : Cd → Nat
 | ⟨kd, _, _, _, ks, az⟩ => (if kd = k then 1 else 0) + (nKs k ks + nAs k az)
def nKs (k : Int) : List Cd → Nat
 | [] => 0
 | t :: ts => nK k t + nKs k ts
def nAs (k : Int) : List Ca → Nat
 | [] => 0
 | ⟨_, _, _, b⟩ :: ts => nK k b + nAs k ts
end
theorem nK_eq (k : Int) (t : Cd) : nK k t = (if t.kind = k then 1 else 0) + (nKs k t.kids + nAs k t.arms) := by obtain ⟨kd, s, p, n, ks, az⟩ := t; rw [nK]; rfl
theorem dec_eq (n : Nat) : decDigits n = if n < 10 then [UInt8.ofNat (48 + n)] else decDigits (n / 10) ++ [UInt8.ofNat (48 + n % 10)] := by
 rw [decDigits]; split <;> rfl
theorem nAs_cons (k : Int) (a : Ca) (ts : List Ca) : nAs k (a :: ts) = nK k a.body + nAs k ts := by obtain ⟨x, v, l, b⟩ := a; rw [nAs]; rfl
set_option maxHeartbeats 400000 in
theorem lower_c {w : World} {m : Mem} {t : Tm} {vs_t : List Value} {sel tl : Bool} (hA : Agree w m) (h_t : TmR m t vs_t) (hT : Tab w) (hL : LwT t) (hf : zQ t ≤ 100000000) (hbk : ZB t ≤ 1000000000) : FnV Tryd.prog 12 #[.agg vs_t.toArray, .agg #[.bool sel, .bool tl]] w m (fun _ m v => (MP.cd (zEW sel tl t)).p m v) := by
 obtain ⟨⟨oK_t, cK_t, oA_t, cA_t, oR_t, cR_t, t0_t, t1_t, t2_t, t3_t, t4_t, t5_t, u0_t, u1_t, u2_t, u3_t, u4_t, u5_t⟩, rfl, hon_t, hkk_t, haa_t, hrr_t⟩ := h_t.open_
 dsimp only at hkk_t haa_t hrr_t
 have hbg_t := hkk_t.big; have hcp_t := hkk_t.cap; have hbh_t := haa_t.big; have hcq_t := haa_t.cap
 refine zX (vs := [_, _]) func12 rfl rfl rfl fun a0 hfr0 => ?_
 have hst0 := zW hA (zj [] _ w m)
 have hM : MLe m m := MLe.refl m
 refine zB fun _ hK1 => ?_
 replace hst0 := hst0.more (r := .free) trivial List.nodup_nil (by simp [Res.blocks])
 refine ra0 (tch := [(2, 0, (fun v => .blk v _))]) hst0 hfr0 (.cons rfl (zw rfl rfl) <| .cons rfl (zw rfl rfl) <| .consT rfl rfl (fun _ => rfl) rfl (zP zeroValue46 rfl) <| .nil) fun a1 w1 m1 hst1 hle1 hk1 => ?_
 have hfr1 := hk1.fr (.nil)
 obtain ⟨g2, e2, hc2⟩ := hk1.ex 2 rfl
 replace hfr1 := hfr1.cons e2
 obtain ⟨g3, e3, hc3⟩ := hk1.ex 3 rfl
 replace hfr1 := hfr1.cons e3
 obtain ⟨g4, e4, _⟩ := hk1.ex 4 rfl
 replace hfr1 := hfr1.cons e4
 replace hst1 := hst1.fin (L' := [_]) (.cons e4 <| .nil)
 replace h_t := h_t.mono hle1
 replace hkk_t := hkk_t.mono hle1
 replace haa_t := haa_t.mono hle1
 replace hrr_t := hrr_t.mono hle1
 replace hM := hM.trans hle1
 clear hst0 hfr0 hk1
 refine hK1 _ _ ?_
 refine zB fun _ hK5 => ?_
 replace hst1 := hst1.more (r := .free) trivial List.nodup_nil (by simp [Res.blocks])
 refine ra0 (tch := [(2, 1, (fun v => .blk v _))]) hst1 hfr1 (.cons rfl (zN rfl hc3 isAgg38 sizeOf38 rfl rfl) <| .cons rfl (zr (.cons rfl <| .nil) underlying75 zeroValue75 (.cons sizeOf38 <| .cons sizeOf3 <| .nil) rfl) <| .consT rfl rfl (fun _ => rfl) rfl (ob_boxL rfl rfl) <| .consA 8 rfl rfl <| .nil) fun a2 w2 m2 hst2 hle2 hk2 => ?_
 have hfr2 := hk2.fr (.o 2 <| .o 4 <| .nil)
 obtain ⟨g8, e6, _⟩ := hk2.ex 8 rfl
 replace hfr2 := hfr2.cons (hk2.same 5 rfl e6)
 replace hst2 := hst2.fin (L' := [_, _]) (.cons e6 <| .nil)
 replace h_t := h_t.mono hle2
 replace hkk_t := hkk_t.mono hle2
 replace haa_t := haa_t.mono hle2
 replace hrr_t := hrr_t.mono hle2
 replace hc2 := hc2.mono hle2
 replace hc3 := hc3.mono hle2
 replace hM := hM.trans hle2
 clear hst1 hfr1 hk2
 refine hK5 _ _ ?_
 refine zB fun _ hK7 => ?_
 refine zu 3 (by kernel_rfl) ?_
 have hNT8 : Zz g8 := notTab_new hT (own_new hst2 (k := 1) rfl)
 refine zg (tch := [(2, 1, (fun _ => .blk (.pointer (some ⟨g8, 0, none⟩)) (.cells #[.bool sel, .bool tl, .int .i64 (((zV sel tl (zQ t) t 0).2 : Nat) : Int)] 75)))]) hst2 hfr2 (by kernel_rfl) (by kernel_rfl) (by kernel_rfl) (.cons rfl (zD rfl) <| .cons rfl (zN rfl hc2 isAgg33 sizeOf33 rfl rfl) <| .consT rfl rfl (fun _ => rfl) rfl (Zc rfl (.cons rfl <| .cons rfl <| .nil) call31 (κ := .ex (MP.cd (zEW sel tl t))) (fun σ w m hK hr hkn => by have hle_ := KC.le hK; have hA := KC.agree hK; have hM := hM.trans hle_; have h_t := h_t.mono hle_; have hkk_t := hkk_t.mono hle_; have haa_t := haa_t.mono hle_; have hrr_t := hrr_t.mono hle_; have hc2 := hc2.mono hle_; have hc3 := hc3.mono hle_; have hT := zBt hT hK.st.ext; exact zAs (n := 0) (code_c (zQ t)) hA hr h_t hT hL (Nat.le_refl _) hbk (by omega) hNT8)) <| .nil) fun a3 w3 m3 hst3 hle3 hk3 => ?_
 have hfr3 := hk3.fr (.o 2 <| .o 4 <| .o 5 <| .nil)
 obtain ⟨yp, e8, hyp⟩ := hk3.ex 11 rfl
 replace hfr3 := hfr3.cons e8
 replace hst3 := hst3.fin (L' := [_, _]) (.cons e8 <| .nil)
 clear hst2 hfr2 hk3
 refine zg (tch := [(0, 0, (fun _ => .blk _ _))]) hst3 hfr3 (by kernel_rfl) (by kernel_rfl) (by kernel_rfl) (.consT rfl rfl (fun _ => rfl) rfl (zY rfl rfl rfl sizeOf46 rfl rfl rfl) <| .nil) fun a4 w4 m4 hst4 hle4 hk4 => ?_
 have hfr4 := hk4.fr (.o 2 <| .o 4 <| .o 5 <| .o 11 <| .nil)
 replace hst4 := hst4.fin (L' := [_, _]) (.cons rfl <| .nil)
 try simp only [List.take_succ_cons, List.take_zero, List.drop_succ_cons, List.drop_zero, List.cons_append, List.nil_append, List.append_nil, List.length_cons, List.length_nil, Nat.zero_add, Nat.reduceAdd] at hst4
 replace hyp := hyp.mono hle4
 clear hst3 hfr3 hk4
 refine hK7 _ _ ?_
 refine zK ?_
 repeat (with_reducible first | refine zI ?_ | refine zF ?_)
 exact zL hst4 hfr4 rfl (.cell rfl (zl (zi (hst4.loc.at_ (k := 0) rfl)) isAgg46 sizeOf46) <| .nil) (⟨yp, rfl, hyp⟩)
abbrev zCp (t : Cd) : Prop := ∀ {w : World} {m : Mem} {vs_t : List Value} {k : Int} (hA : Agree w m) (h_t : CdR m t vs_t) (hb : nK k t ≤ 1000000000), FnV Tryd.prog 16 #[.agg vs_t.toArray, .int .i64 k] w m (fun _ _ v => v = .int .i64 (nK k t : Int))
set_option maxHeartbeats 800000 in
theorem lcount_s {t : Cd} (ihk : ∀ u ∈ t.kids, zCp u) (iha : ∀ a ∈ t.arms, zCp a.body) {w : World} {m : Mem} {vs_t : List Value} {k : Int} (hA : Agree w m) (h_t : CdR m t vs_t) (hb : nK k t ≤ 1000000000) : FnV Tryd.prog 16 #[.agg vs_t.toArray, .int .i64 k] w m (fun _ _ v => v = .int .i64 (nK k t : Int)) := by
 obtain ⟨⟨oK_t, cK_t, oA_t, cA_t⟩, rfl, ⟨hik_t, hin_t⟩, hkk_t, haa_t⟩ := h_t.open_
 dsimp only at hkk_t haa_t
 have hbg_t := hkk_t.big; have hcp_t := hkk_t.cap; have hbh_t := haa_t.big; have hcq_t := haa_t.cap
 refine zX (vs := [_, _]) func16 rfl rfl rfl fun a0 hfr0 => ?_
 have hst0 := zW hA (zj [] _ w m)
 have hM : MLe m m := MLe.refl m
 have hce := nK_eq k t
 refine zB fun _ hK1 => ?_
 refine rp0 hst0 hfr0 (.cons rfl (zw rfl rfl) <| .cons rfl (zC rfl) <| .nil) fun a1 w1 m1 hst1 hle1 hk1 => ?_
 have hfr1 := hk1.fr (.o 1 <| .nil)
 obtain ⟨g2, e2, hc2⟩ := hk1.ex 2 rfl
 replace hfr1 := hfr1.cons e2
 replace h_t := h_t.mono hle1
 replace hkk_t := hkk_t.mono hle1
 replace haa_t := haa_t.mono hle1
 clear hst0 hfr0 hk1
 refine hK1 _ _ ?_
 refine zB fun _ hK3 => ?_
 refine rp0 hst1 hfr1 (.cons rfl (zC rfl) <| .nil) fun a2 w2 m2 hst2 hle2 hk2 => ?_
 have hfr2 := hk2.fr (.o 1 <| .o 2 <| .n 5 <| .nil)
 replace h_t := h_t.mono hle2
 replace hkk_t := hkk_t.mono hle2
 replace haa_t := haa_t.mono hle2
 replace hc2 := hc2.mono hle2
 clear hst1 hfr1 hk2
 refine hK3 _ _ ?_
 refine zBI (T := [(1, _), (2, _)]) (fun (y : Int) => ([(5, .int .i64 y)] : List (Nat × Value))) (fun y => []) (fun (y : Int) m => (fun (c0 : Int) => (c0 = if t.kind = k then 1 else 0)) y) ((0)) ⟨hst2, MLe.refl _, hfr2.sub (.c <| .c <| .c <| .nil), trivial⟩ (fun y a3 w3 m3 hh3 => ?_) (fun K4 hj4 => ?_)
 ·have hst3 := hh3.st; have hle3 := hh3.le; have hfr3 := hh3.fr; have hrel := hh3.rel; clear hh3
  clear hst2 hfr2
  obtain ⟨c0, rfl⟩ : ∃ z, z = y := ⟨_, rfl⟩
  try dsimp only at hrel
  try dsimp only at hfr3
  try dsimp only at hst3
  have hc0 := hrel
  subst hc0
  refine zB fun _ hK5 => ?_
  refine zB fun _ hK6 => ?_
  replace hc2 := hc2.mono hle3
  refine rp0 hst3 hfr3 (.cons rfl (zA (off := 4) rfl underlying46 rfl rfl sizeOf43 rfl) <| .cons rfl (zE rfl hc2 isAgg43 rfl) <| .cons rfl (zZ rfl underlying43) <| .cons rfl (zD rfl) <| .nil) fun a4 w4 m4 hst4 hle4 hk4 => ?_
  have hfr4 := hk4.fr (.o 5 <| .o 1 <| .o 2 <| .n 17 <| .n 18 <| .n 19 <| .nil)
  clear hst3 hfr3 hk4
  refine hK6 _ _ ?_
  refine zM ?_
  refine zh (T := [(1, _), (2, _), (17, _), (18, _)]) (fun (y : Nat × Int) => ([(5, .int .i64 y.2), (19, .int .i64 (y.1 : Int))] : List (Nat × Value))) (fun _ => _) (fun (y : Nat × Int) m => (fun (y : Nat) (a : Int) => (y ≤ t.kids.length) ∧ (a + nKs k (t.kids.drop y) = (((if t.kind = k then 1 else 0) + nKs k t.kids : Nat) : Int)) ∧ (0 ≤ a)) y.1 y.2) (fun y => t.kids.length - y.1) ((0, (if t.kind = k then 1 else 0))) ⟨hst4, MLe.refl _, hfr4.sub (.c <| .c <| .c <| .c <| .c <| .c <| .nil), ⟨Nat.zero_le _, by rw [List.drop_zero]; split <;> simp_all <;> omega, by split <;> omega⟩⟩ fun y a5 w5 m5 hh5 => ?_
  have hst5 := hh5.st; have hle5 := hh5.le; have hfr5 := hh5.fr; have hrel := hh5.rel; clear hh5
  clear hst4 hfr4
  obtain ⟨y, a⟩ := y
  dsimp only at hrel hfr5 hst5
  obtain ⟨hyn, ha, ha0⟩ := hrel
  have hlh5 := hle5
  refine zB fun _ hK8 => ?_
  refine rp0 hst5 hfr5 (.cons rfl (zz rfl rfl) <| .nil) fun a6 w6 m6 hst6 hle6 hk6 => ?_
  have hfr6 := hk6.fr (.o 5 <| .o 19 <| .o 1 <| .o 2 <| .o 17 <| .o 18 <| .n 20 <| .nil)
  clear hst5 hfr5 hk6
  refine hK8 _ _ ?_
  refine zB fun _ hK9 => ?_
  refine zG hfr6 rfl rfl (fun hb20 => ?_) (fun hb20 => ?_)
  ·try simp only [nqs] at hb20
   refine zJ ?_
   refine hK9 _ _ ?_
   refine zB fun _ hK10 => ?_
   refine zM ?_
   refine zB fun _ hK11 => ?_
   have zq1 := hle5.trans hle6
   have zq2 := hle4.trans zq1
   have zq3 := hle3.trans zq2
   replace hkk_t := hkk_t.mono zq3
   obtain ⟨p12, vs12, x12, ho12, hd12, hm_x12, ht12, hcv12, hl12, hv12⟩ := hkk_t.nth (k := y) (by omega)
   cases ho12
   obtain ⟨⟨oK12, cK12, oA12, cA12⟩, rfl, ⟨hik12, hin12⟩, hkk12, haa12⟩ := hv12.open_
   dsimp only at hkk12 haa12
   have hbg12 := hkk12.big; have hcp12 := hkk12.cap; have hbh12 := haa12.big; have hcq12 := haa12.cap
   rw [hd12, nKs] at ha
   replace hst6 := hst6.more (r := .free) trivial List.nodup_nil (by simp [Res.blocks])
   refine ra0 (tch := [(2, 0, (fun v => .blk v _)), (3, 0, (fun v => .blk v _))]) hst6 hfr6 (.cons rfl (zH (k := y) rfl rfl underlying43 sizeOf46 rfl (by omega)) <| .cons rfl (zN rfl hcv12 isAgg46 sizeOf46 rfl rfl) <| .consT rfl rfl (fun _ => rfl) rfl (zP zeroValue46 rfl) <| .consT rfl rfl (fun _ => rfl) rfl (zU 7 rfl rfl rfl fun y7 => zc rfl rfl rfl rfl rfl sizeOf46 rfl rfl hv12.one) <| .nil) fun a7 w7 m7 hst7 hle7 hk7 => ?_
   have hfr7 := hk7.fr (.o 5 <| .o 19 <| .o 1 <| .o 2 <| .o 17 <| .o 18 <| .nil)
   obtain ⟨g13, e13, _⟩ := hk7.ex 7 rfl
   replace hfr7 := hfr7.cons e13
   replace hst7 := hst7.fin (L' := [_]) (.cons e13 <| .cons e13 <| .nil)
   try simp only [List.take_succ_cons, List.take_zero, List.drop_succ_cons, List.drop_zero, List.cons_append, List.nil_append, List.append_nil, List.length_cons, List.length_nil, Nat.zero_add, Nat.reduceAdd] at hst7
   clear hst6 hfr6 hk7
   refine hK11 _ _ ?_
   have zq4 := zq3.trans hle7
   replace h_t := h_t.mono zq4
   replace haa_t := haa_t.mono zq4
   have zq5 := zq2.trans hle7
   replace hc2 := hc2.mono zq5
   replace hkk_t := hkk_t.mono hle7
   replace hcv12 := hcv12.mono hle7
   replace hv12 := hv12.mono hle7
   replace hkk12 := hkk12.mono hle7
   replace haa12 := haa12.mono hle7
   refine rp0 hst7 hfr7 (.cons rfl (zD rfl) <| .cons rfl (zb (j := 0) rfl rfl isAgg46 sizeOf46 rfl) <| .cons rfl (zD rfl) <| .cons rfl (ze rfl (.cons rfl <| .cons rfl <| .nil) call16 (fun w m hK => by have hle_ := KC.le hK; have hA := KC.agree hK; have h_t := h_t.mono hle_; have hkk_t := hkk_t.mono hle_; have haa_t := haa_t.mono hle_; have hc2 := hc2.mono hle_; have hcv12 := hcv12.mono hle_; have hv12 := hv12.mono hle_; have hkk12 := hkk12.mono hle_; have haa12 := haa12.mono hle_; exact ihk _ (by assumption) hA hv12 (by omega))) <| .cons rfl (zf rfl rfl ⟨by omega, by omega⟩) <| .cons rfl (zC rfl) <| .nil) fun a8 w8 m8 hst8 hle8 hk8 => ?_
   have hfr8 := hk8.fr (.o 19 <| .o 1 <| .o 2 <| .o 17 <| .o 18 <| .n 5 <| .nil)
   clear hst7 hfr7 hk8
   refine hK10 _ _ ?_
   refine rp0 hst8 hfr8 (.cons rfl (zf rfl rfl ⟨by omega, by omega⟩) <| .cons rfl (zD rfl) <| .nil) fun a9 w9 m9 hst9 hle9 hk9 => ?_
   have hfr9 := hk9.fr (.o 1 <| .o 2 <| .o 17 <| .o 18 <| .o 5 <| .n 19 <| .nil)
   clear hst8 hfr8 hk9
   have hst9 := hst9.take 0
   have zq6 := hle8.trans hle9
   have zq7 := hle7.trans zq6
   have zq8 := hle6.trans zq7
   have hlh9 := hlh5.trans zq8
   exact ⟨(y + 1, (a + (nK k x12 : Int))), m9, by show t.kids.length - (y + 1) < t.kids.length - y; omega, ⟨hst9, hlh9, hfr9.sub (.c <| .c <| .c <| .c <| .c <| .c <| .nil), ⟨by show y + 1 ≤ t.kids.length; omega, by show a + (nK k x12 : Int) + ((nKs k (t.kids.drop (y + 1)) : Nat) : Int) = _; omega, by show 0 ≤ a + (nK k x12 : Int); omega⟩⟩⟩
  ·try simp only [nqs] at hb20
   have hge : y = t.kids.length := by omega
   rw [List.drop_of_length_le (by omega), nKs] at ha
   refine zk ?_
   refine hK5 _ _ ?_
   refine zB fun _ hK14 => ?_
   refine zB fun _ hK15 => ?_
   have zq9 := hle5.trans hle6
   have zq10 := hle4.trans zq9
   replace hc2 := hc2.mono zq10
   refine rp0 hst6 hfr6 (.cons rfl (zA (off := 5) rfl underlying46 rfl rfl sizeOf44 rfl) <| .cons rfl (zE rfl hc2 isAgg44 rfl) <| .cons rfl (zZ rfl underlying44) <| .cons rfl (zD rfl) <| .nil) fun a7 w7 m7 hst7 hle7 hk7 => ?_
   have hfr7 := hk7.fr (.o 5 <| .o 19 <| .o 1 <| .n 30 <| .n 31 <| .n 32 <| .nil)
   clear hst6 hfr6 hk7
   refine hK15 _ _ ?_
   refine zM ?_
   have zq11 := hle6.trans hle7
   have hlh7 := hlh5.trans zq11
   have hlq16 := hlh7
   refine zh (T := [(19, _), (1, _), (30, _), (31, _)]) (fun (y : Nat × Int) => ([(5, .int .i64 y.2), (32, .int .i64 (y.1 : Int))] : List (Nat × Value))) (fun _ => _) (fun (y : Nat × Int) m => (fun (y : Nat) (b : Int) => (y ≤ t.arms.length) ∧ (b + nAs k (t.arms.drop y) = (nK k t : Int)) ∧ (0 ≤ b)) y.1 y.2) (fun y => t.arms.length - y.1) ((0, a)) ⟨hst7, MLe.refl _, hfr7.sub (.c <| .c <| .c <| .c <| .c <| .c <| .nil), ⟨Nat.zero_le _, by rw [List.drop_zero]; omega, by omega⟩⟩ fun y a8 w8 m8 hh8 => ?_
   have hst8 := hh8.st; have hle8 := hh8.le; have hfr8 := hh8.fr; have hrel := hh8.rel; clear hh8
   clear hst7 hfr7
   obtain ⟨y, b⟩ := y
   dsimp only at hrel hfr8 hst8
   obtain ⟨hyn, hb_, hb0⟩ := hrel
   have hlh8 := hle8
   refine zB fun _ hK17 => ?_
   refine rp0 hst8 hfr8 (.cons rfl (zz rfl rfl) <| .nil) fun a9 w9 m9 hst9 hle9 hk9 => ?_
   have hfr9 := hk9.fr (.o 5 <| .o 32 <| .o 19 <| .o 1 <| .o 30 <| .o 31 <| .n 33 <| .nil)
   clear hst8 hfr8 hk9
   refine hK17 _ _ ?_
   refine zB fun _ hK18 => ?_
   refine zG hfr9 rfl rfl (fun hb33 => ?_) (fun hb33 => ?_)
   ·try simp only [nqs] at hb33
    refine zJ ?_
    refine hK18 _ _ ?_
    refine zB fun _ hK19 => ?_
    refine zM ?_
    refine zB fun _ hK20 => ?_
    have zq12 := hle8.trans hle9
    have zq13 := hle7.trans zq12
    have zq14 := zq10.trans zq13
    have zq15 := hle3.trans zq14
    replace haa_t := haa_t.mono zq15
    obtain ⟨p21, vs21, x21, ho21, hd21, hm_x21, ht21, hcv21, hl21, hv21⟩ := haa_t.nth (k := y) (by omega)
    cases ho21
    obtain ⟨oV21, cV21, bs21, rfl, hva21, hbd21⟩ := hv21.open_
    have hbv21 := hva21.big; have hcv21_ := hva21.cap
    obtain ⟨⟨oK21b, cK21b, oA21b, cA21b⟩, rfl, ⟨hik21b, hin21b⟩, hkk21b, haa21b⟩ := hbd21.open_
    dsimp only at hkk21b haa21b
    have hbg21b := hkk21b.big; have hcp21b := hkk21b.cap; have hbh21b := haa21b.big; have hcq21b := haa21b.cap
    rw [hd21, nAs_cons] at hb_
    replace hst9 := hst9.more (r := .free) trivial List.nodup_nil (by simp [Res.blocks])
    refine ra0 (tch := [(2, 0, (fun v => .blk v _)), (3, 0, (fun v => .blk v _))]) hst9 hfr9 (.cons rfl (zH (k := y) rfl rfl underlying44 sizeOf78 rfl (by omega)) <| .cons rfl (zN rfl hcv21 isAgg78 sizeOf78 rfl rfl) <| .consT rfl rfl (fun _ => rfl) rfl (zP zeroValue78 rfl) <| .consT rfl rfl (fun _ => rfl) rfl (zU 9 rfl rfl rfl fun y9 => zc rfl rfl rfl rfl rfl sizeOf78 rfl rfl hv21.one) <| .nil) fun a10 w10 m10 hst10 hle10 hk10 => ?_
    have hfr10 := hk10.fr (.o 5 <| .o 32 <| .o 19 <| .o 1 <| .o 30 <| .o 31 <| .nil)
    obtain ⟨g22, e22, _⟩ := hk10.ex 9 rfl
    replace hfr10 := hfr10.cons e22
    replace hst10 := hst10.fin (L' := [_]) (.cons e22 <| .cons e22 <| .nil)
    try simp only [List.take_succ_cons, List.take_zero, List.drop_succ_cons, List.drop_zero, List.cons_append, List.nil_append, List.append_nil, List.length_cons, List.length_nil, Nat.zero_add, Nat.reduceAdd] at hst10
    clear hst9 hfr9 hk10
    refine hK20 _ _ ?_
    have zq16 := zq15.trans hle10
    replace h_t := h_t.mono zq16
    replace hkk_t := hkk_t.mono zq16
    have zq17 := zq13.trans hle10
    replace hc2 := hc2.mono zq17
    replace haa_t := haa_t.mono hle10
    replace hcv21 := hcv21.mono hle10
    replace hv21 := hv21.mono hle10
    replace hva21 := hva21.mono hle10
    replace hbd21 := hbd21.mono hle10
    replace hkk21b := hkk21b.mono hle10
    replace haa21b := haa21b.mono hle10
    refine rp0 hst10 hfr10 (.cons rfl (zD rfl) <| .cons rfl (zA (off := 3) rfl underlying78 rfl rfl sizeOf46 rfl) <| .cons rfl (Z8 (j := 0) rfl rfl isAgg46 sizeOf46 rfl rfl) <| .cons rfl (zD rfl) <| .cons rfl (ze rfl (.cons rfl <| .cons rfl <| .nil) call16 (fun w m hK => by have hle_ := KC.le hK; have hA := KC.agree hK; have h_t := h_t.mono hle_; have hkk_t := hkk_t.mono hle_; have haa_t := haa_t.mono hle_; have hc2 := hc2.mono hle_; have hcv21 := hcv21.mono hle_; have hv21 := hv21.mono hle_; have hva21 := hva21.mono hle_; have hbd21 := hbd21.mono hle_; have hkk21b := hkk21b.mono hle_; have haa21b := haa21b.mono hle_; exact iha _ (by assumption) hA hbd21 (by omega))) <| .cons rfl (zf rfl rfl ⟨by omega, by omega⟩) <| .cons rfl (zC rfl) <| .nil) fun a11 w11 m11 hst11 hle11 hk11 => ?_
    have hfr11 := hk11.fr (.o 32 <| .o 19 <| .o 1 <| .o 30 <| .o 31 <| .n 5 <| .nil)
    clear hst10 hfr10 hk11
    refine hK19 _ _ ?_
    refine rp0 hst11 hfr11 (.cons rfl (zf rfl rfl ⟨by omega, by omega⟩) <| .cons rfl (zD rfl) <| .nil) fun a12 w12 m12 hst12 hle12 hk12 => ?_
    have hfr12 := hk12.fr (.o 19 <| .o 1 <| .o 30 <| .o 31 <| .o 5 <| .n 32 <| .nil)
    clear hst11 hfr11 hk12
    have hst12 := hst12.take 0
    have zq18 := hle11.trans hle12
    have zq19 := hle10.trans zq18
    have zq20 := hle9.trans zq19
    have hlh12 := hlh8.trans zq20
    exact ⟨(y + 1, (b + (nK k x21.body : Int))), m12, by show t.arms.length - (y + 1) < t.arms.length - y; omega, ⟨hst12, hlh12, hfr12.sub (.c <| .c <| .c <| .c <| .c <| .c <| .nil), ⟨by show y + 1 ≤ t.arms.length; omega, by show b + (nK k x21.body : Int) + ((nAs k (t.arms.drop (y + 1)) : Nat) : Int) = _; omega, by show 0 ≤ b + (nK k x21.body : Int); omega⟩⟩⟩
   ·try simp only [nqs] at hb33
    have hge : y = t.arms.length := by omega
    rw [List.drop_of_length_le (by omega), nAs] at hb_
    refine zk ?_
    refine hK14 _ _ ?_
    refine zB fun _ hK23 => ?_
    refine rp0 hst9 hfr9 (.cons rfl (zD rfl) <| .cons rfl (zC rfl) <| .nil) fun a10 w10 m10 hst10 hle10 hk10 => ?_
    have hfr10 := hk10.fr (.o 5 <| .o 32 <| .o 19 <| .n 4 <| .nil)
    clear hst9 hfr9 hk10
    refine hK23 _ _ ?_
    refine zK ?_
    repeat (with_reducible first | refine zI ?_ | refine zF ?_)
    exact zL hst10 hfr10 rfl (.tmp rfl <| .nil) (by refine congrArg (Value.int _) ?_; omega)
 ·have hlj4 : MLe m2 m2 := MLe.refl _
  refine zB fun _ hK25 => ?_
  refine rp0 hst2 hfr2 (.cons rfl (zA (off := 0) rfl underlying46 rfl rfl sizeOf3 rfl) <| .cons rfl (zE rfl hc2 isAgg3 rfl) <| .cons rfl (zD rfl) <| .cons rfl (za rfl rfl) <| .nil) fun a3 w3 m3 hst3 hle3 hk3 => ?_
  have hfr3 := hk3.fr (.o 1 <| .o 2 <| .o 5 <| .n 13 <| .nil)
  clear hst2 hfr2 hk3
  refine hK25 _ _ ?_
  refine zG hfr3 rfl rfl (fun hb13 => ?_) (fun hb13 => ?_)
  ·try simp only [nqs] at hb13
   refine rp0 hst3 hfr3 (.cons rfl (zD rfl) <| .cons rfl (zf rfl rfl ⟨by omega, by omega⟩) <| .cons rfl (zC rfl) <| .nil) fun a4 w4 m4 hst4 hle4 hk4 => ?_
   have hfr4 := hk4.fr (.o 1 <| .o 2 <| .n 5 <| .nil)
   clear hst3 hfr3 hk4
   repeat (with_reducible first | refine ZM ?_ | refine ZH ?_ | refine z7 ?_)
   have zq21 := hle3.trans hle4
   replace hlj4 := hlj4.trans zq21
   exact hj4 ((0 + 1)) _ _ _ ⟨hst4, hlj4, hfr4.sub (.c <| .c <| .c <| .nil), by simp [hb13]⟩
  ·try simp only [nqs] at hb13
   refine zJ ?_
   repeat (with_reducible first | refine ZM ?_ | refine ZH ?_ | refine z7 ?_)
   replace hlj4 := hlj4.trans hle3
   exact hj4 (0) _ _ _ ⟨hst3, hlj4, hfr3.sub (.c <| .c <| .c <| .nil), by simp [hb13]⟩
theorem lcount_c (t : Cd) : zCp t := Cd.rec_ (p := zCp) (fun t ihk iha => lcount_s ihk iha) t
end Go.Proofs.YtmdhhjmomilhjaaDoor
namespace Go.Proofs.YtmdhhjmomilhjaaDoor
open Go.Proofs.Tryd
set_option linter.all false
set_option maxRecDepth 4000
open Go.RowKit
open Go.Lib (itoa decDigits)
end Go.Proofs.YtmdhhjmomilhjaaDoor
namespace Go.Proofs.YtmdhhjmomilhjaaDoor
open Go.Proofs.Tryd
set_option linter.all false
set_option maxRecDepth 4000
open Go.RowKit
end Go.Proofs.YtmdhhjmomilhjaaDoor
namespace Go.Proofs.YtmdhhjmomilhjaaDoor
open Go.Proofs.Tryd
set_option linter.all false
set_option maxRecDepth 4000
open Go.RowKit
abbrev Rws (m : Mem) (o : Option Addr) (n c : Nat) (l : List Rw) : Prop := Sl (fun m vs r => RwR m r vs) 2 m o n c l
theorem Rws.mono {m m' : Mem} {o : Option Addr} {n c : Nat} {l : List Rw} (h : Rws m o n c l) (hm : MLe m m') : Rws m' o n c l := Sl.mono h (fun _ _ e => e.mono hm) hm
def zCN (l : List Rw) (n : Nat) (r : Rw) : Rw := if l = [] then r else l.getD (n % l.length) r
mutual
def zAA (l : List Rw) : Tm → Nat → Tm
 | ⟨k, a, s, p, v, ks, az, r⟩, n => ⟨k, a, s, p, v, Zj l ks (n + 1), Zs l az (n + 1 + zS ks), zCN l n r⟩
def Zj (l : List Rw) : List Tm → Nat → List Tm
 | [], _ => []
 | t :: ts, n => zAA l t n :: Zj l ts (n + zQ t)
def Zs (l : List Rw) : List Ar → Nat → List Ar
 | [], _ => []
 | ⟨s, v, b⟩ :: ts, n => ⟨s, v, zAA l b n⟩ :: Zs l ts (n + zQ b)
end
def zDR (l : List Rw) (a : Ar) (n : Nat) : Ar := ⟨a.name, a.vars, zAA l a.body n⟩
theorem zBp (l : List Rw) (t : Tm) (n : Nat) : zAA l t n = ⟨t.kind, t.at_, t.name, t.param, t.n, Zj l t.kids (n + 1), Zs l t.arms (n + 1 + zS t.kids), zCN l n t.row⟩ := by obtain ⟨k, a, s, p, v, ks, az, r⟩ := t; rw [zAA]; rfl
theorem zBP (l : List Rw) (a : Ar) (ts : List Ar) (n : Nat) : Zs l (a :: ts) n = zDR l a n :: Zs l ts (n + zQ a.body) := by obtain ⟨s, v, b⟩ := a; rw [Zs]; rfl
def MP.rowsV (l : List Rw) (t : Tm) (n : Nat) : MP := MP.mem (fun y : TmY => .tuple #[.agg (tmV (zAA l t n) y).toArray, .int .i64 ((n + zQ t : Nat) : Int)]) (fun y m => TmR m (zAA l t n) (tmV (zAA l t n) y)) fun hm h => h.mono hm
-- what is so of a term is so of it with other rows
theorem zCd {l : List Rw} : ∀ {ks : List Tm} {n : Nat} {u : Tm}, u ∈ Zj l ks n → ∃ v ∈ ks, ∃ k, u = zAA l v k
 | [], _, _, h => by simp [Zj] at h
 | t :: ts, n, u, h => by
  rw [Zj] at h
  rcases List.mem_cons.1 h with rfl | h
  ·exact ⟨t, .head _, n, rfl⟩
  ·obtain ⟨v, hv, k, e⟩ := zCd h; exact ⟨v, .tail _ hv, k, e⟩
theorem zCR {l : List Rw} : ∀ {az : List Ar} {n : Nat} {a : Ar}, a ∈ Zs l az n → ∃ b ∈ az, ∃ k, a = zDR l b k
 | [], _, _, h => by simp [Zs] at h
 | t :: ts, n, u, h => by
  rw [zBP] at h
  rcases List.mem_cons.1 h with rfl | h
  ·exact ⟨t, .head _, n, rfl⟩
  ·obtain ⟨v, hv, k, e⟩ := zCR h; exact ⟨v, .tail _ hv, k, e⟩
theorem zEF (l : List Rw) : ∀ (ks : List Tm) (n : Nat), (Zj l ks n).length = ks.length
 | [], _ => by simp [Zj]
 | t :: ts, n => by rw [Zj, List.length_cons, zEF l ts]; rfl
theorem LwT.rows {t : Tm} (l : List Rw) (h : LwT t) : ∀ n, LwT (zAA l t n) := by
 induction t using Tm.rec_ with
 | h t ihk iha =>
  intro n
  rw [zBp]
  refine .mk ?_ (fun u hu => ?_) (fun a ha => ?_)
  ·rcases h.here with ⟨h1, h2⟩ | ⟨h1, h2, h3, h4⟩
   ·refine .inl ⟨?_, fun a b => ?_⟩
    ·have e := zEF l t.kids (n + 1); have h1' := h1; rw [← e] at h1'; exact h1'
    ·show Zs l t.arms _ = []; rw [h2 a b]; simp [Zs]
   ·exact .inr ⟨h1, h2, by show Zj l t.kids _ = []; rw [h3]; simp [Zj], by show Zs l t.arms _ = []; rw [h4]; simp [Zs]⟩
  ·obtain ⟨v, hv, k, rfl⟩ := zCd hu; exact ihk v hv (h.kid hv) k
  ·obtain ⟨v, hv, k, rfl⟩ := zCR ha; exact iha v hv (h.arm hv) k
theorem ClT.rows {t : Tm} (l : List Rw) (h : ClT t) : ∀ n, ClT (zAA l t n) := by
 induction t using Tm.rec_ with
 | h t ihk iha =>
  intro n
  rw [zBp]
  refine .mk h.here (fun u hu => ?_) (fun a ha => ?_)
  ·obtain ⟨v, hv, k, rfl⟩ := zCd hu; exact ihk v hv (h.kid hv) k
  ·obtain ⟨v, hv, k, rfl⟩ := zCR ha; exact iha v hv (h.arm hv) k
theorem rows_count (l : List Rw) (t : Tm) : ∀ n, zQ (zAA l t n) = zQ t := by
 induction t using Tm.rec_ with
 | h t ihk iha =>
  intro n
  have hk : ∀ (ks : List Tm), (∀ u ∈ ks, u ∈ t.kids) → ∀ n, zS (Zj l ks n) = zS ks := by
   intro ks
   induction ks with
   | nil => intro _ n; simp [Zj]
   | cons u ks ih => intro hl n; rw [Zj, zS, zS, ihk u (hl u (.head _)), ih (fun u hu => hl u (.tail _ hu))]
  have ha : ∀ (az : List Ar), (∀ u ∈ az, u ∈ t.arms) → ∀ n, zq (Zs l az n) = zq az := by
   intro az
   induction az with
   | nil => intro _ n; simp [Zs]
   | cons u az ih => intro hl n; rw [zBP, z6, z6, ih (fun u hu => hl u (.tail _ hu)), show (zDR l u n).body = zAA l u.body n from rfl, iha u (hl u (.head _))]
  rw [zp, zp t, zBp]
  show 1 + zS (Zj l t.kids (n + 1)) + zq (Zs l t.arms (n + 1 + zS t.kids)) = _
  rw [hk _ (fun _ h => h), ha _ (fun _ h => h)]
theorem rows_bulk (l : List Rw) (t : Tm) : ∀ n, ZB (zAA l t n) = ZB t := by
 induction t using Tm.rec_ with
 | h t ihk iha =>
  intro n
  have hk : ∀ (ks : List Tm), (∀ u ∈ ks, u ∈ t.kids) → ∀ n, Zv (Zj l ks n) = Zv ks := by
   intro ks
   induction ks with
   | nil => intro _ n; simp [Zj]
   | cons u ks ih => intro hl n; rw [Zj, Zv, Zv, ihk u (hl u (.head _)), ih (fun u hu => hl u (.tail _ hu))]
  have ha : ∀ (az : List Ar), (∀ u ∈ az, u ∈ t.arms) → ∀ n, Zm (Zs l az n) = Zm az := by
   intro az
   induction az with
   | nil => intro _ n; simp [Zs]
   | cons u az ih =>
    intro hl n
    have := iha u (hl u (.head _)) n
    have := ih (fun u hu => hl u (.tail _ hu)) (n + zQ u.body)
    rw [zBP]; obtain ⟨s, v, b⟩ := u
    simp only [zDR, Ar.name, Ar.vars, Ar.body, Zm] at *; omega
  rw [Zl, Zl t, zBp]
  have h1 := hk t.kids (fun _ h => h) (n + 1); have h2 := ha t.arms (fun _ h => h) (n + 1 + zS t.kids)
  simp only [Tm.name, Tm.param, Tm.kids, Tm.arms]; simp only [Tm.name, Tm.param, Tm.kids, Tm.arms] at h1 h2; omega
def MP.someV (B : Nat) : MP := MP.mem (fun y : (Tm × TmY) × Bool => .tuple #[.agg (tmV y.1.1 y.1.2).toArray, .bool y.2]) (fun y m => TmR m y.1.1 (tmV y.1.1 y.1.2) ∧ LwT y.1.1 ∧ zQ y.1.1 ≤ 300 ∧ ZB y.1.1 ≤ B ∧ ClT y.1.1) fun hm h => ⟨h.1.mono hm, h.2⟩
theorem low_of {t : Tm} (h : RtT t ∨ t = Zd) : LwT t := h.elim (·.low) (fun e => e ▸ zero_low)
def intT (n : Int) : Tm := ⟨2, 0, [], [], n, [], [], ⟨[], 0⟩⟩
def shT : Tm := zDZ (zDb [102]) (zDZ (zDb [103]) (intT 1))
def intC (n : Int) : Cd := ⟨2, [], [], n, [], []⟩
def shA : Cd := ⟨6, [], [], 0, [zCV [103], intC 1], []⟩
def shB : Cd := ⟨6, [], [], 0, [zCV [102], zCV (Zy 1)], []⟩
theorem low_var (s : Str) : LwT (zDb s) := .mk (.inl ⟨.inl rfl, fun _ _ => rfl⟩) (fun _ h => nomatch h) (fun _ h => nomatch h)
theorem low_int (n : Int) : LwT (intT n) := .mk (.inl ⟨.inl rfl, fun _ _ => rfl⟩) (fun _ h => nomatch h) (fun _ h => nomatch h)
theorem low_call {f a : Tm} (h : LwT f) (h2 : LwT a) : LwT (zDZ f a) := .mk (.inl ⟨.inl rfl, fun _ _ => rfl⟩) (fun u hu => by
 rcases List.mem_cons.1 hu with rfl | hu
 ·exact h
 ·rw [List.mem_singleton] at hu; subst hu; exact h2) (fun a ha => by cases ha)
theorem nameQ_1 : Zy 1 = [39, 49] := by unfold Zy; rw [dec_eq, if_pos (by omega)]; rfl
theorem lowT_sh : zEW true false shT = cd2 8 (Zy 1) [] shA shB := by
 have h1 : zQ shT = 5 := by decide
 unfold zEW; rw [h1]; rfl
theorem CdR.at_y {m : Mem} {t : Cd} {y : CdY} (h : CdR m t (cdV t y)) : Cds m y.o1 t.kids.length y.c1 t.kids ∧ Cas m y.o2 t.arms.length y.c2 t.arms := by
 obtain ⟨⟨a, b, c, d⟩, e, _, h1, h2⟩ := h.open_
 obtain ⟨a', b', c', d'⟩ := y
 simp only [cdV, List.cons.injEq, Value.slice.injEq, true_and, and_true] at e
 obtain ⟨⟨rfl, rfl⟩, rfl, rfl⟩ := e
 exact ⟨h1, h2⟩
theorem zDx {α : Type} {l r : List α} {k : Nat} {x c : α} (h : l.drop k = x :: r) (hc : l[k]? = some c) : x = c := by
 have := zBH h; rw [hc] at this; injection this with e; exact e.symm
abbrev rows_G (t : Tm) : Prop := ∀ {w : World} {m : Mem} {vs_t : List Value} {o_rl : Option Addr} {c_rl : Nat} {rl : List Rw} {n : Nat} (hA : Agree w m) (h_t : TmR m t vs_t) (h_rl : Rws m o_rl rl.length c_rl rl) (hb : n + zQ t ≤ 1000000000), FnV Tryd.prog 21 #[.agg vs_t.toArray, .slice o_rl rl.length c_rl, .int .i64 (n : Int)] w m (fun _ m v => (MP.rowsV rl t n).p m v)
set_option maxHeartbeats 3200000 in
theorem rows_s {t : Tm} (ihk : ∀ u ∈ t.kids, rows_G u) (iha : ∀ a ∈ t.arms, rows_G a.body) {w : World} {m : Mem} {vs_t : List Value} {o_rl : Option Addr} {c_rl : Nat} {rl : List Rw} {n : Nat} (hA : Agree w m) (h_t : TmR m t vs_t) (h_rl : Rws m o_rl rl.length c_rl rl) (hb : n + zQ t ≤ 1000000000) : FnV Tryd.prog 21 #[.agg vs_t.toArray, .slice o_rl rl.length c_rl, .int .i64 (n : Int)] w m (fun _ m v => (MP.rowsV rl t n).p m v) := by
 obtain ⟨⟨oK_t, cK_t, oA_t, cA_t, oR_t, cR_t, t0_t, t1_t, t2_t, t3_t, t4_t, t5_t, u0_t, u1_t, u2_t, u3_t, u4_t, u5_t⟩, rfl, hon_t, hkk_t, haa_t, hrr_t⟩ := h_t.open_
 dsimp only at hkk_t haa_t hrr_t
 have hbg_t := hkk_t.big; have hcp_t := hkk_t.cap; have hbh_t := haa_t.big; have hcq_t := haa_t.cap
 have hb_rl := h_rl.big; have hc_rl := h_rl.cap
 refine zX (vs := [_, _, _]) func21 rfl rfl rfl fun a0 hfr0 => ?_
 have hst0 := zW hA (zj [] _ w m)
 have hM : MLe m m := MLe.refl m
 have hce := zp t
 have hkl_ := Z3 t.kids
 have hal_ := zAM t.arms
 have htm : (n : Int).tmod (rl.length : Int) = ((n % rl.length : Nat) : Int) := rfl
 refine zB fun _ hK1 => ?_
 replace hst0 := hst0.more (r := .free) trivial List.nodup_nil (by simp [Res.blocks])
 refine ra0 (tch := [(1, 0, (fun v => .blk v _))]) hst0 hfr0 (.cons rfl (zw rfl rfl) <| .consT rfl rfl (fun _ => rfl) rfl (zP zeroValue33 rfl) <| .cons rfl (zC rfl) <| .nil) fun a1 w1 m1 hst1 hle1 hk1 => ?_
 have hfr1 := hk1.fr (.o 1 <| .o 2 <| .nil)
 obtain ⟨g2, e2, hc3⟩ := hk1.ex 3 rfl
 replace hfr1 := hfr1.cons e2
 obtain ⟨g3, e3, _⟩ := hk1.ex 6 rfl
 replace hfr1 := hfr1.cons e3
 replace hst1 := hst1.fin (L' := [_]) (.cons e3 <| .nil)
 replace h_t := h_t.mono hle1
 replace hkk_t := hkk_t.mono hle1
 replace haa_t := haa_t.mono hle1
 replace hrr_t := hrr_t.mono hle1
 replace h_rl := h_rl.mono hle1
 clear hst0 hfr0 hk1
 refine hK1 _ _ ?_
 refine zB fun _ hK4 => ?_
 replace hst1 := hst1.more (r := .free) trivial List.nodup_nil (by simp [Res.blocks])
 refine ra0 (tch := [(1, 1, (fun v => .blk v _)), (2, 1, (fun v => .blk v _))]) hst1 hfr1 (.cons rfl (zN rfl hc3 isAgg33 sizeOf33 rfl rfl) <| .consT rfl rfl (fun _ => rfl) rfl (zP zeroValue33 rfl) <| .consT rfl rfl (fun _ => rfl) rfl (zU 8 rfl rfl rfl fun y8 => zc rfl rfl rfl rfl rfl sizeOf33 rfl rfl h_t.one) <| .nil) fun a2 w2 m2 hst2 hle2 hk2 => ?_
 have hfr2 := hk2.fr (.o 1 <| .o 2 <| .o 3 <| .o 6 <| .nil)
 obtain ⟨gB, e5, _⟩ := hk2.ex 8 rfl
 replace hfr2 := hfr2.cons e5
 replace hst2 := hst2.fin (L' := [_, _]) (.cons e5 <| .cons e5 <| .nil)
 try simp only [List.take_succ_cons, List.take_zero, List.drop_succ_cons, List.drop_zero, List.cons_append, List.nil_append, List.append_nil, List.length_cons, List.length_nil, Nat.zero_add, Nat.reduceAdd] at hst2
 replace hkk_t := hkk_t.mono hle2
 replace haa_t := haa_t.mono hle2
 replace hrr_t := hrr_t.mono hle2
 replace h_rl := h_rl.mono hle2
 replace hc3 := hc3.mono hle2
 clear hst1 hfr1 hk2
 refine hK4 _ _ ?_
 refine zB fun _ hK6 => ?_
 refine ra0 (tch := [(1, 1, (fun _ => .blk _ _))]) hst2 hfr2 (.cons rfl (zA (off := 5) rfl underlying33 rfl rfl sizeOf24 rfl) <| .consT rfl rfl (fun _ => rfl) rfl (ZG rfl rfl rfl sizeOf24 rfl rfl rfl) <| .nil) fun a3 w3 m3 hst3 hle3 hk3 => ?_
 have hfr3 := hk3.fr (.o 1 <| .o 2 <| .o 3 <| .o 6 <| .o 8 <| .nil)
 replace hst3 := hst3.fin (L' := [_, _]) (.cons rfl <| .nil)
 try simp only [List.take_succ_cons, List.take_zero, List.drop_succ_cons, List.drop_zero, List.cons_append, List.nil_append, List.append_nil, List.length_cons, List.length_nil, Nat.zero_add, Nat.reduceAdd] at hst3
 replace hkk_t := hkk_t.mono hle3
 replace haa_t := haa_t.mono hle3
 replace hrr_t := hrr_t.mono hle3
 replace h_rl := h_rl.mono hle3
 replace hc3 := hc3.mono hle3
 clear hst2 hfr2 hk3
 refine hK6 _ _ ?_
 refine zB fun _ hK7 => ?_
 refine ra0 (tch := [(1, 1, (fun _ => .blk _ _))]) hst3 hfr3 (.cons rfl (zA (off := 6) rfl underlying33 rfl rfl sizeOf25 rfl) <| .consT rfl rfl (fun _ => rfl) rfl (ZG rfl rfl rfl sizeOf25 rfl rfl rfl) <| .nil) fun a4 w4 m4 hst4 hle4 hk4 => ?_
 have hfr4 := hk4.fr (.o 1 <| .o 2 <| .o 3 <| .o 6 <| .o 8 <| .nil)
 replace hst4 := hst4.fin (L' := [_, _]) (.cons rfl <| .nil)
 try simp only [List.take_succ_cons, List.take_zero, List.drop_succ_cons, List.drop_zero, List.cons_append, List.nil_append, List.append_nil, List.length_cons, List.length_nil, Nat.zero_add, Nat.reduceAdd] at hst4
 replace hkk_t := hkk_t.mono hle4
 replace haa_t := haa_t.mono hle4
 replace hrr_t := hrr_t.mono hle4
 replace h_rl := h_rl.mono hle4
 replace hc3 := hc3.mono hle4
 clear hst3 hfr3 hk4
 have hst4 := hst4.more (r := .rowx (.slice none 0 0) 0 21 33 (MP.reads (fun m vs t => TmR m t vs) 21 [])) zAF List.nodup_nil (by simp [Res.blocks, zy])
 have hsl_K : Tms m4 none ([] : List Tm).length 0 ([] : List Tm) := Sl.empty
 have hst4 := hst4.more (r := .rowx (.slice none 0 0) 0 23 72 (MP.reads (fun m vs t => ArR m t vs) 23 [])) zAF List.nodup_nil (by simp [Res.blocks, zy])
 have hsl_A : Ars m4 none ([] : List Ar).length 0 ([] : List Ar) := Sl.empty
 refine hK7 _ _ ?_
 refine zBI (T := [(1, _), (2, _), (3, _), (6, _), (8, _)]) (fun (y : Rw × Option Addr × Nat) => ([] : List (Nat × Value))) (fun y => [_, .blk (.pointer (some ⟨gB, 0, none⟩)) (.cells (tmV ⟨t.kind, t.at_, t.name, t.param, t.n, [], [], y.1⟩ (⟨none, 0, none, 0, y.2.1, y.2.2, t0_t, t1_t, t2_t, t3_t, t4_t, t5_t, u0_t, u1_t, u2_t, u3_t, u4_t, u5_t⟩ : TmY)).toArray 33), _, _]) (fun (y : Rw × Option Addr × Nat) m => (fun (rr : Rw) (orr : Option Addr) (crr : Nat) => (rr = zCN rl n t.row) ∧ (RwR m rr [.slice orr rr.labels.length crr, .int .i64 rr.var])) y.1 y.2.1 y.2.2) ((t.row, oR_t, cR_t)) ⟨hst4, MLe.refl _, hfr4.sub (.c <| .c <| .c <| .c <| .c <| .nil), trivial⟩ (fun y a5 w5 m5 hh5 => ?_) (fun K8 hj8 => ?_)
 ·have hst5 := hh5.st; have hle5 := hh5.le; have hfr5 := hh5.fr; have hrel := hh5.rel; clear hh5
  clear hst4 hfr4
  obtain ⟨rr, orr, crr⟩ := y
  dsimp only at hrel hfr5 hst5
  obtain ⟨hrr9, hrw9⟩ := hrel
  subst hrr9
  refine zB fun _ hK9 => ?_
  refine rp0 hst5 hfr5 (.cons rfl (zD rfl) <| .cons rfl (zf rfl rfl ⟨by omega, by omega⟩) <| .cons rfl (zC rfl) <| .nil) fun a6 w6 m6 hst6 hle6 hk6 => ?_
  have hfr6 := hk6.fr (.o 1 <| .o 3 <| .o 6 <| .o 8 <| .n 2 <| .nil)
  clear hst5 hfr5 hk6
  rw [show (n : Int) + 1 = ((n + 1 : Nat) : Int) by omega] at hfr6
  refine hK9 _ _ ?_
  refine zB fun _ hK10 => ?_
  refine zB fun _ hK11 => ?_
  refine rp0 hst6 hfr6 (.cons rfl (zC rfl) <| .nil) fun a7 w7 m7 hst7 hle7 hk7 => ?_
  have hfr7 := hk7.fr (.o 1 <| .o 3 <| .o 6 <| .o 8 <| .o 2 <| .n 9 <| .nil)
  clear hst6 hfr6 hk7
  refine hK11 _ _ ?_
  refine zM ?_
  have zq1 := hle6.trans hle7
  have zq2 := hle5.trans zq1
  replace hsl_K := hsl_K.mono zq2
  refine zh (T := [(1, _), (3, _), (6, _), (8, _)]) (fun (y : Nat × Nat × Option Addr × Nat × List Tm) => ([(2, .int .i64 (y.2.1 : Int)), (9, .int .i64 (y.1 : Int))] : List (Nat × Value))) (fun y => [_, .blk (.pointer (some ⟨gB, 0, none⟩)) (.cells (tmV ⟨t.kind, t.at_, t.name, t.param, t.n, y.2.2.2.2, [], (zCN rl n t.row)⟩ (⟨y.2.2.1, y.2.2.2.1, none, 0, orr, crr, t0_t, t1_t, t2_t, t3_t, t4_t, t5_t, u0_t, u1_t, u2_t, u3_t, u4_t, u5_t⟩ : TmY)).toArray 33), .rowx (nz (.slice y.2.2.1 y.2.2.2.2.length y.2.2.2.1)) y.2.2.2.2.length 21 33 (MP.reads (fun m vs t => TmR m t vs) 21 y.2.2.2.2), _]) (fun (y : Nat × Nat × Option Addr × Nat × List Tm) m => (fun (y : Nat) (v : Nat) (klo : Option Addr) (klp : Nat) (kl : List Tm) => (y ≤ t.kids.length) ∧ (Tms m klo kl.length klp kl) ∧ (Zj rl t.kids (n + 1) = kl ++ Zj rl (t.kids.drop y) v ∧ kl.length = y) ∧ (v + zS (t.kids.drop y) = n + 1 + zS t.kids)) y.1 y.2.1 y.2.2.1 y.2.2.2.1 y.2.2.2.2) (fun y => t.kids.length - y.1) ((0, (n + 1), none, 0, ([] : List Tm))) ⟨hst7, MLe.refl _, hfr7.sub (.c <| .c <| .c <| .c <| .c <| .c <| .nil), ⟨Nat.zero_le _, hsl_K, ⟨rfl, rfl⟩, rfl⟩⟩ fun y a8 w8 m8 hh8 => ?_
  have hst8 := hh8.st; have hle8 := hh8.le; have hfr8 := hh8.fr; have hrel := hh8.rel; clear hh8
  clear hst7 hfr7
  obtain ⟨y, v, klo, klp, kl⟩ := y
  dsimp only at hrel hfr8 hst8
  obtain ⟨hyn, hsl_kl, hlen_kl, hck⟩ := hrel
  have hlh8 := hle8
  refine zB fun _ hK13 => ?_
  refine zB fun _ hK14 => ?_
  have zq3 := zq2.trans hle8
  replace hc3 := hc3.mono zq3
  refine rp0 hst8 hfr8 (.cons rfl (zD rfl) <| .cons rfl (zA (off := 5) rfl underlying33 rfl rfl sizeOf24 rfl) <| .cons rfl (zE rfl hc3 isAgg24 rfl) <| .cons rfl (zZ rfl underlying24) <| .cons rfl (zz rfl rfl) <| .nil) fun a9 w9 m9 hst9 hle9 hk9 => ?_
  have hfr9 := hk9.fr (.o 2 <| .o 9 <| .o 1 <| .o 3 <| .o 6 <| .o 8 <| .n 36 <| .nil)
  clear hst8 hfr8 hk9
  refine hK14 _ _ ?_
  refine zG hfr9 rfl rfl (fun hb36 => ?_) (fun hb36 => ?_)
  ·try simp only [nqs] at hb36
   refine zJ ?_
   refine hK13 _ _ ?_
   refine zB fun _ hK15 => ?_
   refine zM ?_
   refine zB fun _ hK16 => ?_
   refine zu 8 (by kernel_rfl) ?_
   have zq4 := zq3.trans hle9
   replace hkk_t := hkk_t.mono zq4
   obtain ⟨p17, vs17, x17, ho17, hd17, hm_x17, ht17, hcv17, hl17, hv17⟩ := hkk_t.nth (k := y) (by omega)
   cases ho17
   obtain ⟨⟨oK17, cK17, oA17, cA17, oR17, cR17, t017, t117, t217, t317, t417, t517, u017, u117, u217, u317, u417, u517⟩, rfl, hon17, hkk17, haa17, hrr17⟩ := hv17.open_
   dsimp only at hkk17 haa17 hrr17
   have hbg17 := hkk17.big; have hcp17 := hkk17.cap; have hbh17 := haa17.big; have hcq17 := haa17.cap
   rw [hd17] at hlen_kl hck
   rw [Zj] at hlen_kl; rw [zS] at hck
   replace h_rl := h_rl.mono zq4
   replace hc3 := hc3.mono hle9
   refine zg (tch := []) hst9 hfr9 (by kernel_rfl) (by kernel_rfl) (by kernel_rfl) (.cons rfl (zA (off := 5) rfl underlying33 rfl rfl sizeOf24 rfl) <| .cons rfl (zE rfl hc3 isAgg24 rfl) <| .cons rfl (zD rfl) <| .cons rfl (zH (k := y) rfl rfl underlying24 sizeOf33 rfl (by omega)) <| .cons rfl (zN rfl hcv17 isAgg33 sizeOf33 rfl rfl) <| .cons rfl (zD rfl) <| .cons rfl (zD rfl) <| .cons rfl (zm (φ := MP.rowsV rl x17 v) rfl (.cons rfl <| .cons rfl <| .cons rfl <| .nil) call21 (fun w m hK => by have hle_ := KC.le hK; have hA := KC.agree hK; have h_rl := h_rl.mono hle_; have hv17 := hv17.mono hle_; exact FnG.mono (ihk _ hm_x17 hA hv17 h_rl (by omega)) fun _ _ _ _ h => h)) <| .nil) fun a10 w10 m10 hst10 hle10 hk10 => ?_
   have hfr10 := hk10.fr (.o 2 <| .o 9 <| .o 1 <| .o 3 <| .o 6 <| .o 8 <| .nil)
   obtain ⟨yr, e18, hyr⟩ := hk10.ex 47 rfl
   replace hfr10 := hfr10.cons e18
   clear hst9 hfr9 hk10
   replace hst10 := hst10.more (r := .free) trivial List.nodup_nil (by simp [Res.blocks])
   refine zg (tch := [(3, 4, (fun v => .blk v _)), (4, 4, (fun v => .blk v _))]) hst10 hfr10 (by kernel_rfl) (by kernel_rfl) (by kernel_rfl) (.cons rfl (zD rfl) <| .cons rfl (zT rfl rfl) <| .cons rfl (zT rfl rfl) <| .consT rfl rfl (fun _ => rfl) rfl (zP zeroValue33 rfl) <| .consT rfl rfl (fun _ => rfl) rfl (zU 10 rfl rfl rfl fun y10 => zc rfl rfl rfl rfl rfl sizeOf33 rfl rfl hyr.one) <| .cons rfl (zC rfl) <| .nil) fun a11 w11 m11 hst11 hle11 hk11 => ?_
   have hfr11 := hk11.fr (.o 2 <| .o 9 <| .o 1 <| .o 3 <| .o 6 <| .o 8 <| .o 47 <| .n 11 <| .nil)
   obtain ⟨g19, e19, _⟩ := hk11.ex 10 rfl
   replace hfr11 := hfr11.cons e19
   replace hst11 := hst11.fin (L' := [_, _, _, _, _]) (.cons e19 <| .cons e19 <| .nil)
   try simp only [List.take_succ_cons, List.take_zero, List.drop_succ_cons, List.drop_zero, List.cons_append, List.nil_append, List.append_nil, List.length_cons, List.length_nil, Nat.zero_add, Nat.reduceAdd] at hst11
   clear hst10 hfr10 hk11
   refine hK16 _ _ ?_
   refine zB fun _ hK20 => ?_
   refine rp0 hst11 hfr11 (.cons rfl (zD rfl) <| .cons rfl (zC rfl) <| .nil) fun a12 w12 m12 hst12 hle12 hk12 => ?_
   have hfr12 := hk12.fr (.o 9 <| .o 1 <| .o 3 <| .o 6 <| .o 8 <| .o 10 <| .n 2 <| .nil)
   clear hst11 hfr11 hk12
   refine hK20 _ _ ?_
   have zq5 := hle11.trans hle12
   replace hyr := hyr.mono zq5
   refine ra0 (tch := [(4, 2, (fun v => .rowx (nz v) _ _ _ _)), (6, 1, (fun u => .blk _ (.cells (_ ++ [u] ++ _).toArray _)))]) hst12 hfr12 (.cons rfl (zA (off := 5) rfl underlying33 rfl rfl sizeOf24 rfl) <| .cons rfl (zO (j := 1) rfl rfl isAgg24 rfl) <| .cons rfl (zb (j := 4) rfl rfl isAgg33 sizeOf33 rfl) <| .cons rfl (z1 rfl underlying24 sizeOf33 zeroValue33 rfl rfl rfl rfl) <| .consT rfl rfl (fun _ => rfl) rfl (zU 54 rfl rfl rfl fun y54 => ZT (size := 21) (bytes := 312) (l := kl) (l' := [zAA rl x17 v]) rfl rfl (fun _ => by first | exact .inl rfl | exact .inr (.inl rfl)) underlying24 type33 rfl rfl rfl rfl (fun w m hK => Sl.one (R := fun m vs t => TmR m t vs) hK.2 hyr.len (hyr.mono (KC.le hK))) rfl (by decide) (by simp only [maxLen]; omega) (by omega)) <| .cons rfl (zA (off := 5) rfl underlying33 rfl rfl sizeOf24 rfl) <| .consT rfl rfl (fun _ => rfl) rfl (zU 55 rfl rfl rfl fun y55 => zAK rfl rfl rfl rfl rfl sizeOf24 rfl rfl rfl) <| .nil) fun a13 w13 m13 hst13 hle13 hk13 => ?_
   have hfr13 := hk13.fr (.o 9 <| .o 1 <| .o 3 <| .o 6 <| .o 8 <| .o 2 <| .nil)
   obtain ⟨⟨K_21o, K_21p⟩, e22, hsl_K_21⟩ := hk13.ex 55 rfl
   replace hst13 := hst13.fin (L' := [_, _, _, _, _]) (.cons e22 <| .cons e22 <| .nil)
   try simp only [List.take_succ_cons, List.take_zero, List.drop_succ_cons, List.drop_zero, List.cons_append, List.nil_append, List.append_nil, List.length_cons, List.length_nil, Nat.zero_add, Nat.reduceAdd] at hst13
   clear hst12 hfr12 hk13
   replace hsl_K_21 : Tms m13 K_21o (kl ++ [zAA rl x17 v]).length K_21p (kl ++ [zAA rl x17 v]) := hsl_K_21
   refine hK15 _ _ ?_
   refine rp0 hst13 hfr13 (.cons rfl (zD rfl) <| .cons rfl (zf rfl rfl ⟨by omega, by omega⟩) <| .cons rfl (zC rfl) <| .nil) fun a14 w14 m14 hst14 hle14 hk14 => ?_
   have hfr14 := hk14.fr (.o 1 <| .o 3 <| .o 6 <| .o 8 <| .o 2 <| .n 9 <| .nil)
   clear hst13 hfr13 hk14
   have hst14 := hst14.take 4
   replace hsl_K_21 := hsl_K_21.mono hle14
   have zq6 := hle13.trans hle14
   have zq7 := zq5.trans zq6
   have zq8 := hle10.trans zq7
   have zq9 := hle9.trans zq8
   have hlh14 := hlh8.trans zq9
   exact ⟨(y + 1, (v + zQ x17), K_21o, K_21p, (kl ++ [zAA rl x17 v])), m14, by show t.kids.length - (y + 1) < t.kids.length - y; omega, ⟨hst14, hlh14, hfr14.sub (.c <| .c <| .c <| .c <| .c <| .c <| .nil), ⟨by show y + 1 ≤ t.kids.length; omega, hsl_K_21, ⟨by rw [hlen_kl.1]; simp, by show (kl ++ [_]).length = y + 1; simp; exact hlen_kl.2⟩, by show v + zQ x17 + zS (t.kids.drop (y + 1)) = _; omega⟩⟩⟩
  ·try simp only [nqs] at hb36
   have hge : y = t.kids.length := by omega
   rw [List.drop_of_length_le (by omega)] at hlen_kl hck
   rw [Zj, List.append_nil] at hlen_kl
   rw [zS] at hck
   refine zk ?_
   refine hK10 _ _ ?_
   refine zB fun _ hK23 => ?_
   refine zB fun _ hK24 => ?_
   refine rp0 hst9 hfr9 (.cons rfl (zC rfl) <| .nil) fun a10 w10 m10 hst10 hle10 hk10 => ?_
   have hfr10 := hk10.fr (.o 2 <| .o 9 <| .o 1 <| .o 3 <| .o 6 <| .o 8 <| .n 12 <| .nil)
   clear hst9 hfr9 hk10
   refine hK24 _ _ ?_
   refine zM ?_
   have zq10 := hle9.trans hle10
   have hlh10 := hlh8.trans zq10
   have hlq25 := hlh10
   have zq11 := zq3.trans zq10
   replace hsl_A := hsl_A.mono zq11
   refine zh (T := [(9, _), (1, _), (3, _), (6, _), (8, _)]) (fun (y : Nat × Nat × Option Addr × Nat × List Ar) => ([(2, .int .i64 (y.2.1 : Int)), (12, .int .i64 (y.1 : Int))] : List (Nat × Value))) (fun y => [_, .blk (.pointer (some ⟨gB, 0, none⟩)) (.cells (tmV ⟨t.kind, t.at_, t.name, t.param, t.n, kl, y.2.2.2.2, (zCN rl n t.row)⟩ (⟨klo, klp, y.2.2.1, y.2.2.2.1, orr, crr, t0_t, t1_t, t2_t, t3_t, t4_t, t5_t, u0_t, u1_t, u2_t, u3_t, u4_t, u5_t⟩ : TmY)).toArray 33), _, .rowx (nz (.slice y.2.2.1 y.2.2.2.2.length y.2.2.2.1)) y.2.2.2.2.length 23 72 (MP.reads (fun m vs t => ArR m t vs) 23 y.2.2.2.2)]) (fun (y : Nat × Nat × Option Addr × Nat × List Ar) m => (fun (y : Nat) (u : Nat) (alo : Option Addr) (alp : Nat) (al : List Ar) => (y ≤ t.arms.length) ∧ (Ars m alo al.length alp al) ∧ (Zs rl t.arms v = al ++ Zs rl (t.arms.drop y) u ∧ al.length = y) ∧ (u + zq (t.arms.drop y) = v + zq t.arms)) y.1 y.2.1 y.2.2.1 y.2.2.2.1 y.2.2.2.2) (fun y => t.arms.length - y.1) ((0, v, none, 0, ([] : List Ar))) ⟨hst10, MLe.refl _, hfr10.sub (.c <| .c <| .c <| .c <| .c <| .c <| .c <| .nil), ⟨Nat.zero_le _, hsl_A, ⟨rfl, rfl⟩, rfl⟩⟩ fun y a11 w11 m11 hh11 => ?_
   have hst11 := hh11.st; have hle11 := hh11.le; have hfr11 := hh11.fr; have hrel := hh11.rel; clear hh11
   clear hst10 hfr10
   obtain ⟨y, u, alo, alp, al⟩ := y
   dsimp only at hrel hfr11 hst11
   obtain ⟨hyn, hsl_al, hlen_al, hcu⟩ := hrel
   have hlh11 := hle11
   refine zB fun _ hK26 => ?_
   refine zB fun _ hK27 => ?_
   have zq12 := zq10.trans hle11
   replace hc3 := hc3.mono zq12
   refine rp0 hst11 hfr11 (.cons rfl (zD rfl) <| .cons rfl (zA (off := 6) rfl underlying33 rfl rfl sizeOf25 rfl) <| .cons rfl (zE rfl hc3 isAgg25 rfl) <| .cons rfl (zZ rfl underlying25) <| .cons rfl (zz rfl rfl) <| .nil) fun a12 w12 m12 hst12 hle12 hk12 => ?_
   have hfr12 := hk12.fr (.o 2 <| .o 12 <| .o 9 <| .o 1 <| .o 3 <| .o 6 <| .o 8 <| .n 61 <| .nil)
   clear hst11 hfr11 hk12
   refine hK27 _ _ ?_
   refine zG hfr12 rfl rfl (fun hb61 => ?_) (fun hb61 => ?_)
   ·try simp only [nqs] at hb61
    refine zJ ?_
    refine hK26 _ _ ?_
    refine zB fun _ hK28 => ?_
    refine zM ?_
    refine zB fun _ hK29 => ?_
    have zq13 := hle11.trans hle12
    have zq14 := zq11.trans zq13
    replace haa_t := haa_t.mono zq14
    obtain ⟨p30, vs30, x30, ho30, hd30, hm_x30, ht30, hcv30, hl30, hv30⟩ := haa_t.nth (k := y) (by omega)
    cases ho30
    obtain ⟨oV30, cV30, bs30, rfl, hva30, hbd30⟩ := hv30.open_
    have hbv30 := hva30.big; have hcv30_ := hva30.cap
    obtain ⟨⟨oK30b, cK30b, oA30b, cA30b, oR30b, cR30b, t030b, t130b, t230b, t330b, t430b, t530b, u030b, u130b, u230b, u330b, u430b, u530b⟩, rfl, hon30b, hkk30b, haa30b, hrr30b⟩ := hbd30.open_
    dsimp only at hkk30b haa30b hrr30b
    have hbg30b := hkk30b.big; have hcp30b := hkk30b.cap; have hbh30b := haa30b.big; have hcq30b := haa30b.cap
    rw [hd30] at hlen_al hcu
    rw [zBP] at hlen_al; rw [z6] at hcu
    replace hst12 := hst12.more (r := .free) trivial List.nodup_nil (by simp [Res.blocks])
    replace hc3 := hc3.mono hle12
    refine ra0 (tch := [(5, 4, (fun v => .blk v _)), (6, 4, (fun v => .blk v _))]) hst12 hfr12 (.cons rfl (zA (off := 6) rfl underlying33 rfl rfl sizeOf25 rfl) <| .cons rfl (zE rfl hc3 isAgg25 rfl) <| .cons rfl (zD rfl) <| .cons rfl (zH (k := y) rfl rfl underlying25 sizeOf72 rfl (by omega)) <| .cons rfl (zN rfl hcv30 isAgg72 sizeOf72 rfl rfl) <| .consT rfl rfl (fun _ => rfl) rfl (zP zeroValue72 rfl) <| .consT rfl rfl (fun _ => rfl) rfl (zU 13 rfl rfl rfl fun y13 => zc rfl rfl rfl rfl rfl sizeOf72 rfl rfl hv30.one) <| .nil) fun a13 w13 m13 hst13 hle13 hk13 => ?_
    have hfr13 := hk13.fr (.o 2 <| .o 12 <| .o 9 <| .o 1 <| .o 3 <| .o 6 <| .o 8 <| .nil)
    obtain ⟨g31, e31, _⟩ := hk13.ex 13 rfl
    replace hfr13 := hfr13.cons e31
    replace hst13 := hst13.fin (L' := [_, _, _, _, _]) (.cons e31 <| .cons e31 <| .nil)
    try simp only [List.take_succ_cons, List.take_zero, List.drop_succ_cons, List.drop_zero, List.cons_append, List.nil_append, List.append_nil, List.length_cons, List.length_nil, Nat.zero_add, Nat.reduceAdd] at hst13
    clear hst12 hfr12 hk13
    refine hK29 _ _ ?_
    refine zB fun _ hK32 => ?_
    refine zu 5 (by kernel_rfl) ?_
    have zq15 := zq14.trans hle13
    replace h_rl := h_rl.mono zq15
    replace hbd30 := hbd30.mono hle13
    refine zg (tch := []) hst13 hfr13 (by kernel_rfl) (by kernel_rfl) (by kernel_rfl) (.cons rfl (zA (off := 2) rfl underlying72 rfl rfl sizeOf33 rfl) <| .cons rfl (Z8 (j := 4) rfl rfl isAgg33 sizeOf33 rfl rfl) <| .cons rfl (zD rfl) <| .cons rfl (zD rfl) <| .cons rfl (zm (φ := MP.rowsV rl x30.body u) rfl (.cons rfl <| .cons rfl <| .cons rfl <| .nil) call21 (fun w m hK => by have hle_ := KC.le hK; have hA := KC.agree hK; have h_rl := h_rl.mono hle_; have hbd30 := hbd30.mono hle_; exact FnG.mono (iha _ hm_x30 hA hbd30 h_rl (by omega)) fun _ _ _ _ h => h)) <| .nil) fun a14 w14 m14 hst14 hle14 hk14 => ?_
    have hfr14 := hk14.fr (.o 2 <| .o 12 <| .o 9 <| .o 1 <| .o 3 <| .o 6 <| .o 8 <| .o 13 <| .nil)
    obtain ⟨yr, e33, hyr⟩ := hk14.ex 74 rfl
    replace hfr14 := hfr14.cons e33
    clear hst13 hfr13 hk14
    replace hst14 := hst14.more (r := .free) trivial List.nodup_nil (by simp [Res.blocks])
    refine zg (tch := [(3, 5, (fun v => .blk v _)), (4, 5, (fun v => .blk v _))]) hst14 hfr14 (by kernel_rfl) (by kernel_rfl) (by kernel_rfl) (.cons rfl (zD rfl) <| .cons rfl (zT rfl rfl) <| .cons rfl (zT rfl rfl) <| .consT rfl rfl (fun _ => rfl) rfl (zP zeroValue33 rfl) <| .consT rfl rfl (fun _ => rfl) rfl (zU 14 rfl rfl rfl fun y14 => zc rfl rfl rfl rfl rfl sizeOf33 rfl rfl hyr.one) <| .cons rfl (zC rfl) <| .nil) fun a15 w15 m15 hst15 hle15 hk15 => ?_
    have hfr15 := hk15.fr (.o 2 <| .o 12 <| .o 9 <| .o 1 <| .o 3 <| .o 6 <| .o 8 <| .o 13 <| .o 74 <| .n 15 <| .nil)
    obtain ⟨g34, e34, _⟩ := hk15.ex 14 rfl
    replace hfr15 := hfr15.cons e34
    replace hst15 := hst15.fin (L' := [_, _, _, _, _, _]) (.cons e34 <| .cons e34 <| .nil)
    try simp only [List.take_succ_cons, List.take_zero, List.drop_succ_cons, List.drop_zero, List.cons_append, List.nil_append, List.append_nil, List.length_cons, List.length_nil, Nat.zero_add, Nat.reduceAdd] at hst15
    clear hst14 hfr14 hk15
    refine hK32 _ _ ?_
    refine zB fun _ hK35 => ?_
    refine rp0 hst15 hfr15 (.cons rfl (zD rfl) <| .cons rfl (zC rfl) <| .nil) fun a16 w16 m16 hst16 hle16 hk16 => ?_
    have hfr16 := hk16.fr (.o 12 <| .o 9 <| .o 1 <| .o 3 <| .o 6 <| .o 8 <| .o 13 <| .o 14 <| .n 2 <| .nil)
    clear hst15 hfr15 hk16
    refine hK35 _ _ ?_
    refine zB fun _ hK36 => ?_
    have zq16 := hle15.trans hle16
    replace hyr := hyr.mono zq16
    refine ra0 (tch := [(2, 4, (fun _ => .blk _ _))]) hst16 hfr16 (.cons rfl (zb (j := 5) rfl rfl isAgg33 sizeOf33 rfl) <| .cons rfl (zA (off := 2) rfl underlying72 rfl rfl sizeOf33 rfl) <| .consT rfl rfl (fun _ => rfl) rfl (ZG rfl rfl rfl sizeOf33 rfl rfl hyr.one) <| .nil) fun a17 w17 m17 hst17 hle17 hk17 => ?_
    have hfr17 := hk17.fr (.o 12 <| .o 9 <| .o 1 <| .o 3 <| .o 6 <| .o 8 <| .o 13 <| .o 2 <| .nil)
    replace hst17 := hst17.fin (L' := [_, _, _, _, _, _]) (.cons rfl <| .nil)
    try simp only [List.take_succ_cons, List.take_zero, List.drop_succ_cons, List.drop_zero, List.cons_append, List.nil_append, List.append_nil, List.length_cons, List.length_nil, Nat.zero_add, Nat.reduceAdd] at hst17
    clear hst16 hfr16 hk17
    refine hK36 _ _ ?_
    have zq17 := zq16.trans hle17
    have zq18 := hle14.trans zq17
    have zq19 := hle13.trans zq18
    replace hva30 := hva30.mono zq19
    replace hyr := hyr.mono hle17
    refine ra0 (tch := [(4, 3, (fun v => .rowx (nz v) _ _ _ _)), (6, 1, (fun u => .blk _ (.cells (_ ++ [u] ++ _).toArray _)))]) hst17 hfr17 (.cons rfl (zA (off := 6) rfl underlying33 rfl rfl sizeOf25 rfl) <| .cons rfl (zO (j := 1) rfl rfl isAgg25 rfl) <| .cons rfl (zb (j := 4) rfl rfl isAgg72 sizeOf72 rfl) <| .cons rfl (z1 rfl underlying25 sizeOf72 zeroValue72 rfl rfl rfl rfl) <| .consT rfl rfl (fun _ => rfl) rfl (zU 83 rfl rfl rfl fun y83 => ZT (size := 23) (bytes := 352) (l := al) (l' := [zDR rl x30 u]) rfl rfl (fun _ => by first | exact .inl rfl | exact .inr (.inl rfl)) underlying25 type72 rfl rfl rfl rfl (fun w m hK => Sl.one (R := fun m vs t => ArR m t vs) hK.2 rfl ⟨_, _, _, rfl, hva30.mono (KC.le hK), hyr.mono (KC.le hK)⟩) rfl (by decide) (by simp only [maxLen]; omega) (by omega)) <| .cons rfl (zA (off := 6) rfl underlying33 rfl rfl sizeOf25 rfl) <| .consT rfl rfl (fun _ => rfl) rfl (zU 84 rfl rfl rfl fun y84 => zAK rfl rfl rfl rfl rfl sizeOf25 rfl rfl rfl) <| .nil) fun a18 w18 m18 hst18 hle18 hk18 => ?_
    have hfr18 := hk18.fr (.o 12 <| .o 9 <| .o 1 <| .o 3 <| .o 6 <| .o 8 <| .o 2 <| .nil)
    obtain ⟨⟨A_37o, A_37p⟩, e38, hsl_A_37⟩ := hk18.ex 84 rfl
    replace hst18 := hst18.fin (L' := [_, _, _, _, _, _]) (.cons e38 <| .cons e38 <| .nil)
    try simp only [List.take_succ_cons, List.take_zero, List.drop_succ_cons, List.drop_zero, List.cons_append, List.nil_append, List.append_nil, List.length_cons, List.length_nil, Nat.zero_add, Nat.reduceAdd] at hst18
    clear hst17 hfr17 hk18
    replace hsl_A_37 : Ars m18 A_37o (al ++ [zDR rl x30 u]).length A_37p (al ++ [zDR rl x30 u]) := hsl_A_37
    refine hK28 _ _ ?_
    refine rp0 hst18 hfr18 (.cons rfl (zD rfl) <| .cons rfl (zf rfl rfl ⟨by omega, by omega⟩) <| .cons rfl (zC rfl) <| .nil) fun a19 w19 m19 hst19 hle19 hk19 => ?_
    have hfr19 := hk19.fr (.o 9 <| .o 1 <| .o 3 <| .o 6 <| .o 8 <| .o 2 <| .n 12 <| .nil)
    clear hst18 hfr18 hk19
    have hst19 := hst19.take 4
    replace hsl_A_37 := hsl_A_37.mono hle19
    have zq20 := hle18.trans hle19
    have zq21 := zq19.trans zq20
    have zq22 := hle12.trans zq21
    have hlh19 := hlh11.trans zq22
    exact ⟨(y + 1, (u + zQ x30.body), A_37o, A_37p, (al ++ [zDR rl x30 u])), m19, by show t.arms.length - (y + 1) < t.arms.length - y; omega, ⟨hst19, hlh19, hfr19.sub (.c <| .c <| .c <| .c <| .c <| .c <| .c <| .nil), ⟨by show y + 1 ≤ t.arms.length; omega, hsl_A_37, ⟨by rw [hlen_al.1]; simp, by show (al ++ [_]).length = y + 1; simp; exact hlen_al.2⟩, by show u + zQ x30.body + zq (t.arms.drop (y + 1)) = _; omega⟩⟩⟩
   ·try simp only [nqs] at hb61
    have hge : y = t.arms.length := by omega
    rw [List.drop_of_length_le (by omega)] at hlen_al hcu
    rw [Zs, List.append_nil] at hlen_al
    rw [zq] at hcu
    refine zk ?_
    refine hK23 _ _ ?_
    refine zB fun _ hK39 => ?_
    have zq23 := zq12.trans hle12
    have zq24 := hle8.trans zq23
    have zq25 := zq1.trans zq24
    replace hrw9 := hrw9.mono zq25
    replace hsl_kl := hsl_kl.mono zq23
    replace hsl_al := hsl_al.mono hle12
    have hout : TmR m12 ⟨t.kind, t.at_, t.name, t.param, t.n, kl, al, (zCN rl n t.row)⟩ (tmV ⟨t.kind, t.at_, t.name, t.param, t.n, kl, al, (zCN rl n t.row)⟩ (⟨klo, klp, alo, alp, orr, crr, t0_t, t1_t, t2_t, t3_t, t4_t, t5_t, u0_t, u1_t, u2_t, u3_t, u4_t, u5_t⟩ : TmY)) := TmR.build hon_t hsl_kl hsl_al hrw9
    have hfin : zAA rl t n = ⟨t.kind, t.at_, t.name, t.param, t.n, kl, al, (zCN rl n t.row)⟩ := by rw [zBp, hlen_kl.1, ← hlen_al.1, show v = n + 1 + zS t.kids by omega]
    refine ra0 (tch := [(2, 0, (fun _ => .blk _ _))]) hst12 hfr12 (.cons rfl (zb (j := 1) rfl rfl isAgg33 sizeOf33 rfl) <| .cons rfl (zD rfl) <| .consT rfl rfl (fun _ => rfl) rfl (zY rfl rfl rfl sizeOf33 rfl rfl hout.one) <| .cons rfl (zC rfl) <| .nil) fun a13 w13 m13 hst13 hle13 hk13 => ?_
    have hfr13 := hk13.fr (.o 2 <| .o 12 <| .o 9 <| .o 6 <| .n 7 <| .nil)
    replace hst13 := hst13.fin (L' := [_, _, _, _]) (.cons rfl <| .nil)
    try simp only [List.take_succ_cons, List.take_zero, List.drop_succ_cons, List.drop_zero, List.cons_append, List.nil_append, List.append_nil, List.length_cons, List.length_nil, Nat.zero_add, Nat.reduceAdd] at hst13
    clear hst12 hfr12 hk13
    refine hK39 _ _ ?_
    refine zK ?_
    repeat (with_reducible first | refine zI ?_ | refine zF ?_)
    replace hout := hout.mono hle13
    exact zL hst13 hfr13 rfl (.cell rfl (zl (zi (hst13.loc.at_ (k := 0) rfl)) isAgg33 sizeOf33) <| .tmp rfl <| .nil) (⟨(⟨klo, klp, alo, alp, orr, crr, t0_t, t1_t, t2_t, t3_t, t4_t, t5_t, u0_t, u1_t, u2_t, u3_t, u4_t, u5_t⟩ : TmY), by show _ = Value.tuple #[.agg (tmV (zAA rl t n) _).toArray, .int .i64 ((n + zQ t : Nat) : Int)]; rw [hfin, show n + zQ t = u by omega]; rfl, by show TmR _ (zAA rl t n) (tmV (zAA rl t n) _); rw [hfin]; exact hout⟩)
 ·have hlj8 : MLe m4 m4 := MLe.refl _
  refine zB fun _ hK41 => ?_
  refine rp0 hst4 hfr4 (.cons rfl (zD rfl) <| .cons rfl (zZ rfl underlying36) <| .cons rfl (zAf rfl rfl) <| .nil) fun a5 w5 m5 hst5 hle5 hk5 => ?_
  have hfr5 := hk5.fr (.o 1 <| .o 2 <| .o 3 <| .o 6 <| .o 8 <| .n 21 <| .nil)
  clear hst4 hfr4 hk5
  refine hK41 _ _ ?_
  refine zG hfr5 rfl rfl (fun hb21 => ?_) (fun hb21 => ?_)
  ·try simp only [nqs] at hb21
   have hmod : n % rl.length < rl.length := Nat.mod_lt _ (by omega)
   replace h_rl := h_rl.mono hle5
   obtain ⟨p42, vs42, x42, ho42, hd42, hm_x42, ht42, hcv42, hl42, hv42⟩ := h_rl.nth (k := (n % rl.length)) (by omega)
   cases ho42
   obtain ⟨o42, c42, rfl, hs42, hr42⟩ := hv42.open_
   have hbs42 := hs42.big; have hcs42 := hs42.cap
   refine ra0 (tch := [(8, 1, (fun _ => .blk _ _))]) hst5 hfr5 (.cons rfl (zD rfl) <| .cons rfl (zD rfl) <| .cons rfl (zD rfl) <| .cons rfl (zZ rfl underlying36) <| .cons rfl (ob_rem rfl rfl (by omega)) <| .cons rfl (zH (k := (n % rl.length)) rfl rfl underlying36 sizeOf29 (by omega) (by omega)) <| .cons rfl (zN rfl hcv42 isAgg29 sizeOf29 rfl rfl) <| .cons rfl (zA (off := 13) rfl underlying33 rfl rfl sizeOf29 rfl) <| .consT rfl rfl (fun _ => rfl) rfl (ZG rfl rfl rfl sizeOf29 rfl rfl rfl) <| .nil) fun a6 w6 m6 hst6 hle6 hk6 => ?_
   have hfr6 := hk6.fr (.o 1 <| .o 2 <| .o 3 <| .o 6 <| .o 8 <| .nil)
   replace hst6 := hst6.fin (L' := [_, _, _, _]) (.cons rfl <| .nil)
   try simp only [List.take_succ_cons, List.take_zero, List.drop_succ_cons, List.drop_zero, List.cons_append, List.nil_append, List.append_nil, List.length_cons, List.length_nil, Nat.zero_add, Nat.reduceAdd] at hst6
   clear hst5 hfr5 hk6
   repeat (with_reducible first | refine ZM ?_ | refine ZH ?_ | refine z7 ?_)
   have zq26 := hle5.trans hle6
   replace hlj8 := hlj8.trans zq26
   replace hv42 := hv42.mono hle6
   exact hj8 (x42, _, _) _ _ _ ⟨hst6, hlj8, hfr6.sub (.c <| .c <| .c <| .c <| .c <| .nil), ⟨by unfold zCN; rw [if_neg (fun h => by rw [h] at hb21; simp at hb21), ZN hd42], hv42⟩⟩
  ·try simp only [nqs] at hb21
   have hnil : rl = [] := List.eq_nil_of_length_eq_zero (by omega)
   refine zJ ?_
   repeat (with_reducible first | refine ZM ?_ | refine ZH ?_ | refine z7 ?_)
   replace hrr_t := hrr_t.mono hle5
   replace hlj8 := hlj8.trans hle5
   exact hj8 (t.row, oR_t, cR_t) _ _ _ ⟨hst5, hlj8, hfr5.sub (.c <| .c <| .c <| .c <| .c <| .nil), ⟨by unfold zCN; rw [if_pos hnil], hrr_t⟩⟩
theorem rows_c (t : Tm) : rows_G t := Tm.rec_ (p := rows_G) (fun t ihk iha => rows_s ihk iha) t
set_option maxHeartbeats 1600000 in
theorem some_c {w : World} {m : Mem} {p : Pg} {vs_p : List Value} {n : Int} {o_rl : Option Addr} {c_rl : Nat} {rl : List Rw} (hA : Agree w m) (h_p : PgR m p vs_p) (h_rl : Rws m o_rl rl.length c_rl rl) (hbo : zAv p.effects ≤ 1000000000) (hbc : consN p.datas ≤ 1000000000) (hbd : p.datas.length ≤ 1000000000) (hB : ZB p.body ≤ 2100000) : FnV Tryd.prog 10 #[.agg vs_p.toArray, .int .i64 n, .slice o_rl rl.length c_rl] w m (fun _ m v => (MP.someV 2100000).p m v) := by
 obtain ⟨oE_p, cE_p, oD_p, cD_p, bs_p, rfl, hef_p, hda_p, hpb_p⟩ := id h_p
 have hbe_p := hef_p.big; have hce_p := hef_p.cap; have hbda_p := hda_p.big; have hcd_p := hda_p.cap
 obtain ⟨⟨oK_pb, cK_pb, oA_pb, cA_pb, oR_pb, cR_pb, t0_pb, t1_pb, t2_pb, t3_pb, t4_pb, t5_pb, u0_pb, u1_pb, u2_pb, u3_pb, u4_pb, u5_pb⟩, rfl, hon_pb, hkk_pb, haa_pb, hrr_pb⟩ := hpb_p.open_
 dsimp only at hkk_pb haa_pb hrr_pb
 have hbg_pb := hkk_pb.big; have hcp_pb := hkk_pb.cap; have hbh_pb := haa_pb.big; have hcq_pb := haa_pb.cap
 have hb_rl := h_rl.big; have hc_rl := h_rl.cap
 refine zX (vs := [_, _, _]) func10 rfl rfl rfl fun a0 hfr0 => ?_
 have hst0 := zW hA (zj [] _ w m)
 have hM : MLe m m := MLe.refl m
 refine zB fun _ hK1 => ?_
 replace hst0 := hst0.more (r := .free) trivial List.nodup_nil (by simp [Res.blocks])
 refine ra0 (tch := [(1, 0, (fun v => .blk v _))]) hst0 hfr0 (.cons rfl (zw rfl rfl) <| .consT rfl rfl (fun _ => rfl) rfl (zP zeroValue33 rfl) <| .cons rfl (zC rfl) <| .nil) fun a1 w1 m1 hst1 hle1 hk1 => ?_
 have hfr1 := hk1.fr (.o 1 <| .o 2 <| .nil)
 obtain ⟨g2, e2, hc3⟩ := hk1.ex 3 rfl
 replace hfr1 := hfr1.cons e2
 obtain ⟨g3, e3, _⟩ := hk1.ex 6 rfl
 replace hfr1 := hfr1.cons e3
 replace hst1 := hst1.fin (L' := [_]) (.cons e3 <| .nil)
 replace h_p := h_p.mono hle1
 replace h_rl := h_rl.mono hle1
 clear hst0 hfr0 hk1
 refine hK1 _ _ ?_
 refine zB fun _ hK4 => ?_
 refine zu 3 (by kernel_rfl) ?_
 refine zg (tch := []) hst1 hfr1 (by kernel_rfl) (by kernel_rfl) (by kernel_rfl) (.cons rfl (zN rfl hc3 isAgg35 sizeOf35 rfl rfl) <| .cons rfl (zD rfl) <| .cons rfl (zm (φ := MP.partB 2100000) rfl (.cons rfl <| .cons rfl <| .nil) call20 (fun w m hK => by have hle_ := KC.le hK; have hA := KC.agree hK; have h_p := h_p.mono hle_; exact FnG.mono (part_c hA h_p hbo hbc hbd 2100000 hB (by omega)) fun _ _ _ _ h => h)) <| .nil) fun a2 w2 m2 hst2 hle2 hk2 => ?_
 have hfr2 := hk2.fr (.o 1 <| .o 2 <| .o 3 <| .o 6 <| .nil)
 obtain ⟨⟨⟨xt, yt⟩, bt⟩, e5, ht, hst_, hct, hbt, hrt, hcl⟩ := hk2.ex 16 rfl
 replace hfr2 := hfr2.cons e5
 replace h_rl := h_rl.mono hle2
 clear hst1 hfr1 hk2
 dsimp only at ht hst_ hct hbt hrt hcl
 have hlw := low_of hrt
 clear hst_
 replace hst2 := hst2.more (r := .free) trivial List.nodup_nil (by simp [Res.blocks])
 refine zg (tch := [(3, 1, (fun v => .blk v _)), (4, 1, (fun v => .blk v _))]) hst2 hfr2 (by kernel_rfl) (by kernel_rfl) (by kernel_rfl) (.cons rfl (zD rfl) <| .cons rfl (zT rfl rfl) <| .cons rfl (zT rfl rfl) <| .consT rfl rfl (fun _ => rfl) rfl (zP zeroValue33 rfl) <| .consT rfl rfl (fun _ => rfl) rfl (zU 8 rfl rfl rfl fun y8 => zc rfl rfl rfl rfl rfl sizeOf33 rfl rfl ht.one) <| .cons rfl (zC rfl) <| .nil) fun a3 w3 m3 hst3 hle3 hk3 => ?_
 have hfr3 := hk3.fr (.o 1 <| .o 2 <| .o 3 <| .o 6 <| .o 16 <| .n 9 <| .nil)
 obtain ⟨g8, e6, _⟩ := hk3.ex 8 rfl
 replace hfr3 := hfr3.cons e6
 replace hst3 := hst3.fin (L' := [_, _]) (.cons e6 <| .cons e6 <| .nil)
 try simp only [List.take_succ_cons, List.take_zero, List.drop_succ_cons, List.drop_zero, List.cons_append, List.nil_append, List.append_nil, List.length_cons, List.length_nil, Nat.zero_add, Nat.reduceAdd] at hst3
 replace h_rl := h_rl.mono hle3
 replace ht := ht.mono hle3
 clear hst2 hfr2 hk3
 refine hK4 _ _ ?_
 refine zB fun _ hK7 => ?_
 refine rp0 hst3 hfr3 (.cons rfl (zC rfl) <| .nil) fun a4 w4 m4 hst4 hle4 hk4 => ?_
 have hfr4 := hk4.fr (.o 2 <| .o 6 <| .o 9 <| .o 8 <| .n 10 <| .nil)
 replace h_rl := h_rl.mono hle4
 replace ht := ht.mono hle4
 clear hst3 hfr3 hk4
 have hst4 := hst4.more (r := .rowx (.slice none 0 0) 0 2 29 (MP.reads (fun m vs r => RwR m r vs) 2 [])) zAF List.nodup_nil (by simp [Res.blocks, zy])
 have hsl_F : Rws m4 none ([] : List Rw).length 0 ([] : List Rw) := Sl.empty
 refine hK7 _ _ ?_
 refine zB fun _ hK8 => ?_
 refine zB fun _ hK9 => ?_
 refine rp0 hst4 hfr4 (.cons rfl (zC rfl) <| .nil) fun a5 w5 m5 hst5 hle5 hk5 => ?_
 have hfr5 := hk5.fr (.o 2 <| .o 6 <| .o 9 <| .o 8 <| .o 10 <| .n 11 <| .nil)
 replace h_rl := h_rl.mono hle5
 replace ht := ht.mono hle5
 replace hsl_F := hsl_F.mono hle5
 clear hst4 hfr4 hk5
 refine hK9 _ _ ?_
 refine zM ?_
 refine zh (T := [(2, _), (6, _), (9, _), (8, _)]) (fun (y : Nat × Option Addr × Nat × List Rw) => ([(10, .slice y.2.1 y.2.2.2.length y.2.2.1), (11, .int .i64 (y.1 : Int))] : List (Nat × Value))) (fun y => [_, _, .rowx (nz (.slice y.2.1 y.2.2.2.length y.2.2.1)) y.2.2.2.length 2 29 (MP.reads (fun m vs r => RwR m r vs) 2 y.2.2.2)]) (fun (y : Nat × Option Addr × Nat × List Rw) m => (fun (y : Nat) (flo : Option Addr) (flp : Nat) (fl : List Rw) => (y ≤ (min rl.length 10)) ∧ (Rws m flo fl.length flp fl) ∧ (fl.length = y)) y.1 y.2.1 y.2.2.1 y.2.2.2) (fun y => (min rl.length 10) - y.1) ((0, none, 0, ([] : List Rw))) ⟨hst5, MLe.refl _, hfr5.sub (.c <| .c <| .c <| .c <| .c <| .c <| .nil), ⟨Nat.zero_le _, hsl_F, rfl⟩⟩ fun y a6 w6 m6 hh6 => ?_
 have hst6 := hh6.st; have hle6 := hh6.le; have hfr6 := hh6.fr; have hrel := hh6.rel; clear hh6
 replace h_rl := h_rl.mono hle6
 replace ht := ht.mono hle6
 clear hst5 hfr5
 obtain ⟨y, flo, flp, fl⟩ := y
 dsimp only at hrel hfr6 hst6
 obtain ⟨hyn, hsl_fl, hlen_fl⟩ := hrel
 have hlh6 := hle6
 refine zB fun _ hK11 => ?_
 refine zB fun _ hK12 => ?_
 refine rp0 hst6 hfr6 (.cons rfl (zD rfl) <| .cons rfl (zD rfl) <| .cons rfl (zZ rfl underlying36) <| .cons rfl (zz rfl rfl) <| .cons rfl (zD rfl) <| .cons rfl (zD rfl) <| .cons rfl (zz rfl rfl) <| .cons rfl (ZS rfl rfl rfl) <| .nil) fun a7 w7 m7 hst7 hle7 hk7 => ?_
 have hfr7 := hk7.fr (.o 10 <| .o 11 <| .o 2 <| .o 6 <| .o 9 <| .o 8 <| .n 26 <| .nil)
 replace h_rl := h_rl.mono hle7
 replace ht := ht.mono hle7
 replace hsl_fl := hsl_fl.mono hle7
 have hlh7 := hlh6.trans hle7
 clear hst6 hfr6 hk7
 refine hK12 _ _ ?_
 refine zG hfr7 rfl rfl (fun hb26 => ?_) (fun hb26 => ?_)
 ·try simp only [nqs] at hb26
  refine zJ ?_
  refine hK11 _ _ ?_
  refine zB fun _ hK13 => ?_
  refine zM ?_
  refine zB fun _ hK14 => ?_
  have hy9 : y < rl.length := by omega
  obtain ⟨p15, vs15, x15, ho15, hd15, hm_x15, ht15, hcv15, hl15, hv15⟩ := h_rl.nth (k := y) (by omega)
  cases ho15
  obtain ⟨o15, c15, rfl, hs15, hr15⟩ := hv15.open_
  have hbs15 := hs15.big; have hcs15 := hs15.cap
  replace hst7 := hst7.more (r := .free) trivial List.nodup_nil (by simp [Res.blocks])
  refine ra0 (tch := [(4, 3, (fun v => .blk v _)), (5, 3, (fun v => .blk v _))]) hst7 hfr7 (.cons rfl (zD rfl) <| .cons rfl (zD rfl) <| .cons rfl (zH (k := y) rfl rfl underlying36 sizeOf29 rfl (by omega)) <| .cons rfl (zN rfl hcv15 isAgg29 sizeOf29 rfl rfl) <| .consT rfl rfl (fun _ => rfl) rfl (zP zeroValue29 rfl) <| .consT rfl rfl (fun _ => rfl) rfl (zU 12 rfl rfl rfl fun y12 => zc rfl rfl rfl rfl rfl sizeOf29 rfl rfl rfl) <| .nil) fun a8 w8 m8 hst8 hle8 hk8 => ?_
  have hfr8 := hk8.fr (.o 10 <| .o 11 <| .o 2 <| .o 6 <| .o 9 <| .o 8 <| .nil)
  obtain ⟨g16, e16, _⟩ := hk8.ex 12 rfl
  replace hfr8 := hfr8.cons e16
  replace hst8 := hst8.fin (L' := [_, _, _, _]) (.cons e16 <| .cons e16 <| .nil)
  try simp only [List.take_succ_cons, List.take_zero, List.drop_succ_cons, List.drop_zero, List.cons_append, List.nil_append, List.append_nil, List.length_cons, List.length_nil, Nat.zero_add, Nat.reduceAdd] at hst8
  clear hst7 hfr7 hk8
  refine hK14 _ _ ?_
  refine zB fun _ hK17 => ?_
  have emin : (if (10 : Int) < (x15.labels.length : Int) then (10 : Int) else (x15.labels.length : Int)) = ((min x15.labels.length 10 : Nat) : Int) := by split <;> omega
  refine ra0 (tch := [(8, 3, (fun _ => .blk _ _))]) hst8 hfr8 (.cons rfl (zA (off := 0) rfl underlying29 rfl rfl sizeOf27 rfl) <| .cons rfl (zO (j := 3) rfl rfl isAgg27 rfl) <| .cons rfl (zA (off := 0) rfl underlying29 rfl rfl sizeOf27 rfl) <| .cons rfl (zO (j := 3) rfl rfl isAgg27 rfl) <| .cons rfl (zZ rfl underlying27) <| .cons rfl (ob_min2 rfl rfl) <| .cons rfl (zBr rfl .none (.some rfl emin) underlying27 sizeOf9 (by omega) (by omega)) <| .cons rfl (zA (off := 0) rfl underlying29 rfl rfl sizeOf27 rfl) <| .consT rfl rfl (fun _ => rfl) rfl (ZG rfl rfl rfl sizeOf27 rfl rfl rfl) <| .nil) fun a9 w9 m9 hst9 hle9 hk9 => ?_
  have hfr9 := hk9.fr (.o 10 <| .o 11 <| .o 2 <| .o 6 <| .o 9 <| .o 8 <| .o 12 <| .nil)
  replace hst9 := hst9.fin (L' := [_, _, _, _]) (.cons rfl <| .nil)
  try simp only [List.take_succ_cons, List.take_zero, List.drop_succ_cons, List.drop_zero, List.cons_append, List.nil_append, List.append_nil, List.length_cons, List.length_nil, Nat.zero_add, Nat.reduceAdd] at hst9
  clear hst8 hfr8 hk9
  have zq1 := hle8.trans hle9
  replace hs15 := hs15.mono zq1
  have hcut : Strs _ _ _ _ _ := hs15.cut (l := 0) (k := min x15.labels.length 10) (Nat.zero_le _) (Nat.min_le_left _ _)
  have hlk : min x15.labels.length 10 - 0 = ((x15.labels.take (min x15.labels.length 10)).drop 0).length := by simp
  generalize (x15.labels.take (min x15.labels.length 10)).drop 0 = ls at hlk hcut
  rw [hlk] at hcut hst9
  generalize (if c15 = 0 then o15 else o15.map (·.add (0 * 1))) = oq at hcut hst9
  generalize c15 - 0 = cq at hcut hst9
  refine hK17 _ _ ?_
  refine ra0 (tch := [(3, 2, (fun v => .rowx (nz v) _ _ _ _))]) hst9 hfr9 (.cons rfl (zD rfl) <| .cons rfl (zb (j := 3) rfl rfl isAgg29 sizeOf29 rfl) <| .cons rfl (z1 rfl underlying36 sizeOf29 zeroValue29 rfl rfl rfl rfl) <| .consT rfl rfl (fun _ => rfl) rfl (zU 43 rfl rfl rfl fun y43 => ZT (size := 2) (bytes := 32) (l := fl) (l' := [(⟨ls, x15.var⟩ : Rw)]) rfl rfl (fun _ => by first | exact .inl rfl | exact .inr (.inl rfl)) underlying36 type29 rfl rfl rfl rfl (fun w m hK => Sl.one (R := fun m vs r => RwR m r vs) hK.2 rfl ⟨_, _, rfl, hcut.mono (KC.le hK), hr15⟩) rfl (by decide) (by simp only [maxLen]; omega) (by omega)) <| .consA 44 rfl rfl <| .nil) fun a10 w10 m10 hst10 hle10 hk10 => ?_
  have hfr10 := hk10.fr (.o 11 <| .o 2 <| .o 6 <| .o 9 <| .o 8 <| .nil)
  obtain ⟨⟨F_18o, F_18p⟩, e19, hsl_F_18⟩ := hk10.ex 44 rfl
  replace hfr10 := hfr10.cons (hk10.same 10 rfl e19)
  replace hst10 := hst10.fin (L' := [_, _, _, _]) (.cons e19 <| .nil)
  clear hst9 hfr9 hk10
  replace hsl_F_18 : Rws m10 F_18o (fl ++ [(⟨ls, x15.var⟩ : Rw)]).length F_18p (fl ++ [(⟨ls, x15.var⟩ : Rw)]) := hsl_F_18
  refine hK13 _ _ ?_
  refine rp0 hst10 hfr10 (.cons rfl (zD rfl) <| .cons rfl (zf rfl rfl ⟨by omega, by omega⟩) <| .cons rfl (zC rfl) <| .nil) fun a11 w11 m11 hst11 hle11 hk11 => ?_
  have hfr11 := hk11.fr (.o 2 <| .o 6 <| .o 9 <| .o 8 <| .o 10 <| .n 11 <| .nil)
  clear hst10 hfr10 hk11
  have hst11 := hst11.take 3
  replace hsl_F_18 := hsl_F_18.mono hle11
  have zq2 := hle10.trans hle11
  have zq3 := zq1.trans zq2
  have hlh11 := hlh7.trans zq3
  exact ⟨(y + 1, F_18o, F_18p, (fl ++ [(⟨ls, x15.var⟩ : Rw)])), m11, by show (min rl.length 10) - (y + 1) < (min rl.length 10) - y; omega, ⟨hst11, hlh11, hfr11.sub (.c <| .c <| .c <| .c <| .c <| .c <| .nil), ⟨by show y + 1 ≤ (min rl.length 10); omega, hsl_F_18, by show (fl ++ [_]).length = y + 1; simp; exact hlen_fl⟩⟩⟩
 ·try simp only [nqs] at hb26
  refine zk ?_
  refine hK8 _ _ ?_
  refine zB fun _ hK20 => ?_
  refine zu 3 (by kernel_rfl) ?_
  refine zg (tch := []) hst7 hfr7 (by kernel_rfl) (by kernel_rfl) (by kernel_rfl) (.cons rfl (zb (j := 1) rfl rfl isAgg33 sizeOf33 rfl) <| .cons rfl (zD rfl) <| .cons rfl (zm (φ := MP.rowsV fl xt 0) rfl (.cons rfl <| .cons rfl <| .cons rfl <| .nil) call21 (fun w m hK => by have hle_ := KC.le hK; have hA := KC.agree hK; have ht := ht.mono hle_; have hsl_fl := hsl_fl.mono hle_; exact FnG.mono ((rows_c xt (n := 0) hA ht hsl_fl (by omega))) fun _ _ _ _ h => h)) <| .nil) fun a8 w8 m8 hst8 hle8 hk8 => ?_
  have hfr8 := hk8.fr (.o 10 <| .o 11 <| .o 2 <| .o 6 <| .o 9 <| .o 8 <| .nil)
  obtain ⟨yr, e21, hyr⟩ := hk8.ex 48 rfl
  replace hfr8 := hfr8.cons e21
  clear hst7 hfr7 hk8
  refine zg (tch := [(3, 1, (fun _ => .blk _ _))]) hst8 hfr8 (by kernel_rfl) (by kernel_rfl) (by kernel_rfl) (.cons rfl (zD rfl) <| .cons rfl (zT rfl rfl) <| .cons rfl (zT rfl rfl) <| .consT rfl rfl (fun _ => rfl) rfl (zY rfl rfl rfl sizeOf33 rfl rfl hyr.one) <| .nil) fun a9 w9 m9 hst9 hle9 hk9 => ?_
  have hfr9 := hk9.fr (.o 10 <| .o 11 <| .o 2 <| .o 6 <| .o 9 <| .o 8 <| .o 48 <| .nil)
  replace hst9 := hst9.fin (L' := [_, _, _]) (.cons rfl <| .nil)
  try simp only [List.take_succ_cons, List.take_zero, List.drop_succ_cons, List.drop_zero, List.cons_append, List.nil_append, List.append_nil, List.length_cons, List.length_nil, Nat.zero_add, Nat.reduceAdd] at hst9
  clear hst8 hfr8 hk9
  refine hK20 _ _ ?_
  refine zB fun _ hK22 => ?_
  replace hyr := hyr.mono hle9
  refine ra0 (tch := [(2, 0, (fun _ => .blk _ _))]) hst9 hfr9 (.cons rfl (zb (j := 1) rfl rfl isAgg33 sizeOf33 rfl) <| .cons rfl (zD rfl) <| .consT rfl rfl (fun _ => rfl) rfl (zY rfl rfl rfl sizeOf33 rfl rfl hyr.one) <| .cons rfl (zC rfl) <| .nil) fun a10 w10 m10 hst10 hle10 hk10 => ?_
  have hfr10 := hk10.fr (.o 10 <| .o 11 <| .o 6 <| .n 7 <| .nil)
  replace hst10 := hst10.fin (L' := [_, _, _]) (.cons rfl <| .nil)
  try simp only [List.take_succ_cons, List.take_zero, List.drop_succ_cons, List.drop_zero, List.cons_append, List.nil_append, List.append_nil, List.length_cons, List.length_nil, Nat.zero_add, Nat.reduceAdd] at hst10
  clear hst9 hfr9 hk10
  refine hK22 _ _ ?_
  refine zK ?_
  repeat (with_reducible first | refine zI ?_ | refine zF ?_)
  replace hyr := hyr.mono hle10
  exact zL hst10 hfr10 rfl (.cell rfl (zl (zi (hst10.loc.at_ (k := 0) rfl)) isAgg33 sizeOf33) <| .tmp rfl <| .nil) (⟨((_, _), bt), rfl, hyr, hlw.rows _ _, by rw [rows_count]; exact hct, by rw [rows_bulk]; exact hbt, hcl.rows _ _⟩)
set_option maxHeartbeats 1600000 in
theorem whole_c {w : World} {m : Mem} {n : Int} (hA : Agree w m)  : FnV Tryd.prog 30 #[.int .i64 n] w m (fun _ m v => (MP.tm (intT n)).p m v) := by
 refine zX (vs := [_]) func30 rfl rfl rfl fun a0 hfr0 => ?_
 have hst0 := zW hA (zj [] _ w m)
 have hM : MLe m m := MLe.refl m
 refine zB fun _ hK1 => ?_
 replace hst0 := hst0.more (r := .free) trivial List.nodup_nil (by simp [Res.blocks])
 refine ra0 (tch := [(0, 0, (fun v => .blk v _))]) hst0 hfr0 (.consT rfl rfl (fun _ => rfl) rfl (zP zeroValue33 rfl) <| .nil) fun a1 w1 m1 hst1 hle1 hk1 => ?_
 have hfr1 := hk1.fr (.o 0 <| .nil)
 obtain ⟨g2, e2, _⟩ := hk1.ex 2 rfl
 replace hfr1 := hfr1.cons e2
 replace hst1 := hst1.fin (L' := [_]) (.cons e2 <| .nil)
 clear hst0 hfr0 hk1
 refine hK1 _ _ ?_
 refine zB fun _ hK3 => ?_
 refine ra0 (tch := [(2, 0, (fun _ => .blk _ _))]) hst1 hfr1 (.cons rfl (zD rfl) <| .cons rfl (zr (.cons rfl <| .cons rfl <| .nil) underlying33 zeroValue33 (.cons sizeOf3 <| .cons sizeOf3 <| .cons sizeOf9 <| .cons sizeOf9 <| .cons sizeOf3 <| .cons sizeOf24 <| .cons sizeOf25 <| .cons sizeOf31 <| .cons sizeOf29 <| .cons sizeOf31 <| .nil) rfl) <| .consT rfl rfl (fun _ => rfl) rfl (zY rfl rfl rfl sizeOf33 rfl rfl rfl) <| .nil) fun a2 w2 m2 hst2 hle2 hk2 => ?_
 have hfr2 := hk2.fr (.o 2 <| .nil)
 replace hst2 := hst2.fin (L' := [_]) (.cons rfl <| .nil)
 try simp only [List.take_succ_cons, List.take_zero, List.drop_succ_cons, List.drop_zero, List.cons_append, List.nil_append, List.append_nil, List.length_cons, List.length_nil, Nat.zero_add, Nat.reduceAdd] at hst2
 clear hst1 hfr1 hk2
 refine hK3 _ _ ?_
 refine zK ?_
 repeat (with_reducible first | refine zI ?_ | refine zF ?_)
 exact zL hst2 hfr2 rfl (.cell rfl (zl (zi (hst2.loc.at_ (k := 0) rfl)) isAgg33 sizeOf33) <| .nil) (⟨TmY.zero none 0 none 0, rfl, TmR.build TmY.zero_one Sl.empty Sl.empty ⟨_, _, rfl, Sl.empty, inI0⟩⟩)
set_option maxHeartbeats 1600000 in
theorem shown_c {w : World} {m : Mem}  (hA : Agree w m) (hT : Tab w) : FnV Tryd.prog 9 #[] w m (fun _ _ v => v = .bool true) := by
 refine zX (vs := []) func9 rfl rfl rfl fun a0 hfr0 => ?_
 have hst0 := zW hA (zj [] _ w m)
 have hM : MLe m m := MLe.refl m
 refine zB fun _ hK1 => ?_
 refine rp0 hst0 hfr0 (.cons rfl (zC rfl) <| .nil) fun a1 w1 m1 hst1 hle1 hk1 => ?_
 have hfr1 := hk1.fr (.nil)
 clear hst0 hfr0 hk1
 refine hK1 _ _ ?_
 refine zB fun _ hK2 => ?_
 refine zu 6 (by kernel_rfl) ?_
 refine zg (tch := []) hst1 hfr1 (by kernel_rfl) (by kernel_rfl) (by kernel_rfl) (.cons rfl (zm (φ := MP.tm (zDb [102])) rfl (.cons rfl <| .nil) call29 (fun w m hK => by have hle_ := KC.le hK; have hA := KC.agree hK; exact FnG.mono (v_c (s := [102]) hA) fun _ _ _ _ h => h)) <| .cons rfl (zm (φ := MP.tm (zDb [103])) rfl (.cons rfl <| .nil) call29 (fun w m hK => by have hle_ := KC.le hK; have hA := KC.agree hK; exact FnG.mono (v_c (s := [103]) hA) fun _ _ _ _ h => h)) <| .cons rfl (zm (φ := MP.tm (intT 1)) rfl (.cons rfl <| .nil) call30 (fun w m hK => by have hle_ := KC.le hK; have hA := KC.agree hK; exact FnG.mono (whole_c (n := 1) hA) fun _ _ _ _ h => h)) <| .cons rfl (zAl 3 rfl rfl rfl fun y3 => zAl 4 rfl rfl rfl fun y4 => zm (φ := MP.tm (zDZ (zDb [103]) (intT 1))) rfl (.cons rfl <| .cons rfl <| .nil) call28 (fun w m hK => by have hle_ := KC.le hK; have hA := KC.agree hK; have hr0_ := hK.2; have hr1_ := hK.1.2; exact FnG.mono (call_c (f := (zDb [103])) (a := (intT 1)) hA hr1_ hr0_) fun _ _ _ _ h => h)) <| .cons rfl (zAl 2 rfl rfl rfl fun y2 => zAl 5 rfl rfl rfl fun y5 => zm (φ := MP.tm (zDZ (zDb [102]) (zDZ (zDb [103]) (intT 1)))) rfl (.cons rfl <| .cons rfl <| .nil) call28 (fun w m hK => by have hle_ := KC.le hK; have hA := KC.agree hK; have hr0_ := hK.2; have hr1_ := hK.1.2; exact FnG.mono (call_c (f := (zDb [102])) (a := (zDZ (zDb [103]) (intT 1))) hA hr1_ hr0_) fun _ _ _ _ h => h)) <| .cons rfl (zr (.cons rfl <| .nil) underlying38 zeroValue38 (.cons sizeOf4 <| .cons sizeOf4 <| .nil) rfl) <| .nil) fun a2 w2 m2 hst2 hle2 hk2 => ?_
 have hfr2 := hk2.fr (.n 7 <| .nil)
 obtain ⟨y6, e3, hs6⟩ := hk2.ex 6 rfl
 replace hfr2 := hfr2.cons e3
 clear hst1 hfr1 hk2
 replace hst2 := hst2.more (r := .free) trivial List.nodup_nil (by simp [Res.blocks])
 refine zg (tch := [(1, 0, (fun v => .blk v _)), (2, 0, (fun v => .blkx v _ _))]) hst2 hfr2 (by kernel_rfl) (by kernel_rfl) (by kernel_rfl) (.cons rfl (zm (φ := MP.cd (zEW true false shT)) rfl (.cons rfl <| .cons rfl <| .nil) call12 (fun w m hK => by have hle_ := KC.le hK; have hA := KC.agree hK; have hT := zBt hT hK.st.ext; have hs6 := hs6.mono hle_; exact FnG.mono (lower_c (t := shT) (sel := true) (tl := false) hA hs6 hT (low_call (low_var _) (low_call (low_var _) (low_int _))) (by decide) (by decide)) fun _ _ _ _ h => h)) <| .consT rfl rfl (fun _ => rfl) rfl (zP zeroValue46 rfl) <| .consT rfl rfl (fun _ => rfl) rfl (zU 1 rfl rfl rfl fun y1 => ZO 8 rfl rfl rfl fun y8 => Z7 rfl rfl rfl rfl rfl sizeOf46 rfl rfl (fun w m hK => hK.2.one)) <| .nil) fun a3 w3 m3 hst3 hle3 hk3 => ?_
 have hfr3 := hk3.fr (.o 7 <| .o 6 <| .nil)
 obtain ⟨g4, e4, _⟩ := hk3.ex 1 rfl
 replace hfr3 := hfr3.cons e4
 replace hst3 := hst3.fin (L' := [_]) (.cons e4 <| .cons e4 <| .nil)
 try simp only [List.take_succ_cons, List.take_zero, List.drop_succ_cons, List.drop_zero, List.cons_append, List.nil_append, List.append_nil, List.length_cons, List.length_nil, Nat.zero_add, Nat.reduceAdd] at hst3
 obtain ⟨yl, hyl, hst3⟩ := hst3.unx (k := 0) rfl (fun _ => rfl)
 clear hst2 hfr2 hk3
 rw [lowT_sh] at hyl hst3
 obtain ⟨oK9, cK9, oA9, cA9⟩ := yl
 obtain ⟨hk9, -⟩ := hyl.at_y
 dsimp only at hk9
 refine hK2 _ _ ?_
 refine zB fun _ hK6 => ?_
 have hn1 := nameQ_1
 have hl8 : (cd2 8 (Zy 1) [] shA shB).kids.length = 2 := rfl
 have hl9 : ([shA, shB] : List Cd).length = 2 := rfl
 obtain ⟨p7, vs7, x7, ho7, hd7, hm_x7, ht7, hcv7, hl7, hv7⟩ := hk9.nth (k := 0) (by omega)
 cases ho7
 obtain ⟨⟨oK7, cK7, oA7, cA7⟩, rfl, ⟨hik7, hin7⟩, hkk7, haa7⟩ := hv7.open_
 dsimp only at hkk7 haa7
 have hbg7 := hkk7.big; have hcp7 := hkk7.cap; have hbh7 := haa7.big; have hcq7 := haa7.cap
 have hx0 : x7 = shA := zDx hd7 rfl
 obtain ⟨p8, vs8, x8, ho8, hd8, hm_x8, ht8, hcv8, hl8, hv8⟩ := hk9.nth (k := 1) (by omega)
 cases ho8
 obtain ⟨⟨oK8, cK8, oA8, cA8⟩, rfl, ⟨hik8, hin8⟩, hkk8, haa8⟩ := hv8.open_
 dsimp only at hkk8 haa8
 have hbg8 := hkk8.big; have hcp8 := hkk8.cap; have hbh8 := haa8.big; have hcq8 := haa8.cap
 have hx1 : x8 = shB := zDx hd8 rfl
 have hln9 : x8.kids.length = 2 := by rw [hx1]; rfl
 obtain ⟨p9, vs9, x9, ho9, hd9, hm_x9, ht9, hcv9, hl9, hv9⟩ := hkk8.nth (k := 1) (by omega)
 cases ho9
 obtain ⟨⟨oK9, cK9, oA9, cA9⟩, rfl, ⟨hik9, hin9⟩, hkk9, haa9⟩ := hv9.open_
 dsimp only at hkk9 haa9
 have hbg9 := hkk9.big; have hcp9 := hkk9.cap; have hbh9 := haa9.big; have hcq9 := haa9.cap
 have hx2 : x9 = zCV (Zy 1) := zDx hd9 (by rw [hx1]; rfl)
 refine rp0 hst3 hfr3 (.cons rfl (zA (off := 0) rfl underlying46 rfl rfl sizeOf3 rfl) <| .cons rfl (zO (j := 0) rfl rfl isAgg3 rfl) <| .cons rfl (za rfl rfl) <| .cons rfl (zD rfl) <| .cons rfl (zA (off := 1) rfl underlying46 rfl rfl sizeOf9 rfl) <| .cons rfl (zO (j := 0) rfl rfl isAgg9 rfl) <| .cons rfl (zx rfl rfl) <| .cons rfl (ZS rfl rfl rfl) <| .cons rfl (zD rfl) <| .cons rfl (zA (off := 4) rfl underlying46 rfl rfl sizeOf43 rfl) <| .cons rfl (zO (j := 0) rfl rfl isAgg43 rfl) <| .cons rfl (zZ rfl underlying43) <| .cons rfl (za rfl rfl) <| .cons rfl (ZS rfl rfl rfl) <| .cons rfl (zD rfl) <| .cons rfl (zA (off := 4) rfl underlying46 rfl rfl sizeOf43 rfl) <| .cons rfl (zO (j := 0) rfl rfl isAgg43 rfl) <| .cons rfl (zH (k := 0) rfl rfl underlying43 sizeOf46 rfl (by omega)) <| .cons rfl (zA (off := 0) rfl underlying46 rfl rfl sizeOf3 rfl) <| .cons rfl (zE rfl hcv7 isAgg3 rfl) <| .cons rfl (za rfl rfl) <| .cons rfl (ZS rfl rfl rfl) <| .cons rfl (zD rfl) <| .cons rfl (zA (off := 4) rfl underlying46 rfl rfl sizeOf43 rfl) <| .cons rfl (zO (j := 0) rfl rfl isAgg43 rfl) <| .cons rfl (zH (k := 1) rfl rfl underlying43 sizeOf46 rfl (by omega)) <| .cons rfl (zA (off := 0) rfl underlying46 rfl rfl sizeOf3 rfl) <| .cons rfl (zE rfl hcv8 isAgg3 rfl) <| .cons rfl (za rfl rfl) <| .cons rfl (ZS rfl rfl rfl) <| .cons rfl (zD rfl) <| .cons rfl (zA (off := 4) rfl underlying46 rfl rfl sizeOf43 rfl) <| .cons rfl (zO (j := 0) rfl rfl isAgg43 rfl) <| .cons rfl (zH (k := 1) rfl rfl underlying43 sizeOf46 rfl (by omega)) <| .cons rfl (zA (off := 4) rfl underlying46 rfl rfl sizeOf43 rfl) <| .cons rfl (zE rfl hcv8 isAgg43 rfl) <| .cons rfl (zZ rfl underlying43) <| .cons rfl (za rfl rfl) <| .cons rfl (ZS rfl rfl rfl) <| .cons rfl (zD rfl) <| .cons rfl (zA (off := 4) rfl underlying46 rfl rfl sizeOf43 rfl) <| .cons rfl (zO (j := 0) rfl rfl isAgg43 rfl) <| .cons rfl (zH (k := 1) rfl rfl underlying43 sizeOf46 rfl (by omega)) <| .cons rfl (zA (off := 4) rfl underlying46 rfl rfl sizeOf43 rfl) <| .cons rfl (zE rfl hcv8 isAgg43 rfl) <| .cons rfl (zH (k := 1) rfl rfl underlying43 sizeOf46 rfl (by omega)) <| .cons rfl (zA (off := 1) rfl underlying46 rfl rfl sizeOf9 rfl) <| .cons rfl (zE rfl hcv9 isAgg9 rfl) <| .cons rfl (zx rfl rfl) <| .cons rfl (ZS rfl rfl rfl) <| .cons rfl (zD rfl) <| .cons rfl (zb (j := 0) rfl rfl isAgg46 sizeOf46 rfl) <| .cons rfl (ze rfl (.cons rfl <| .cons rfl <| .nil) call16 (fun w m hK => by have hle_ := KC.le hK; have hA := KC.agree hK; have hyl := hyl.mono hle_; exact lcount_c (cd2 8 (Zy 1) [] shA shB) (k := 6) hA hyl (by decide))) <| .cons rfl (za rfl rfl) <| .cons rfl (ZS rfl rfl rfl) <| .cons rfl (zC rfl) <| .nil) fun a4 w4 m4 hst4 hle4 hk4 => ?_
 have hfr4 := hk4.fr (.n 0 <| .nil)
 clear hst3 hfr3 hk4
 refine hK6 _ _ ?_
 refine zK ?_
 repeat (with_reducible first | refine zI ?_ | refine zF ?_)
 exact zL hst4 hfr4 rfl (.tmp rfl <| .nil) (by refine congrArg Value.bool ?_; simp [hx0, hx1, hx2, hn1, shA, shB, zCV]; try decide)
end Go.Proofs.YtmdhhjmomilhjaaDoor
namespace Go.Proofs.YtmdhhjmomilhjaaDoor
set_option linter.all false
set_option maxRecDepth 4000
open Go.RowKit
def bareH (s : Str) : Bool := decide (s.head? = some 39)
mutual
def bareT : Tm → Bool
 | ⟨_, _, s, _, _, ks, az, _⟩ => bareH s || (bareKs ks || bareAs az)
def bareKs : List Tm → Bool
 | [] => false
 | t :: ts => bareT t || bareKs ts
def bareAs : List Ar → Bool
 | [] => false
 | ⟨_, _, b⟩ :: ts => bareT b || bareAs ts
end
def tlA (a : Ca) : Nat := if a.tail then (if a.vars.length = 1 then 1 else 1000001) else 0
mutual
/-- How many arms are Tail. -/
def tlC : Cd → Nat
 | ⟨_, _, _, _, ks, az⟩ => zAC ks + Zw az
def zAC : List Cd → Nat
 | [] => 0
 | t :: ts => tlC t + zAC ts
def Zw : List Ca → Nat
 | [] => 0
 | ⟨s, v, l, b⟩ :: ts => tlC b + tlA ⟨s, v, l, b⟩ + Zw ts
end
theorem zAg (t : Cd) : tlC t = zAC t.kids + Zw t.arms := by obtain ⟨k, s, p, n, ks, az⟩ := t; rw [tlC]; rfl
theorem zBX (a : Ca) (ts : List Ca) : Zw (a :: ts) = tlC a.body + tlA a + Zw ts := by obtain ⟨s, v, l, b⟩ := a; rw [Zw]; rfl
def lsA (k : Int) (i : Nat) (a : Ar) : Nat := if ((zAV a).2 && decide (k = 14) && decide (0 < i)) = true then 1 else 0
mutual
/-- How many clauses resume last. -/
def lsT : Tm → Nat
 | ⟨k, _, _, _, _, ks, az, _⟩ => zBJ ks + zBE k 0 az
def zBJ : List Tm → Nat
 | [] => 0
 | t :: ts => lsT t + zBJ ts
def zBE (k : Int) : Nat → List Ar → Nat
 | _, [] => 0
 | i, ⟨s, v, b⟩ :: ts => lsT b + lsA k i ⟨s, v, b⟩ + zBE k (i + 1) ts
end
theorem zDy (t : Tm) : lsT t = zBJ t.kids + zBE t.kind 0 t.arms := by obtain ⟨kd, a, s, p, n, ks, az, r⟩ := t; rw [lsT]; rfl
theorem zCI (k : Int) (i : Nat) (a : Ar) (ts : List Ar) : zBE k i (a :: ts) = lsT a.body + lsA k i a + zBE k (i + 1) ts := by obtain ⟨x, v, b⟩ := a; rw [zBE]; rfl
end Go.Proofs.YtmdhhjmomilhjaaDoor
namespace Go.Proofs.YtmdhhjmomilhjaaDoor
set_option linter.all false
set_option maxRecDepth 4000
open Go.RowKit
theorem zCz {t : Tm} (h : LwT t) : (t.kind = 7 ∧ (∃ a b, t.kids = [a, b]) ∧ t.arms = []) ∨ (t.kind = 8 ∧ (∃ a b, t.kids = [a, b]) ∧ t.arms = []) ∨ (t.kind = 14 ∧ ∃ a, t.kids = [a]) ∨ (t.kind = 5 ∧ (∃ a, t.kids = [a]) ∧ t.arms = []) ∨
  ((t.kind = 1 ∨ t.kind = 2 ∨ t.kind = 3 ∨ t.kind = 4) ∧ t.kids = [] ∧ t.arms = []) ∨ (t.kind = 12 ∧ ∃ a, t.kids = [a]) ∨ ((t.kind = 0 ∨ t.kind = 6 ∨ t.kind = 9 ∨ t.kind = 10 ∨ t.kind = 11 ∨ t.kind = 13) ∧ t.arms = []) := by
 rcases h.here with ⟨h1, h2⟩ | ⟨h1, h2, h3, h4⟩
 ·have one : (t.kids.length : Int) = 1 → ∃ a, t.kids = [a] := fun h => by
   match t.kids, h with
   | [a], _ => exact ⟨a, rfl⟩
  have two : (t.kids.length : Int) = 2 → ∃ a b, t.kids = [a, b] := fun h => by
   match t.kids, h with
   | [a, b], _ => exact ⟨a, b, rfl⟩
  have nil : (t.kids.length : Int) = 0 → t.kids = [] := fun h => len0.1 h
  unfold Z6 at h1
  repeat' split at h1
  ·exact .inr (.inr (.inr (.inr (.inl ⟨by assumption, nil (by omega), h2 (by omega) (by omega)⟩))))
  ·rename_i hk; rcases hk with hk | hk | hk | hk
   ·exact .inr (.inr (.inr (.inl ⟨hk, one (by omega), h2 (by omega) (by omega)⟩)))
   ·exact .inr (.inr (.inr (.inr (.inr (.inl ⟨hk, one (by omega)⟩)))))
   ·exact .inr (.inr (.inr (.inr (.inr (.inr ⟨by omega, h2 (by omega) (by omega)⟩)))))
   ·exact .inr (.inr (.inl ⟨hk, one (by omega)⟩))
  ·rename_i hk; rcases hk with hk | hk | hk
   ·exact .inr (.inr (.inr (.inr (.inr (.inr ⟨by omega, h2 (by omega) (by omega)⟩)))))
   ·exact .inl ⟨hk, two (by omega), h2 (by omega) (by omega)⟩
   ·exact .inr (.inl ⟨hk, two (by omega), h2 (by omega) (by omega)⟩)
  ·exact .inr (.inr (.inr (.inr (.inr (.inr ⟨by omega, h2 (by omega) (by omega)⟩)))))
  ·exact .inr (.inr (.inr (.inr (.inr (.inr ⟨by omega, h2 (by omega) (by omega)⟩)))))
  ·omega
 ·exact .inr (.inr (.inr (.inr (.inr (.inr ⟨by omega, h4⟩)))))
theorem light_iff {t : Tm} : Zr t = true ↔ 1 ≤ t.kind ∧ t.kind ≤ 5 := by unfold Zr; simp
theorem zDB (sel : Bool) (t : Tm) : zAW sel t = 7 ∨ zAW sel t = 8 := by unfold zAW; split <;> simp
-- what is in the rows that are made
theorem takeB_mem {sel : Bool} {g : Gen} : ∀ {l : List Tm} {n : Nat} {b : Bd}, b ∈ zAB sel g l n → ∃ u ∈ l, ∃ m, Zr u = false ∧ b = ⟨zAW sel u, Zy ((g u m).2 + 1), (g u m).1⟩
 | [], _, _, h => by simp [zAB] at h
 | t :: ts, n, b, h => by
  rw [zAB, List.mem_append] at h
  rcases h with h | h
  ·unfold kidB at h
   split at h
   ·cases h
   ·rename_i hl; rw [List.mem_singleton] at h; exact ⟨t, .head _, n, by simpa using hl, h⟩
  ·obtain ⟨u, hu, m, h1⟩ := takeB_mem h; exact ⟨u, .tail _ hu, m, h1⟩
theorem zDO {t a : Tm} {r : List Tm} (h : t.kids = a :: r) : kid t 0 = a := by unfold kid; rw [h]; rfl
theorem kid_1 {t a b : Tm} {r : List Tm} (h : t.kids = a :: b :: r) : kid t 1 = b := by unfold kid; rw [h]; rfl
theorem body_core {sel tl : Bool} {g : Gen} {t : Tm} {n : Nat} (hk : t.kind = 0 ∨ t.kind = 6 ∨ t.kind = 9 ∨ t.kind = 10 ∨ t.kind = 11 ∨ t.kind = 12 ∨ t.kind = 13) : ZV sel tl g t n = (Za (zAB sel g (t.kids.take (zt t)) n) (zBF g t n), zEA g t.arms (zCt g t n)) :=
 bodyC (by omega) (by omega) (by omega) (by omega) (fun h => by rw [light_iff] at h; omega)
theorem zEH {sel tl : Bool} {g : Gen} {t : Tm} {n : Nat} (hk : t.kind = 1 ∨ t.kind = 2 ∨ t.kind = 3 ∨ t.kind = 4) : ZV sel tl g t n = (⟨t.kind, if t.kind = 1 then t.name else [], [], if t.kind = 2 ∨ t.kind = 3 then t.n else 0, [], []⟩, n) :=
 bodyA (by omega) (by omega) (by omega) (by omega) (by rw [light_iff]; omega)
-- how large
-- what is counted
structure AddC (f : Cd → Nat) (fs : List Cd → Nat) : Prop where
 nil : fs [] = 0
 cons : ∀ t ts, fs (t :: ts) = f t + fs ts
 bind : ∀ k s a b, k = 7 ∨ k = 8 → f (cd2 k s [] a b) = f a + f b
 var : ∀ s, f (zCV s) = 0
theorem AddC.app {f : Cd → Nat} {fs : List Cd → Nat} (h : AddC f fs) (l k : List Cd) : fs (l ++ k) = fs l + fs k := by
 induction l with
 | nil => rw [h.nil]; simp
 | cons x l ih => rw [List.cons_append, h.cons, h.cons, ih]; omega
theorem AddC.around {f : Cd → Nat} {fs : List Cd → Nat} (h : AddC f fs) : ∀ (bl : List Bd) (c : Cd), (∀ b ∈ bl, b.kind = 7 ∨ b.kind = 8) → f (Za bl c) = (bl.map fun b => f b.code).sum + f c
 | [], c, _ => by simp [Za]
 | b :: bl, c, hb => by
  rw [Za, h.bind _ _ _ _ (hb b (.head _)), h.around bl c fun x hx => hb x (.tail _ hx)]; simp; omega
structure AddT (v : Tm → Nat) (vs : List Tm → Nat) : Prop where
 nil : vs [] = 0
 cons : ∀ t ts, vs (t :: ts) = v t + vs ts
theorem AddC.take {f : Cd → Nat} {fs : List Cd → Nat} (h : AddC f fs) {v : Tm → Nat} {vs : List Tm → Nat} (hv : AddT v vs) {sel : Bool} {g : Gen} : ∀ (l : List Tm) (n : Nat), (∀ u ∈ l, ∀ n, f (g u n).1 = v u) → ((zAB sel g l n).map fun b => f b.code).sum + fs (Zo g l n) = vs l
 | [], n, _ => by simp [zAB, Zo, h.nil, hv.nil]
 | t :: ts, n, hg => by
  have ih := h.take hv (sel := sel) ts (zDa g t n) fun u hu => hg u (.tail _ hu)
  have ht := hg t (.head _) n
  rw [zAB, Zo, h.cons, hv.cons, List.map_append, List.sum_append]
  unfold kidB kidA
  split
  ·simp; omega
  ·rw [h.var]; simp; omega
theorem AddC.seq {f : Cd → Nat} {fs : List Cd → Nat} (h : AddC f fs) {v : Tm → Nat} {vs : List Tm → Nat} (hv : AddT v vs) {g : Gen} : ∀ (l : List Tm) (n : Nat), (∀ u ∈ l, ∀ n, f (g u n).1 = v u) → fs (zEG g l n) = vs l
 | [], n, _ => by rw [zEG, h.nil, hv.nil]
 | t :: ts, n, hg => by
  have ih := h.seq hv ts (g t n).2 fun u hu => hg u (.tail _ hu)
  rw [zEG, h.cons, hv.cons, ih, hg t (.head _) n]
theorem AddT.app {v : Tm → Nat} {vs : List Tm → Nat} (h : AddT v vs) (l k : List Tm) : vs (l ++ k) = vs l + vs k := by
 induction l with
 | nil => rw [h.nil]; simp
 | cons x l ih => rw [List.cons_append, h.cons, h.cons, ih]; omega
theorem AddC.core {f : Cd → Nat} {fs : List Cd → Nat} (h : AddC f fs) {v : Tm → Nat} {vs : List Tm → Nat} (hv : AddT v vs) {sel : Bool} {g : Gen} {t : Tm} {n : Nat} (hg : ∀ u ∈ t.kids, ∀ n, f (g u n).1 = v u) : f (Za (zAB sel g (t.kids.take (zt t)) n) (zBF g t n)) + fs (zBF g t n).kids = f (zBF g t n) + vs t.kids := by
 rw [h.around _ _ fun b hb => by obtain ⟨u, _, m, _, rfl⟩ := takeB_mem hb; exact zDB sel u]
 have h1 := h.take hv (sel := sel) (t.kids.take (zt t)) n fun u hu => hg u (List.mem_of_mem_take hu)
 have h2 := h.seq hv (t.kids.drop (zt t)) (zAL g (t.kids.take (zt t)) n) fun u hu => hg u (List.mem_of_mem_drop hu)
 have h3 : fs (zBF g t n).kids = _ := h.app (Zo g (t.kids.take (zt t)) n) (zEG g (t.kids.drop (zt t)) (zAL g (t.kids.take (zt t)) n))
 have h4 := hv.app (t.kids.take (zt t)) (t.kids.drop (zt t))
 rw [List.take_append_drop] at h4
 omega
end Go.Proofs.YtmdhhjmomilhjaaDoor
namespace Go.Proofs.YtmdhhjmomilhjaaDoor
open Go.Proofs.Tryd
set_option linter.all false
set_option maxRecDepth 4000
open Go.RowKit
abbrev zDl (t : Cd) : Prop := ∀ {w : World} {m : Mem} {vs_t : List Value} (hA : Agree w m) (h_t : CdR m t vs_t) (hb : tlC t ≤ 1000000000), FnV Tryd.prog 24 #[.agg vs_t.toArray] w m (fun _ _ v => v = .int .i64 (tlC t : Int))
set_option maxHeartbeats 800000 in
theorem tails_s {t : Cd} (ihk : ∀ u ∈ t.kids, zDl u) (iha : ∀ a ∈ t.arms, zDl a.body) {w : World} {m : Mem} {vs_t : List Value} (hA : Agree w m) (h_t : CdR m t vs_t) (hb : tlC t ≤ 1000000000) : FnV Tryd.prog 24 #[.agg vs_t.toArray] w m (fun _ _ v => v = .int .i64 (tlC t : Int)) := by
 obtain ⟨⟨oK_t, cK_t, oA_t, cA_t⟩, rfl, ⟨hik_t, hin_t⟩, hkk_t, haa_t⟩ := h_t.open_
 dsimp only at hkk_t haa_t
 have hbg_t := hkk_t.big; have hcp_t := hkk_t.cap; have hbh_t := haa_t.big; have hcq_t := haa_t.cap
 refine zX (vs := [_]) func24 rfl rfl rfl fun a0 hfr0 => ?_
 have hst0 := zW hA (zj [] _ w m)
 have hM : MLe m m := MLe.refl m
 have hce := zAg t
 refine zB fun _ hK1 => ?_
 refine rp0 hst0 hfr0 (.cons rfl (zw rfl rfl) <| .cons rfl (zC rfl) <| .nil) fun a1 w1 m1 hst1 hle1 hk1 => ?_
 have hfr1 := hk1.fr (.nil)
 obtain ⟨g2, e2, hc1⟩ := hk1.ex 1 rfl
 replace hfr1 := hfr1.cons e2
 replace h_t := h_t.mono hle1
 replace hkk_t := hkk_t.mono hle1
 replace haa_t := haa_t.mono hle1
 clear hst0 hfr0 hk1
 refine hK1 _ _ ?_
 refine zB fun _ hK3 => ?_
 refine rp0 hst1 hfr1 (.cons rfl (zC rfl) <| .nil) fun a2 w2 m2 hst2 hle2 hk2 => ?_
 have hfr2 := hk2.fr (.o 1 <| .n 3 <| .nil)
 replace h_t := h_t.mono hle2
 replace hkk_t := hkk_t.mono hle2
 replace haa_t := haa_t.mono hle2
 replace hc1 := hc1.mono hle2
 clear hst1 hfr1 hk2
 refine hK3 _ _ ?_
 refine zB fun _ hK4 => ?_
 refine zB fun _ hK5 => ?_
 refine rp0 hst2 hfr2 (.cons rfl (zC rfl) <| .nil) fun a3 w3 m3 hst3 hle3 hk3 => ?_
 have hfr3 := hk3.fr (.o 1 <| .o 3 <| .n 4 <| .nil)
 replace h_t := h_t.mono hle3
 replace hkk_t := hkk_t.mono hle3
 replace haa_t := haa_t.mono hle3
 replace hc1 := hc1.mono hle3
 clear hst2 hfr2 hk3
 refine hK5 _ _ ?_
 refine zM ?_
 refine zh (T := [(1, _)]) (fun (y : Nat × Int) => ([(3, .int .i64 y.2), (4, .int .i64 (y.1 : Int))] : List (Nat × Value))) (fun _ => _) (fun (y : Nat × Int) m => (fun (y : Nat) (a : Int) => (y ≤ t.kids.length) ∧ (a + zAC (t.kids.drop y) = (zAC t.kids : Int)) ∧ (0 ≤ a)) y.1 y.2) (fun y => t.kids.length - y.1) ((0, 0)) ⟨hst3, MLe.refl _, hfr3.sub (.c <| .c <| .c <| .nil), ⟨Nat.zero_le _, by rw [List.drop_zero]; omega, by omega⟩⟩ fun y a4 w4 m4 hh4 => ?_
 have hst4 := hh4.st; have hle4 := hh4.le; have hfr4 := hh4.fr; have hrel := hh4.rel; clear hh4
 replace h_t := h_t.mono hle4
 replace hkk_t := hkk_t.mono hle4
 replace haa_t := haa_t.mono hle4
 replace hc1 := hc1.mono hle4
 clear hst3 hfr3
 obtain ⟨y, a⟩ := y
 dsimp only at hrel hfr4 hst4
 obtain ⟨hyn, ha, ha0⟩ := hrel
 have hlh4 := hle4
 refine zB fun _ hK7 => ?_
 refine zB fun _ hK8 => ?_
 refine rp0 hst4 hfr4 (.cons rfl (zD rfl) <| .cons rfl (zA (off := 4) rfl underlying46 rfl rfl sizeOf43 rfl) <| .cons rfl (zE rfl hc1 isAgg43 rfl) <| .cons rfl (zZ rfl underlying43) <| .cons rfl (zz rfl rfl) <| .nil) fun a5 w5 m5 hst5 hle5 hk5 => ?_
 have hfr5 := hk5.fr (.o 3 <| .o 4 <| .o 1 <| .n 10 <| .nil)
 replace h_t := h_t.mono hle5
 replace hkk_t := hkk_t.mono hle5
 replace haa_t := haa_t.mono hle5
 replace hc1 := hc1.mono hle5
 have hlh5 := hlh4.trans hle5
 clear hst4 hfr4 hk5
 refine hK8 _ _ ?_
 refine zG hfr5 rfl rfl (fun hb10 => ?_) (fun hb10 => ?_)
 ·try simp only [nqs] at hb10
  refine zJ ?_
  refine hK7 _ _ ?_
  refine zB fun _ hK9 => ?_
  refine zM ?_
  obtain ⟨p10, vs10, x10, ho10, hd10, hm_x10, ht10, hcv10, hl10, hv10⟩ := hkk_t.nth (k := y) (by omega)
  cases ho10
  obtain ⟨⟨oK10, cK10, oA10, cA10⟩, rfl, ⟨hik10, hin10⟩, hkk10, haa10⟩ := hv10.open_
  dsimp only at hkk10 haa10
  have hbg10 := hkk10.big; have hcp10 := hkk10.cap; have hbh10 := haa10.big; have hcq10 := haa10.cap
  rw [hd10, zAC] at ha
  refine rp0 hst5 hfr5 (.cons rfl (zD rfl) <| .cons rfl (zA (off := 4) rfl underlying46 rfl rfl sizeOf43 rfl) <| .cons rfl (zE rfl hc1 isAgg43 rfl) <| .cons rfl (zD rfl) <| .cons rfl (zH (k := y) rfl rfl underlying43 sizeOf46 rfl (by omega)) <| .cons rfl (zN rfl hcv10 isAgg46 sizeOf46 rfl rfl) <| .cons rfl (ze rfl (.cons rfl <| .nil) call24 (fun w m hK => by have hle_ := KC.le hK; have hA := KC.agree hK; have h_t := h_t.mono hle_; have hkk_t := hkk_t.mono hle_; have haa_t := haa_t.mono hle_; have hc1 := hc1.mono hle_; have hcv10 := hcv10.mono hle_; have hv10 := hv10.mono hle_; have hkk10 := hkk10.mono hle_; have haa10 := haa10.mono hle_; exact ihk _ (by assumption) hA hv10 (by omega))) <| .cons rfl (zf rfl rfl ⟨by omega, by omega⟩) <| .cons rfl (zC rfl) <| .nil) fun a6 w6 m6 hst6 hle6 hk6 => ?_
  have hfr6 := hk6.fr (.o 4 <| .o 1 <| .n 3 <| .nil)
  clear hst5 hfr5 hk6
  refine hK9 _ _ ?_
  refine rp0 hst6 hfr6 (.cons rfl (zD rfl) <| .cons rfl (zf rfl rfl ⟨by omega, by omega⟩) <| .cons rfl (zC rfl) <| .nil) fun a7 w7 m7 hst7 hle7 hk7 => ?_
  have hfr7 := hk7.fr (.o 1 <| .o 3 <| .n 4 <| .nil)
  clear hst6 hfr6 hk7
  have zq1 := hle6.trans hle7
  have hlh7 := hlh5.trans zq1
  exact ⟨(y + 1, (a + (tlC x10 : Int))), m7, by show t.kids.length - (y + 1) < t.kids.length - y; omega, ⟨hst7, hlh7, hfr7.sub (.c <| .c <| .c <| .nil), ⟨by show y + 1 ≤ t.kids.length; omega, by show a + (tlC x10 : Int) + ((zAC (t.kids.drop (y + 1)) : Nat) : Int) = _; omega, by show 0 ≤ a + (tlC x10 : Int); omega⟩⟩⟩
 ·try simp only [nqs] at hb10
  have hge : y = t.kids.length := by omega
  rw [List.drop_of_length_le (by omega), zAC] at ha
  refine zk ?_
  refine hK4 _ _ ?_
  refine zB fun _ hK11 => ?_
  refine zB fun _ hK12 => ?_
  refine rp0 hst5 hfr5 (.cons rfl (zC rfl) <| .nil) fun a6 w6 m6 hst6 hle6 hk6 => ?_
  have hfr6 := hk6.fr (.o 3 <| .o 4 <| .o 1 <| .n 5 <| .nil)
  clear hst5 hfr5 hk6
  refine hK12 _ _ ?_
  refine zM ?_
  have hlh6 := hlh5.trans hle6
  have hlq13 := hlh6
  refine zh (T := [(4, _), (1, _)]) (fun (y : Nat × Int) => ([(3, .int .i64 y.2), (5, .int .i64 (y.1 : Int))] : List (Nat × Value))) (fun _ => _) (fun (y : Nat × Int) m => (fun (y : Nat) (b : Int) => (y ≤ t.arms.length) ∧ (b + Zw (t.arms.drop y) = (tlC t : Int)) ∧ (0 ≤ b)) y.1 y.2) (fun y => t.arms.length - y.1) ((0, a)) ⟨hst6, MLe.refl _, hfr6.sub (.c <| .c <| .c <| .c <| .nil), ⟨Nat.zero_le _, by rw [List.drop_zero]; omega, by omega⟩⟩ fun y a7 w7 m7 hh7 => ?_
  have hst7 := hh7.st; have hle7 := hh7.le; have hfr7 := hh7.fr; have hrel := hh7.rel; clear hh7
  clear hst6 hfr6
  obtain ⟨y, b⟩ := y
  dsimp only at hrel hfr7 hst7
  obtain ⟨hyn, hb_, hb0⟩ := hrel
  have hlh7 := hle7
  refine zB fun _ hK14 => ?_
  refine zB fun _ hK15 => ?_
  have zq2 := hle6.trans hle7
  replace hc1 := hc1.mono zq2
  refine rp0 hst7 hfr7 (.cons rfl (zD rfl) <| .cons rfl (zA (off := 5) rfl underlying46 rfl rfl sizeOf44 rfl) <| .cons rfl (zE rfl hc1 isAgg44 rfl) <| .cons rfl (zZ rfl underlying44) <| .cons rfl (zz rfl rfl) <| .nil) fun a8 w8 m8 hst8 hle8 hk8 => ?_
  have hfr8 := hk8.fr (.o 3 <| .o 5 <| .o 4 <| .o 1 <| .n 25 <| .nil)
  clear hst7 hfr7 hk8
  refine hK15 _ _ ?_
  refine zG hfr8 rfl rfl (fun hb25 => ?_) (fun hb25 => ?_)
  ·try simp only [nqs] at hb25
   refine zJ ?_
   refine hK14 _ _ ?_
   refine zB fun _ hK16 => ?_
   refine zM ?_
   refine zB fun _ hK17 => ?_
   have zq3 := zq2.trans hle8
   replace haa_t := haa_t.mono zq3
   obtain ⟨p18, vs18, x18, ho18, hd18, hm_x18, ht18, hcv18, hl18, hv18⟩ := haa_t.nth (k := y) (by omega)
   cases ho18
   obtain ⟨oV18, cV18, bs18, rfl, hva18, hbd18⟩ := hv18.open_
   have hbv18 := hva18.big; have hcv18_ := hva18.cap
   obtain ⟨⟨oK18b, cK18b, oA18b, cA18b⟩, rfl, ⟨hik18b, hin18b⟩, hkk18b, haa18b⟩ := hbd18.open_
   dsimp only at hkk18b haa18b
   have hbg18b := hkk18b.big; have hcp18b := hkk18b.cap; have hbh18b := haa18b.big; have hcq18b := haa18b.cap
   rw [hd18, zBX] at hb_
   replace h_t := h_t.mono zq3
   replace hkk_t := hkk_t.mono zq3
   replace hc1 := hc1.mono hle8
   refine rp0 hst8 hfr8 (.cons rfl (zD rfl) <| .cons rfl (zA (off := 5) rfl underlying46 rfl rfl sizeOf44 rfl) <| .cons rfl (zE rfl hc1 isAgg44 rfl) <| .cons rfl (zD rfl) <| .cons rfl (zH (k := y) rfl rfl underlying44 sizeOf78 rfl (by omega)) <| .cons rfl (zA (off := 3) rfl underlying78 rfl rfl sizeOf46 rfl) <| .cons rfl (Zb rfl hcv18 isAgg46 sizeOf46 rfl rfl) <| .cons rfl (ze rfl (.cons rfl <| .nil) call24 (fun w m hK => by have hle_ := KC.le hK; have hA := KC.agree hK; have h_t := h_t.mono hle_; have hkk_t := hkk_t.mono hle_; have haa_t := haa_t.mono hle_; have hc1 := hc1.mono hle_; have hcv18 := hcv18.mono hle_; have hv18 := hv18.mono hle_; have hva18 := hva18.mono hle_; have hbd18 := hbd18.mono hle_; have hkk18b := hkk18b.mono hle_; have haa18b := haa18b.mono hle_; exact iha _ (by assumption) hA hbd18 (by omega))) <| .cons rfl (zf rfl rfl ⟨by omega, by omega⟩) <| .cons rfl (zC rfl) <| .nil) fun a9 w9 m9 hst9 hle9 hk9 => ?_
   have hfr9 := hk9.fr (.o 5 <| .o 4 <| .o 1 <| .n 3 <| .nil)
   clear hst8 hfr8 hk9
   refine hK17 _ _ ?_
   refine zB fun _ hK19 => ?_
   replace hc1 := hc1.mono hle9
   replace hcv18 := hcv18.mono hle9
   refine rp0 hst9 hfr9 (.cons rfl (zA (off := 5) rfl underlying46 rfl rfl sizeOf44 rfl) <| .cons rfl (zE rfl hc1 isAgg44 rfl) <| .cons rfl (zD rfl) <| .cons rfl (zH (k := y) rfl rfl underlying44 sizeOf78 rfl (by omega)) <| .cons rfl (zA (off := 2) rfl underlying78 rfl rfl sizeOf4 rfl) <| .cons rfl (zE rfl hcv18 isAgg4 rfl) <| .nil) fun a10 w10 m10 hst10 hle10 hk10 => ?_
   have hfr10 := hk10.fr (.o 5 <| .o 4 <| .o 1 <| .o 3 <| .n 42 <| .nil)
   clear hst9 hfr9 hk10
   refine hK19 _ _ ?_
   refine zG hfr10 rfl rfl (fun hb42 => ?_) (fun hb42 => ?_)
   ·try simp only [nqs] at hb42
    refine zB fun _ hK20 => ?_
    have htl8 : 1 ≤ tlA x18 := by unfold tlA; rw [if_pos hb42]; split <;> omega
    refine rp0 hst10 hfr10 (.cons rfl (zD rfl) <| .cons rfl (zf rfl rfl ⟨by omega, by omega⟩) <| .cons rfl (zC rfl) <| .nil) fun a11 w11 m11 hst11 hle11 hk11 => ?_
    have hfr11 := hk11.fr (.o 5 <| .o 4 <| .o 1 <| .n 3 <| .nil)
    clear hst10 hfr10 hk11
    refine hK20 _ _ ?_
    refine zB fun _ hK21 => ?_
    have zq4 := hle10.trans hle11
    replace hc1 := hc1.mono zq4
    replace hcv18 := hcv18.mono zq4
    refine rp0 hst11 hfr11 (.cons rfl (zA (off := 5) rfl underlying46 rfl rfl sizeOf44 rfl) <| .cons rfl (zE rfl hc1 isAgg44 rfl) <| .cons rfl (zD rfl) <| .cons rfl (zH (k := y) rfl rfl underlying44 sizeOf78 rfl (by omega)) <| .cons rfl (zA (off := 1) rfl underlying78 rfl rfl sizeOf27 rfl) <| .cons rfl (zE rfl hcv18 isAgg27 rfl) <| .cons rfl (zZ rfl underlying27) <| .cons rfl (ZJ rfl rfl) <| .nil) fun a12 w12 m12 hst12 hle12 hk12 => ?_
    have hfr12 := hk12.fr (.o 5 <| .o 4 <| .o 1 <| .o 3 <| .n 52 <| .nil)
    clear hst11 hfr11 hk12
    refine hK21 _ _ ?_
    refine zG hfr12 rfl rfl (fun hb52 => ?_) (fun hb52 => ?_)
    ·try simp only [nqs] at hb52
     have hta : tlA x18 = 1000001 := by unfold tlA; rw [if_pos hb42, if_neg (by omega)]
     refine rp0 hst12 hfr12 (.cons rfl (zD rfl) <| .cons rfl (zf rfl rfl ⟨by omega, by omega⟩) <| .cons rfl (zC rfl) <| .nil) fun a13 w13 m13 hst13 hle13 hk13 => ?_
     have hfr13 := hk13.fr (.o 5 <| .o 4 <| .o 1 <| .n 3 <| .nil)
     clear hst12 hfr12 hk13
     refine hK16 _ _ ?_
     refine rp0 hst13 hfr13 (.cons rfl (zD rfl) <| .cons rfl (zf rfl rfl ⟨by omega, by omega⟩) <| .cons rfl (zC rfl) <| .nil) fun a14 w14 m14 hst14 hle14 hk14 => ?_
     have hfr14 := hk14.fr (.o 4 <| .o 1 <| .o 3 <| .n 5 <| .nil)
     clear hst13 hfr13 hk14
     have zq5 := hle13.trans hle14
     have zq6 := hle12.trans zq5
     have zq7 := zq4.trans zq6
     have zq8 := hle9.trans zq7
     have zq9 := hle8.trans zq8
     have hlh14 := hlh7.trans zq9
     exact ⟨(y + 1, (b + (tlC x18.body : Int) + 1 + 1000000)), m14, by show t.arms.length - (y + 1) < t.arms.length - y; omega, ⟨hst14, hlh14, hfr14.sub (.c <| .c <| .c <| .c <| .nil), ⟨by show y + 1 ≤ t.arms.length; omega, by show (b + (tlC x18.body : Int) + 1 + 1000000) + ((Zw (t.arms.drop (y + 1)) : Nat) : Int) = _; omega, by show 0 ≤ (b + (tlC x18.body : Int) + 1 + 1000000); omega⟩⟩⟩
    ·try simp only [nqs] at hb52
     have hta : tlA x18 = 1 := by unfold tlA; rw [if_pos hb42, if_pos (by omega)]
     refine zJ ?_
     refine hK16 _ _ ?_
     refine rp0 hst12 hfr12 (.cons rfl (zD rfl) <| .cons rfl (zf rfl rfl ⟨by omega, by omega⟩) <| .cons rfl (zC rfl) <| .nil) fun a13 w13 m13 hst13 hle13 hk13 => ?_
     have hfr13 := hk13.fr (.o 4 <| .o 1 <| .o 3 <| .n 5 <| .nil)
     clear hst12 hfr12 hk13
     have zq10 := hle12.trans hle13
     have zq11 := zq4.trans zq10
     have zq12 := hle9.trans zq11
     have zq13 := hle8.trans zq12
     have hlh13 := hlh7.trans zq13
     exact ⟨(y + 1, (b + (tlC x18.body : Int) + 1)), m13, by show t.arms.length - (y + 1) < t.arms.length - y; omega, ⟨hst13, hlh13, hfr13.sub (.c <| .c <| .c <| .c <| .nil), ⟨by show y + 1 ≤ t.arms.length; omega, by show (b + (tlC x18.body : Int) + 1) + ((Zw (t.arms.drop (y + 1)) : Nat) : Int) = _; omega, by show 0 ≤ (b + (tlC x18.body : Int) + 1); omega⟩⟩⟩
   ·try simp only [nqs] at hb42
    have hta : tlA x18 = 0 := by unfold tlA; rw [hb42]; rfl
    refine zJ ?_
    refine hK16 _ _ ?_
    refine rp0 hst10 hfr10 (.cons rfl (zD rfl) <| .cons rfl (zf rfl rfl ⟨by omega, by omega⟩) <| .cons rfl (zC rfl) <| .nil) fun a11 w11 m11 hst11 hle11 hk11 => ?_
    have hfr11 := hk11.fr (.o 4 <| .o 1 <| .o 3 <| .n 5 <| .nil)
    clear hst10 hfr10 hk11
    have zq14 := hle10.trans hle11
    have zq15 := hle9.trans zq14
    have zq16 := hle8.trans zq15
    have hlh11 := hlh7.trans zq16
    exact ⟨(y + 1, (b + (tlC x18.body : Int))), m11, by show t.arms.length - (y + 1) < t.arms.length - y; omega, ⟨hst11, hlh11, hfr11.sub (.c <| .c <| .c <| .c <| .nil), ⟨by show y + 1 ≤ t.arms.length; omega, by show (b + (tlC x18.body : Int)) + ((Zw (t.arms.drop (y + 1)) : Nat) : Int) = _; omega, by show 0 ≤ (b + (tlC x18.body : Int)); omega⟩⟩⟩
  ·try simp only [nqs] at hb25
   have hge : y = t.arms.length := by omega
   rw [List.drop_of_length_le (by omega), Zw] at hb_
   refine zk ?_
   refine hK11 _ _ ?_
   refine zB fun _ hK22 => ?_
   refine rp0 hst8 hfr8 (.cons rfl (zD rfl) <| .cons rfl (zC rfl) <| .nil) fun a9 w9 m9 hst9 hle9 hk9 => ?_
   have hfr9 := hk9.fr (.o 3 <| .o 5 <| .o 4 <| .n 2 <| .nil)
   clear hst8 hfr8 hk9
   refine hK22 _ _ ?_
   refine zK ?_
   repeat (with_reducible first | refine zI ?_ | refine zF ?_)
   exact zL hst9 hfr9 rfl (.tmp rfl <| .nil) (by refine congrArg (Value.int _) ?_; omega)
theorem tails_c (t : Cd) : zDl t := Cd.rec_ (p := zDl) (fun t ihk iha => tails_s ihk iha) t
abbrev zDi (t : Tm) : Prop := ∀ {w : World} {m : Mem} {vs_t : List Value} (hA : Agree w m) (h_t : TmR m t vs_t) (hb : lsT t ≤ 1000000000) (hc : zQ t ≤ 1000000000), FnV Tryd.prog 25 #[.agg vs_t.toArray] w m (fun _ _ v => v = .int .i64 (lsT t : Int))
set_option maxHeartbeats 800000 in
theorem lasts_s {t : Tm} (ihk : ∀ u ∈ t.kids, zDi u) (iha : ∀ a ∈ t.arms, zDi a.body) {w : World} {m : Mem} {vs_t : List Value} (hA : Agree w m) (h_t : TmR m t vs_t) (hb : lsT t ≤ 1000000000) (hc : zQ t ≤ 1000000000) : FnV Tryd.prog 25 #[.agg vs_t.toArray] w m (fun _ _ v => v = .int .i64 (lsT t : Int)) := by
 obtain ⟨⟨oK_t, cK_t, oA_t, cA_t, oR_t, cR_t, t0_t, t1_t, t2_t, t3_t, t4_t, t5_t, u0_t, u1_t, u2_t, u3_t, u4_t, u5_t⟩, rfl, hon_t, hkk_t, haa_t, hrr_t⟩ := h_t.open_
 dsimp only at hkk_t haa_t hrr_t
 have hbg_t := hkk_t.big; have hcp_t := hkk_t.cap; have hbh_t := haa_t.big; have hcq_t := haa_t.cap
 refine zX (vs := [_]) func25 rfl rfl rfl fun a0 hfr0 => ?_
 have hst0 := zW hA (zj [] _ w m)
 have hM : MLe m m := MLe.refl m
 have hce := zDy t
 have hcm := zp t
 refine zB fun _ hK1 => ?_
 refine rp0 hst0 hfr0 (.cons rfl (zw rfl rfl) <| .cons rfl (zC rfl) <| .nil) fun a1 w1 m1 hst1 hle1 hk1 => ?_
 have hfr1 := hk1.fr (.nil)
 obtain ⟨g2, e2, hc1⟩ := hk1.ex 1 rfl
 replace hfr1 := hfr1.cons e2
 replace h_t := h_t.mono hle1
 replace hkk_t := hkk_t.mono hle1
 replace haa_t := haa_t.mono hle1
 replace hrr_t := hrr_t.mono hle1
 clear hst0 hfr0 hk1
 refine hK1 _ _ ?_
 refine zB fun _ hK3 => ?_
 refine rp0 hst1 hfr1 (.cons rfl (zC rfl) <| .nil) fun a2 w2 m2 hst2 hle2 hk2 => ?_
 have hfr2 := hk2.fr (.o 1 <| .n 3 <| .nil)
 replace h_t := h_t.mono hle2
 replace hkk_t := hkk_t.mono hle2
 replace haa_t := haa_t.mono hle2
 replace hrr_t := hrr_t.mono hle2
 replace hc1 := hc1.mono hle2
 clear hst1 hfr1 hk2
 refine hK3 _ _ ?_
 refine zB fun _ hK4 => ?_
 refine zB fun _ hK5 => ?_
 refine rp0 hst2 hfr2 (.cons rfl (zC rfl) <| .nil) fun a3 w3 m3 hst3 hle3 hk3 => ?_
 have hfr3 := hk3.fr (.o 1 <| .o 3 <| .n 4 <| .nil)
 replace h_t := h_t.mono hle3
 replace hkk_t := hkk_t.mono hle3
 replace haa_t := haa_t.mono hle3
 replace hrr_t := hrr_t.mono hle3
 replace hc1 := hc1.mono hle3
 clear hst2 hfr2 hk3
 refine hK5 _ _ ?_
 refine zM ?_
 refine zh (T := [(1, _)]) (fun (y : Nat × Int) => ([(3, .int .i64 y.2), (4, .int .i64 (y.1 : Int))] : List (Nat × Value))) (fun _ => _) (fun (y : Nat × Int) m => (fun (y : Nat) (a : Int) => (y ≤ t.kids.length) ∧ (a + zBJ (t.kids.drop y) = (zBJ t.kids : Int)) ∧ (0 ≤ a)) y.1 y.2) (fun y => t.kids.length - y.1) ((0, 0)) ⟨hst3, MLe.refl _, hfr3.sub (.c <| .c <| .c <| .nil), ⟨Nat.zero_le _, by rw [List.drop_zero]; omega, by omega⟩⟩ fun y a4 w4 m4 hh4 => ?_
 have hst4 := hh4.st; have hle4 := hh4.le; have hfr4 := hh4.fr; have hrel := hh4.rel; clear hh4
 replace h_t := h_t.mono hle4
 replace hkk_t := hkk_t.mono hle4
 replace haa_t := haa_t.mono hle4
 replace hrr_t := hrr_t.mono hle4
 replace hc1 := hc1.mono hle4
 clear hst3 hfr3
 obtain ⟨y, a⟩ := y
 dsimp only at hrel hfr4 hst4
 obtain ⟨hyn, ha, ha0⟩ := hrel
 have hlh4 := hle4
 refine zB fun _ hK7 => ?_
 refine zB fun _ hK8 => ?_
 refine rp0 hst4 hfr4 (.cons rfl (zD rfl) <| .cons rfl (zA (off := 5) rfl underlying33 rfl rfl sizeOf24 rfl) <| .cons rfl (zE rfl hc1 isAgg24 rfl) <| .cons rfl (zZ rfl underlying24) <| .cons rfl (zz rfl rfl) <| .nil) fun a5 w5 m5 hst5 hle5 hk5 => ?_
 have hfr5 := hk5.fr (.o 3 <| .o 4 <| .o 1 <| .n 12 <| .nil)
 replace h_t := h_t.mono hle5
 replace hkk_t := hkk_t.mono hle5
 replace haa_t := haa_t.mono hle5
 replace hrr_t := hrr_t.mono hle5
 replace hc1 := hc1.mono hle5
 have hlh5 := hlh4.trans hle5
 clear hst4 hfr4 hk5
 refine hK8 _ _ ?_
 refine zG hfr5 rfl rfl (fun hb12 => ?_) (fun hb12 => ?_)
 ·try simp only [nqs] at hb12
  refine zJ ?_
  refine hK7 _ _ ?_
  refine zB fun _ hK9 => ?_
  refine zM ?_
  obtain ⟨p10, vs10, x10, ho10, hd10, hm_x10, ht10, hcv10, hl10, hv10⟩ := hkk_t.nth (k := y) (by omega)
  cases ho10
  obtain ⟨⟨oK10, cK10, oA10, cA10, oR10, cR10, t010, t110, t210, t310, t410, t510, u010, u110, u210, u310, u410, u510⟩, rfl, hon10, hkk10, haa10, hrr10⟩ := hv10.open_
  dsimp only at hkk10 haa10 hrr10
  have hbg10 := hkk10.big; have hcp10 := hkk10.cap; have hbh10 := haa10.big; have hcq10 := haa10.cap
  rw [hd10, zBJ] at ha
  refine rp0 hst5 hfr5 (.cons rfl (zD rfl) <| .cons rfl (zA (off := 5) rfl underlying33 rfl rfl sizeOf24 rfl) <| .cons rfl (zE rfl hc1 isAgg24 rfl) <| .cons rfl (zD rfl) <| .cons rfl (zH (k := y) rfl rfl underlying24 sizeOf33 rfl (by omega)) <| .cons rfl (zN rfl hcv10 isAgg33 sizeOf33 rfl rfl) <| .cons rfl (ze rfl (.cons rfl <| .nil) call25 (fun w m hK => by have hle_ := KC.le hK; have hA := KC.agree hK; have h_t := h_t.mono hle_; have hkk_t := hkk_t.mono hle_; have haa_t := haa_t.mono hle_; have hrr_t := hrr_t.mono hle_; have hc1 := hc1.mono hle_; have hcv10 := hcv10.mono hle_; have hv10 := hv10.mono hle_; have hkk10 := hkk10.mono hle_; have haa10 := haa10.mono hle_; have hrr10 := hrr10.mono hle_; exact ihk _ (by assumption) hA hv10 (by omega) (by have := ZA hm_x10; omega))) <| .cons rfl (zf rfl rfl ⟨by omega, by omega⟩) <| .cons rfl (zC rfl) <| .nil) fun a6 w6 m6 hst6 hle6 hk6 => ?_
  have hfr6 := hk6.fr (.o 4 <| .o 1 <| .n 3 <| .nil)
  clear hst5 hfr5 hk6
  refine hK9 _ _ ?_
  refine rp0 hst6 hfr6 (.cons rfl (zD rfl) <| .cons rfl (zf rfl rfl ⟨by omega, by omega⟩) <| .cons rfl (zC rfl) <| .nil) fun a7 w7 m7 hst7 hle7 hk7 => ?_
  have hfr7 := hk7.fr (.o 1 <| .o 3 <| .n 4 <| .nil)
  clear hst6 hfr6 hk7
  have zq1 := hle6.trans hle7
  have hlh7 := hlh5.trans zq1
  exact ⟨(y + 1, (a + (lsT x10 : Int))), m7, by show t.kids.length - (y + 1) < t.kids.length - y; omega, ⟨hst7, hlh7, hfr7.sub (.c <| .c <| .c <| .nil), ⟨by show y + 1 ≤ t.kids.length; omega, by show a + (lsT x10 : Int) + ((zBJ (t.kids.drop (y + 1)) : Nat) : Int) = _; omega, by show 0 ≤ a + (lsT x10 : Int); omega⟩⟩⟩
 ·try simp only [nqs] at hb12
  have hge : y = t.kids.length := by omega
  rw [List.drop_of_length_le (by omega), zBJ] at ha
  refine zk ?_
  refine hK4 _ _ ?_
  refine zB fun _ hK11 => ?_
  refine zB fun _ hK12 => ?_
  refine rp0 hst5 hfr5 (.cons rfl (zC rfl) <| .nil) fun a6 w6 m6 hst6 hle6 hk6 => ?_
  have hfr6 := hk6.fr (.o 3 <| .o 4 <| .o 1 <| .n 5 <| .nil)
  clear hst5 hfr5 hk6
  refine hK12 _ _ ?_
  refine zM ?_
  have hlh6 := hlh5.trans hle6
  have hlq13 := hlh6
  refine zh (T := [(4, _), (1, _)]) (fun (y : Nat × Int) => ([(3, .int .i64 y.2), (5, .int .i64 (y.1 : Int))] : List (Nat × Value))) (fun _ => _) (fun (y : Nat × Int) m => (fun (y : Nat) (b : Int) => (y ≤ t.arms.length) ∧ (b + zBE t.kind y (t.arms.drop y) = (lsT t : Int)) ∧ (0 ≤ b)) y.1 y.2) (fun y => t.arms.length - y.1) ((0, a)) ⟨hst6, MLe.refl _, hfr6.sub (.c <| .c <| .c <| .c <| .nil), ⟨Nat.zero_le _, by rw [List.drop_zero]; dsimp only; omega, by omega⟩⟩ fun y a7 w7 m7 hh7 => ?_
  have hst7 := hh7.st; have hle7 := hh7.le; have hfr7 := hh7.fr; have hrel := hh7.rel; clear hh7
  clear hst6 hfr6
  obtain ⟨y, b⟩ := y
  dsimp only at hrel hfr7 hst7
  obtain ⟨hyn, hb_, hb0⟩ := hrel
  have hlh7 := hle7
  refine zB fun _ hK14 => ?_
  refine zB fun _ hK15 => ?_
  have zq2 := hle6.trans hle7
  replace hc1 := hc1.mono zq2
  refine rp0 hst7 hfr7 (.cons rfl (zD rfl) <| .cons rfl (zA (off := 6) rfl underlying33 rfl rfl sizeOf25 rfl) <| .cons rfl (zE rfl hc1 isAgg25 rfl) <| .cons rfl (zZ rfl underlying25) <| .cons rfl (zz rfl rfl) <| .nil) fun a8 w8 m8 hst8 hle8 hk8 => ?_
  have hfr8 := hk8.fr (.o 3 <| .o 5 <| .o 4 <| .o 1 <| .n 27 <| .nil)
  clear hst7 hfr7 hk8
  refine hK15 _ _ ?_
  refine zG hfr8 rfl rfl (fun hb27 => ?_) (fun hb27 => ?_)
  ·try simp only [nqs] at hb27
   refine zJ ?_
   refine hK14 _ _ ?_
   refine zB fun _ hK16 => ?_
   refine zM ?_
   refine zB fun _ hK17 => ?_
   have zq3 := zq2.trans hle8
   replace haa_t := haa_t.mono zq3
   obtain ⟨p18, vs18, x18, ho18, hd18, hm_x18, ht18, hcv18, hl18, hv18⟩ := haa_t.nth (k := y) (by omega)
   cases ho18
   obtain ⟨oV18, cV18, bs18, rfl, hva18, hbd18⟩ := hv18.open_
   have hbv18 := hva18.big; have hcv18_ := hva18.cap
   obtain ⟨⟨oK18b, cK18b, oA18b, cA18b, oR18b, cR18b, t018b, t118b, t218b, t318b, t418b, t518b, u018b, u118b, u218b, u318b, u418b, u518b⟩, rfl, hon18b, hkk18b, haa18b, hrr18b⟩ := hbd18.open_
   dsimp only at hkk18b haa18b hrr18b
   have hbg18b := hkk18b.big; have hcp18b := hkk18b.cap; have hbh18b := haa18b.big; have hcq18b := haa18b.cap
   rw [hd18, zCI] at hb_
   have hca9 := Ze hm_x18
   replace h_t := h_t.mono zq3
   replace hkk_t := hkk_t.mono zq3
   replace hrr_t := hrr_t.mono zq3
   replace hc1 := hc1.mono hle8
   refine rp0 hst8 hfr8 (.cons rfl (zD rfl) <| .cons rfl (zA (off := 6) rfl underlying33 rfl rfl sizeOf25 rfl) <| .cons rfl (zE rfl hc1 isAgg25 rfl) <| .cons rfl (zD rfl) <| .cons rfl (zH (k := y) rfl rfl underlying25 sizeOf72 rfl (by omega)) <| .cons rfl (zA (off := 2) rfl underlying72 rfl rfl sizeOf33 rfl) <| .cons rfl (Zb rfl hcv18 isAgg33 sizeOf33 rfl rfl) <| .cons rfl (ze rfl (.cons rfl <| .nil) call25 (fun w m hK => by have hle_ := KC.le hK; have hA := KC.agree hK; have h_t := h_t.mono hle_; have hkk_t := hkk_t.mono hle_; have haa_t := haa_t.mono hle_; have hrr_t := hrr_t.mono hle_; have hc1 := hc1.mono hle_; have hcv18 := hcv18.mono hle_; have hv18 := hv18.mono hle_; have hva18 := hva18.mono hle_; have hbd18 := hbd18.mono hle_; have hkk18b := hkk18b.mono hle_; have haa18b := haa18b.mono hle_; have hrr18b := hrr18b.mono hle_; exact iha _ (by assumption) hA hbd18 (by omega) (by omega))) <| .cons rfl (zf rfl rfl ⟨by omega, by omega⟩) <| .cons rfl (zC rfl) <| .nil) fun a9 w9 m9 hst9 hle9 hk9 => ?_
   have hfr9 := hk9.fr (.o 5 <| .o 4 <| .o 1 <| .n 3 <| .nil)
   clear hst8 hfr8 hk9
   refine hK17 _ _ ?_
   refine zB fun _ hK19 => ?_
   refine zu 6 (by kernel_rfl) ?_
   replace hc1 := hc1.mono hle9
   replace hcv18 := hcv18.mono hle9
   replace hv18 := hv18.mono hle9
   refine zg (tch := []) hst9 hfr9 (by kernel_rfl) (by kernel_rfl) (by kernel_rfl) (.cons rfl (zA (off := 6) rfl underlying33 rfl rfl sizeOf25 rfl) <| .cons rfl (zE rfl hc1 isAgg25 rfl) <| .cons rfl (zD rfl) <| .cons rfl (zH (k := y) rfl rfl underlying25 sizeOf72 rfl (by omega)) <| .cons rfl (zN rfl hcv18 isAgg72 sizeOf72 rfl rfl) <| .cons rfl (zm (φ := MP.lastV x18) rfl (.cons rfl <| .nil) call37 (fun w m hK => by have hle_ := KC.le hK; have hA := KC.agree hK; have hv18 := hv18.mono hle_; exact FnG.mono (lastR_c (a := x18) hA hv18 (by omega)) fun _ _ _ _ h => h)) <| .nil) fun a10 w10 m10 hst10 hle10 hk10 => ?_
   have hfr10 := hk10.fr (.o 5 <| .o 4 <| .o 1 <| .o 3 <| .nil)
   obtain ⟨⟨⟨xl9, yl9⟩, bl9⟩, e20, hl9, hlq⟩ := hk10.ex 45 rfl
   replace hfr10 := hfr10.cons e20
   clear hst9 hfr9 hk10
   dsimp only at hl9 hlq
   replace hst10 := hst10.more (r := .free) trivial List.nodup_nil (by simp [Res.blocks])
   refine zg (tch := [(3, 0, (fun v => .blk v _)), (4, 0, (fun v => .blk v _))]) hst10 hfr10 (by kernel_rfl) (by kernel_rfl) (by kernel_rfl) (.cons rfl (zD rfl) <| .cons rfl (zT rfl rfl) <| .cons rfl (zT rfl rfl) <| .consT rfl rfl (fun _ => rfl) rfl (zP zeroValue33 rfl) <| .consT rfl rfl (fun _ => rfl) rfl (zU 6 rfl rfl rfl fun y6 => zc rfl rfl rfl rfl rfl sizeOf33 rfl rfl hl9.one) <| .cons rfl (zC rfl) <| .nil) fun a11 w11 m11 hst11 hle11 hk11 => ?_
   have hfr11 := hk11.fr (.o 5 <| .o 4 <| .o 1 <| .o 3 <| .o 45 <| .n 7 <| .nil)
   obtain ⟨g21, e21, _⟩ := hk11.ex 6 rfl
   replace hfr11 := hfr11.cons e21
   replace hst11 := hst11.fin (L' := [_]) (.cons e21 <| .cons e21 <| .nil)
   try simp only [List.take_succ_cons, List.take_zero, List.drop_succ_cons, List.drop_zero, List.cons_append, List.nil_append, List.append_nil, List.length_cons, List.length_nil, Nat.zero_add, Nat.reduceAdd] at hst11
   clear hst10 hfr10 hk11
   refine hK19 _ _ ?_
   refine zB fun _ hK22 => ?_
   have zq4 := hle10.trans hle11
   replace hc1 := hc1.mono zq4
   refine rp0 hst11 hfr11 (.cons rfl (zD rfl) <| .cons rfl (zD rfl) <| .cons rfl (zA (off := 0) rfl underlying33 rfl rfl sizeOf3 rfl) <| .cons rfl (zE rfl hc1 isAgg3 rfl) <| .cons rfl (za rfl rfl) <| .cons rfl (ZS rfl rfl rfl) <| .cons rfl (zD rfl) <| .cons rfl (zD rfl) <| .cons rfl (zAf rfl rfl) <| .cons rfl (ZS rfl rfl rfl) <| .nil) fun a12 w12 m12 hst12 hle12 hk12 => ?_
   have hfr12 := hk12.fr (.o 5 <| .o 4 <| .o 1 <| .o 3 <| .n 57 <| .nil)
   clear hst11 hfr11 hk12
   refine hK22 _ _ ?_
   refine zG hfr12 rfl rfl (fun hb57 => ?_) (fun hb57 => ?_)
   ·try simp only [nqs] at hb57
    have hta : lsA t.kind y x18 = 1 := by unfold lsA; rw [← hlq]; rw [if_pos (by simp only [Bool.and_eq_true, decide_eq_true_eq]; exact ⟨⟨by simp_all, by omega⟩, by omega⟩)]
    refine rp0 hst12 hfr12 (.cons rfl (zD rfl) <| .cons rfl (zf rfl rfl ⟨by omega, by omega⟩) <| .cons rfl (zC rfl) <| .nil) fun a13 w13 m13 hst13 hle13 hk13 => ?_
    have hfr13 := hk13.fr (.o 5 <| .o 4 <| .o 1 <| .n 3 <| .nil)
    clear hst12 hfr12 hk13
    refine hK16 _ _ ?_
    refine rp0 hst13 hfr13 (.cons rfl (zD rfl) <| .cons rfl (zf rfl rfl ⟨by omega, by omega⟩) <| .cons rfl (zC rfl) <| .nil) fun a14 w14 m14 hst14 hle14 hk14 => ?_
    have hfr14 := hk14.fr (.o 4 <| .o 1 <| .o 3 <| .n 5 <| .nil)
    clear hst13 hfr13 hk14
    have hst14 := hst14.take 0
    have zq5 := hle13.trans hle14
    have zq6 := hle12.trans zq5
    have zq7 := zq4.trans zq6
    have zq8 := hle9.trans zq7
    have zq9 := hle8.trans zq8
    have hlh14 := hlh7.trans zq9
    exact ⟨(y + 1, (b + (lsT x18.body : Int) + 1)), m14, by show t.arms.length - (y + 1) < t.arms.length - y; omega, ⟨hst14, hlh14, hfr14.sub (.c <| .c <| .c <| .c <| .nil), ⟨by show y + 1 ≤ t.arms.length; omega, by show (b + (lsT x18.body : Int) + 1) + ((zBE t.kind (y + 1) (t.arms.drop (y + 1)) : Nat) : Int) = _; omega, by show 0 ≤ (b + (lsT x18.body : Int) + 1); omega⟩⟩⟩
   ·try simp only [nqs] at hb57
    have hta : lsA t.kind y x18 = 0 := by unfold lsA; rw [← hlq]; rw [if_neg (by simp only [Bool.and_eq_true, decide_eq_true_eq]; intro hh; simp_all <;> omega)]
    refine zJ ?_
    refine hK16 _ _ ?_
    refine rp0 hst12 hfr12 (.cons rfl (zD rfl) <| .cons rfl (zf rfl rfl ⟨by omega, by omega⟩) <| .cons rfl (zC rfl) <| .nil) fun a13 w13 m13 hst13 hle13 hk13 => ?_
    have hfr13 := hk13.fr (.o 4 <| .o 1 <| .o 3 <| .n 5 <| .nil)
    clear hst12 hfr12 hk13
    have hst13 := hst13.take 0
    have zq10 := hle12.trans hle13
    have zq11 := zq4.trans zq10
    have zq12 := hle9.trans zq11
    have zq13 := hle8.trans zq12
    have hlh13 := hlh7.trans zq13
    exact ⟨(y + 1, (b + (lsT x18.body : Int))), m13, by show t.arms.length - (y + 1) < t.arms.length - y; omega, ⟨hst13, hlh13, hfr13.sub (.c <| .c <| .c <| .c <| .nil), ⟨by show y + 1 ≤ t.arms.length; omega, by show (b + (lsT x18.body : Int)) + ((zBE t.kind (y + 1) (t.arms.drop (y + 1)) : Nat) : Int) = _; omega, by show 0 ≤ (b + (lsT x18.body : Int)); omega⟩⟩⟩
  ·try simp only [nqs] at hb27
   have hge : y = t.arms.length := by omega
   rw [List.drop_of_length_le (by omega), zBE] at hb_
   refine zk ?_
   refine hK11 _ _ ?_
   refine zB fun _ hK23 => ?_
   refine rp0 hst8 hfr8 (.cons rfl (zD rfl) <| .cons rfl (zC rfl) <| .nil) fun a9 w9 m9 hst9 hle9 hk9 => ?_
   have hfr9 := hk9.fr (.o 3 <| .o 5 <| .o 4 <| .n 2 <| .nil)
   clear hst8 hfr8 hk9
   refine hK23 _ _ ?_
   refine zK ?_
   repeat (with_reducible first | refine zI ?_ | refine zF ?_)
   exact zL hst9 hfr9 rfl (.tmp rfl <| .nil) (by refine congrArg (Value.int _) ?_; omega)
theorem lasts_c (t : Tm) : zDi t := Tm.rec_ (p := zDi) (fun t ihk iha => lasts_s ihk iha) t
end Go.Proofs.YtmdhhjmomilhjaaDoor
namespace Go.Proofs.YtmdhhjmomilhjaaDoor
set_option linter.all false
set_option maxRecDepth 4000
open Go.RowKit
-- clauses that resume last
theorem tl_add : AddC tlC zAC where
 nil := by simp [zAC]
 cons t ts := by rw [zAC]
 bind k s x y _ := by rw [zAg]; show (tlC x + (tlC y + zAC [])) + Zw [] = _; simp [zAC, Zw]
 var s := by rw [zAg]; show zAC [] + Zw [] = 0; simp [zAC, Zw]
theorem ls_add : AddT lsT zBJ := ⟨by simp [zBJ], fun t ts => by rw [zBJ]⟩
theorem z_add : AddT (fun _ => 0) (fun _ => 0) := ⟨rfl, fun _ _ => rfl⟩
theorem arm_tl {k : Int} (hk : k ≠ 14) {g : Gen} : ∀ (l : List Ar) (i n : Nat), (∀ u ∈ l, ∀ n, tlC (g u.body n).1 = lsT u.body) → Zw (zCn g l n) = zBE k i l
 | [], i, n, _ => by simp [zCn, Zw, zBE]
 | t :: ts, i, n, h => by
  have ih := arm_tl hk ts (i + 1) (g t.body n).2 fun u hu => h u (.tail _ hu)
  have e : lsA k i t = 0 := by unfold lsA; rw [if_neg (by simp [hk])]
  rw [zCn, zBX, zCI, ih, e]
  show tlC (g t.body n).1 + tlA ⟨t.name, t.vars, false, (g t.body n).1⟩ + _ = _
  rw [h t (.head _) n]; rfl
theorem arm_tl0 {g : Gen} : ∀ (l : List Ar) (n : Nat), (∀ u ∈ l, ∀ n, tlC (g u.body n).1 = 0) → Zw (zCn g l n) = 0
 | [], n, _ => by simp [zCn, Zw]
 | t :: ts, n, h => by
  rw [zCn, zBX, arm_tl0 ts _ fun u hu => h u (.tail _ hu)]
  show tlC (g t.body n).1 + tlA ⟨t.name, t.vars, false, (g t.body n).1⟩ + 0 = 0
  rw [h t (.head _) n]; rfl
theorem pro_tl0 {g : Gen} : ∀ (l : List Ar) (i n : Nat), (∀ u ∈ l, ∀ n, tlC (g u.body n).1 = 0) → Zw (zCT false g i l n) = 0
 | [], i, n, _ => by simp [zCT, Zw]
 | t :: ts, i, n, h => by
  have hc : zAu false i t = false := by unfold zAu; simp
  rw [zCT, zBX, pro_tl0 ts _ _ fun u hu => h u (.tail _ hu)]
  show tlC (g (Zk false i t) n).1 + tlA ⟨t.name, zCC false i t, zAu false i t, (g (Zk false i t) n).1⟩ + 0 = 0
  unfold Zk; rw [hc]; show tlC (g t.body n).1 + 0 + 0 = 0; rw [h t (.head _) n]
theorem low_tl0 (sel : Bool) : ∀ (f : Nat) (t : Tm) (n : Nat), LwT t → zQ t ≤ f → tlC (zV sel false f t n).1 = 0
 | 0, t, n, _, hc => by have := zp t; omega
 | f + 1, t, n, hl, hc => by
  have hce := zp t
  have hks : ∀ u ∈ t.kids, ∀ n, tlC (zV sel false f u n).1 = 0 := fun u hu n => low_tl0 sel f u n (hl.kid hu) (by have := ZA hu; omega)
  have has : ∀ u ∈ t.arms, ∀ n, tlC (zV sel false f u.body n).1 = 0 := fun u hu n => low_tl0 sel f u.body n (hl.arm hu) (by have := Ze hu; omega)
  rw [show zV sel false (f + 1) t n = ZV sel false (zV sel false f) t n from rfl]
  generalize zV sel false f = g at hks has
  rcases zCz hl with ⟨hk, ⟨x, y, e⟩, e2⟩ | ⟨hk, ⟨x, y, e⟩, e2⟩ | ⟨hk, x, e⟩ | ⟨hk, ⟨x, e⟩, e2⟩ | ⟨hk, e, e2⟩ | hc
  ·rw [body7 hk, zDO e, kid_1 e, tl_add.bind _ _ _ _ (zDB _ _)]; rw [e] at hks
   rw [hks x (.head _) n, hks y (.tail _ (.head _)) _]
  ·rw [body8 hk, zDO e, kid_1 e, zAg]; rw [e] at hks
   show (tlC (g x n).1 + (tlC (g y (g x n).2).1 + zAC [])) + Zw [] = _
   rw [hks x (.head _) n, hks y (.tail _ (.head _)) _]; simp [zAC, Zw]
  ·rw [zCy hk, zDO e, zAg]; rw [e] at hks
   show (tlC (g x n).1 + zAC []) + Zw (zCT false g 0 t.arms (g x n).2) = _
   rw [hks x (.head _) n, pro_tl0 t.arms 0 _ has]; simp [zAC]
  ·rw [body5 hk, zDO e, zAg]; rw [e] at hks
   show (tlC (g x n).1 + zAC []) + Zw [] = _
   rw [hks x (.head _) n]; simp [zAC, Zw]
  ·rw [zEH hk, zAg]; show zAC [] + Zw [] = _; simp [zAC, Zw]
  ·have hk7 : t.kind = 0 ∨ t.kind = 6 ∨ t.kind = 9 ∨ t.kind = 10 ∨ t.kind = 11 ∨ t.kind = 12 ∨ t.kind = 13 := by rcases hc with ⟨h, _⟩ | ⟨h, _⟩ <;> omega
   rw [body_core hk7]
   have h1 := tl_add.core z_add (sel := sel) (n := n) hks
   have h2 : tlC (zBF g t n) = zAC (zBF g t n).kids + Zw (zCn g t.arms (zCt g t n)) := by rw [zAg]; rfl
   rw [arm_tl0 t.arms _ has] at h2
   dsimp only at h1 ⊢; omega
theorem ls_leaf {t : Tm} (h : LwT t) (hk : t.kind = 1) : lsT t = 0 := by
 have h1 := h.here
 rcases zCz h with ⟨h2, _⟩ | ⟨h2, _⟩ | ⟨h2, _⟩ | ⟨h2, _⟩ | ⟨_, e, e2⟩ | ⟨h2, _⟩ | ⟨h2, _⟩
 ·omega
 ·omega
 ·omega
 ·omega
 ·rw [zDy, e, e2]; simp [zBJ, zBE]
 ·omega
 ·omega
theorem ls_last {a : Ar} (h : LwT a.body) (hp : (zAV a).2 = true) : lsT (zAV a).1 = lsT a.body := by
 by_cases hc : zDU a
 ·obtain ⟨h1, h2, h3, h4, h5, h6, h7, h8⟩ := hc
  have e : zAV a = (a.body.kids.getD 1 Zd, true) := zDC ⟨h1, h2, h3, h4, h5, h6, h7, h8⟩ rfl
  rw [e]
  obtain ⟨x, y, e3⟩ : ∃ x y, a.body.kids = [x, y] := by
   match a.body.kids, h4 with
   | [x, y], _ => exact ⟨x, y, rfl⟩
  rw [zDy a.body]
  have ha : a.body.arms = [] := by
   rcases h.here with h9 | h9
   ·exact h9.2 (by omega) (by omega)
   ·exact h9.2.2.2
  rw [e3] at h6
  have hx : lsT x = 0 := ls_leaf (h.kid (by rw [e3]; exact .head _)) h6
  rw [e3, ha]
  show lsT y = (lsT x + (lsT y + zBJ [])) + zBE a.body.kind 0 []
  rw [hx]; simp [zBJ, zBE]
 ·rw [zAH hc] at hp; cases hp
theorem pro_tl {g : Gen} : ∀ (l : List Ar) (i n : Nat), (∀ u ∈ l, LwT u.body) → (∀ u ∈ l, ∀ i n, tlC (g (Zk true i u) n).1 = lsT (Zk true i u)) → Zw (zCT true g i l n) = zBE 14 i l
 | [], i, n, _, _ => by simp [zCT, Zw, zBE]
 | t :: ts, i, n, hL, h => by
  have ih := pro_tl ts (i + 1) (g (Zk true i t) n).2 (fun u hu => hL u (.tail _ hu)) fun u hu => h u (.tail _ hu)
  rw [zCT, zBX, zCI, ih]
  show tlC (g (Zk true i t) n).1 + tlA ⟨t.name, zCC true i t, zAu true i t, (g (Zk true i t) n).1⟩ + _ = _
  rw [h t (.head _) i n]
  by_cases hc : zAu true i t = true
  ·have h2 : (zAV t).2 = true ∧ 0 < i := by unfold zAu at hc; simpa using hc
   have e1 : Zk true i t = (zAV t).1 := by unfold Zk; rw [if_pos hc]
   have e2 : zCC true i t = t.vars.take 1 := by unfold zCC; rw [if_pos hc]
   have e3 : lsA 14 i t = 1 := by unfold lsA; rw [if_pos (by simp [h2.1, h2.2])]
   have e4 := last_two h2.1
   rw [e1, e2, e3, hc, ls_last (hL t (.head _)) h2.1]
   show lsT t.body + tlA ⟨t.name, t.vars.take 1, true, _⟩ + _ = _
   rw [show tlA ⟨t.name, t.vars.take 1, true, (g (zAV t).1 n).1⟩ = 1 from by unfold tlA; show (if true = true then if (t.vars.take 1).length = 1 then 1 else 1000001 else 0) = 1; rw [if_pos rfl, if_pos (by rw [List.length_take]; omega)]]
  ·have hcf : zAu true i t = false := by simpa using hc
   have e1 : Zk true i t = t.body := by unfold Zk; rw [hcf]; rfl
   have e3 : lsA 14 i t = 0 := by unfold lsA; unfold zAu at hcf; rw [if_neg (by simp at hcf ⊢; exact hcf)]
   rw [e1, e3, hcf]; rfl
theorem low_tl (sel : Bool) : ∀ (f : Nat) (t : Tm) (n : Nat), LwT t → zQ t ≤ f → tlC (zV sel true f t n).1 = lsT t
 | 0, t, n, _, hc => by have := zp t; omega
 | f + 1, t, n, hl, hc => by
  have hce := zp t
  have hks : ∀ u ∈ t.kids, ∀ n, tlC (zV sel true f u n).1 = lsT u := fun u hu n => low_tl sel f u n (hl.kid hu) (by have := ZA hu; omega)
  have has : ∀ u ∈ t.arms, ∀ n, tlC (zV sel true f u.body n).1 = lsT u.body := fun u hu n => low_tl sel f u.body n (hl.arm hu) (by have := Ze hu; omega)
  have hps : ∀ a ∈ t.arms, ∀ i n, tlC (zV sel true f (Zk true i a) n).1 = lsT (Zk true i a) := fun a ha i n => by
   have h1 := pro_low (tl := true) (i := i) (hl.arm ha)
   exact low_tl sel f (Zk true i a) n h1.1 (by have := Ze ha; omega)
  rw [show zV sel true (f + 1) t n = ZV sel true (zV sel true f) t n from rfl]
  generalize zV sel true f = g at hks has hps
  rw [zDy]
  rcases zCz hl with ⟨hk, ⟨x, y, e⟩, e2⟩ | ⟨hk, ⟨x, y, e⟩, e2⟩ | ⟨hk, x, e⟩ | ⟨hk, ⟨x, e⟩, e2⟩ | ⟨hk, e, e2⟩ | hc
  ·rw [body7 hk, zDO e, kid_1 e, tl_add.bind _ _ _ _ (zDB _ _), e, e2]; rw [e] at hks
   rw [hks x (.head _) n, hks y (.tail _ (.head _)) _]; simp [zBJ, zBE]
  ·rw [body8 hk, zDO e, kid_1 e, zAg, e, e2]; rw [e] at hks
   show (tlC (g x n).1 + (tlC (g y (g x n).2).1 + zAC [])) + Zw [] = _
   rw [hks x (.head _) n, hks y (.tail _ (.head _)) _]; simp [zAC, Zw, zBJ, zBE]
  ·rw [zCy hk, zDO e, zAg, e, hk]; rw [e] at hks
   show (tlC (g x n).1 + zAC []) + Zw (zCT true g 0 t.arms (g x n).2) = _
   rw [hks x (.head _) n, pro_tl t.arms 0 _ (fun u hu => hl.arm hu) hps]; simp [zAC, zBJ]
  ·rw [body5 hk, zDO e, zAg, e, e2]; rw [e] at hks
   show (tlC (g x n).1 + zAC []) + Zw [] = _
   rw [hks x (.head _) n]; simp [zAC, Zw, zBJ, zBE]
  ·rw [zEH hk, zAg, e, e2]; show zAC [] + Zw [] = _; simp [zAC, Zw, zBJ, zBE]
  ·have hk7 : t.kind = 0 ∨ t.kind = 6 ∨ t.kind = 9 ∨ t.kind = 10 ∨ t.kind = 11 ∨ t.kind = 12 ∨ t.kind = 13 := by rcases hc with ⟨h, _⟩ | ⟨h, _⟩ <;> omega
   rw [body_core hk7]
   have h1 := tl_add.core ls_add (sel := sel) (n := n) hks
   have h2 : tlC (zBF g t n) = zAC (zBF g t n).kids + Zw (zCn g t.arms (zCt g t n)) := by rw [zAg]; rfl
   rw [arm_tl (k := t.kind) (by omega) t.arms 0 _ has] at h2
   dsimp only at h1 ⊢; omega
theorem lsT_count (t : Tm) : lsT t + 1 ≤ 2 * zQ t := by
 induction t using Tm.rec_ with
 | h t ihk iha =>
  have hk : ∀ l : List Tm, (∀ u ∈ l, u ∈ t.kids) → zBJ l ≤ 2 * zS l := by
   intro l
   induction l with
   | nil => intro _; simp [zBJ]
   | cons u l ih => intro hl; rw [zBJ, zS]; have := ihk u (hl u (.head _)); have := ih (fun u hu => hl u (.tail _ hu)); omega
  have ha : ∀ (l : List Ar) (i : Nat), (∀ u ∈ l, u ∈ t.arms) → zBE t.kind i l ≤ 2 * zq l := by
   intro l
   induction l with
   | nil => intro i _; simp [zBE]
   | cons u l ih =>
    intro i hl
    have h1 := iha u (hl u (.head _)); have h2 := ih (i + 1) (fun u hu => hl u (.tail _ hu))
    have h3 : lsA t.kind i u ≤ 1 := by unfold lsA; split <;> omega
    rw [zCI, z6]; omega
  rw [zDy, zp]
  have := hk t.kids (fun _ h => h); have := ha t.arms 0 (fun _ h => h)
  omega
end Go.Proofs.YtmdhhjmomilhjaaDoor
namespace Go.Proofs.YtmdhhjmomilhjaaDoor
open Go.Proofs.Tryd
set_option linter.all false
set_option maxRecDepth 4000
open Go.RowKit
set_option maxHeartbeats 1600000 in
theorem lowerTails_c {w : World} {m : Mem} {p : Pg} {vs_p : List Value} {n : Int} {o_rl : Option Addr} {c_rl : Nat} {rl : List Rw} {sel : Bool} (hA : Agree w m) (h_p : PgR m p vs_p) (h_rl : Rws m o_rl rl.length c_rl rl) (hT : Tab w) (hbo : zAv p.effects ≤ 1000000000) (hbc : consN p.datas ≤ 1000000000) (hbd : p.datas.length ≤ 1000000000) (hB : ZB p.body ≤ 2100000) : FnV Tryd.prog 6 #[.agg vs_p.toArray, .int .i64 n, .slice o_rl rl.length c_rl, .bool sel] w m (fun _ _ v => v = .bool true) := by
 obtain ⟨oE_p, cE_p, oD_p, cD_p, bs_p, rfl, hef_p, hda_p, hpb_p⟩ := id h_p
 have hbe_p := hef_p.big; have hce_p := hef_p.cap; have hbda_p := hda_p.big; have hcd_p := hda_p.cap
 obtain ⟨⟨oK_pb, cK_pb, oA_pb, cA_pb, oR_pb, cR_pb, t0_pb, t1_pb, t2_pb, t3_pb, t4_pb, t5_pb, u0_pb, u1_pb, u2_pb, u3_pb, u4_pb, u5_pb⟩, rfl, hon_pb, hkk_pb, haa_pb, hrr_pb⟩ := hpb_p.open_
 dsimp only at hkk_pb haa_pb hrr_pb
 have hbg_pb := hkk_pb.big; have hcp_pb := hkk_pb.cap; have hbh_pb := haa_pb.big; have hcq_pb := haa_pb.cap
 have hb_rl := h_rl.big; have hc_rl := h_rl.cap
 refine zX (vs := [_, _, _, _]) func6 rfl rfl rfl fun a0 hfr0 => ?_
 have hst0 := zW hA (zj [] _ w m)
 have hM : MLe m m := MLe.refl m
 refine zB fun _ hK1 => ?_
 refine rp0 hst0 hfr0 (.cons rfl (zw rfl rfl) <| .cons rfl (zC rfl) <| .nil) fun a1 w1 m1 hst1 hle1 hk1 => ?_
 have hfr1 := hk1.fr (.o 1 <| .o 2 <| .o 3 <| .nil)
 obtain ⟨g2, e2, hc4⟩ := hk1.ex 4 rfl
 replace hfr1 := hfr1.cons e2
 replace h_p := h_p.mono hle1
 replace h_rl := h_rl.mono hle1
 clear hst0 hfr0 hk1
 refine hK1 _ _ ?_
 refine zB fun _ hK3 => ?_
 refine rp0 hst1 hfr1 (.cons rfl (ze rfl (.nil) call9 (fun w m hK => by have hle_ := KC.le hK; have hA := KC.agree hK; have hT := zBt hT hK.st.ext; exact shown_c hA hT)) <| .cons rfl (zC rfl) <| .nil) fun a2 w2 m2 hst2 hle2 hk2 => ?_
 have hfr2 := hk2.fr (.o 1 <| .o 2 <| .o 3 <| .o 4 <| .n 9 <| .nil)
 replace h_p := h_p.mono hle2
 replace h_rl := h_rl.mono hle2
 replace hc4 := hc4.mono hle2
 clear hst1 hfr1 hk2
 refine hK3 _ _ ?_
 refine zB fun _ hK4 => ?_
 refine zu 4 (by kernel_rfl) ?_
 refine zg (tch := []) hst2 hfr2 (by kernel_rfl) (by kernel_rfl) (by kernel_rfl) (.cons rfl (zN rfl hc4 isAgg35 sizeOf35 rfl rfl) <| .cons rfl (zD rfl) <| .cons rfl (zD rfl) <| .cons rfl (zm (φ := MP.someV 2100000) rfl (.cons rfl <| .cons rfl <| .cons rfl <| .nil) call10 (fun w m hK => by have hle_ := KC.le hK; have hA := KC.agree hK; have h_p := h_p.mono hle_; have h_rl := h_rl.mono hle_; exact FnG.mono (some_c hA h_p h_rl hbo hbc hbd hB) fun _ _ _ _ h => h)) <| .nil) fun a3 w3 m3 hst3 hle3 hk3 => ?_
 have hfr3 := hk3.fr (.o 1 <| .o 2 <| .o 3 <| .o 4 <| .o 9 <| .nil)
 obtain ⟨⟨⟨xt, yt⟩, bt⟩, e5, ht, hlw, hct, hbt, hcl⟩ := hk3.ex 19 rfl
 replace hfr3 := hfr3.cons e5
 clear hst2 hfr2 hk3
 dsimp only at ht hlw hct hbt hcl
 replace hst3 := hst3.more (r := .free) trivial List.nodup_nil (by simp [Res.blocks])
 refine zg (tch := [(3, 0, (fun v => .blk v _)), (4, 0, (fun v => .blk v _))]) hst3 hfr3 (by kernel_rfl) (by kernel_rfl) (by kernel_rfl) (.cons rfl (zD rfl) <| .cons rfl (zT rfl rfl) <| .cons rfl (zT rfl rfl) <| .consT rfl rfl (fun _ => rfl) rfl (zP zeroValue33 rfl) <| .consT rfl rfl (fun _ => rfl) rfl (zU 10 rfl rfl rfl fun y10 => zc rfl rfl rfl rfl rfl sizeOf33 rfl rfl ht.one) <| .cons rfl (zC rfl) <| .nil) fun a4 w4 m4 hst4 hle4 hk4 => ?_
 have hfr4 := hk4.fr (.o 1 <| .o 2 <| .o 3 <| .o 4 <| .o 9 <| .o 19 <| .n 11 <| .nil)
 obtain ⟨g6, e6, _⟩ := hk4.ex 10 rfl
 replace hfr4 := hfr4.cons e6
 replace hst4 := hst4.fin (L' := [_]) (.cons e6 <| .cons e6 <| .nil)
 try simp only [List.take_succ_cons, List.take_zero, List.drop_succ_cons, List.drop_zero, List.cons_append, List.nil_append, List.append_nil, List.length_cons, List.length_nil, Nat.zero_add, Nat.reduceAdd] at hst4
 replace ht := ht.mono hle4
 clear hst3 hfr3 hk4
 refine hK4 _ _ ?_
 refine zB fun _ hK7 => ?_
 refine zB fun _ hK8 => ?_
 refine rp0 hst4 hfr4 (.cons rfl (zD rfl) <| .cons rfl (Z0 rfl) <| .nil) fun a5 w5 m5 hst5 hle5 hk5 => ?_
 have hfr5 := hk5.fr (.o 3 <| .o 9 <| .o 10 <| .n 23 <| .nil)
 replace ht := ht.mono hle5
 clear hst4 hfr4 hk5
 refine hK8 _ _ ?_
 refine zG hfr5 rfl rfl (fun hb23 => ?_) (fun hb23 => ?_)
 ·try simp only [nqs] at hb23
  refine zB fun _ hK9 => ?_
  refine rp0 hst5 hfr5 (.cons rfl (zD rfl) <| .cons rfl (zC rfl) <| .nil) fun a6 w6 m6 hst6 hle6 hk6 => ?_
  have hfr6 := hk6.fr (.n 8 <| .nil)
  clear hst5 hfr5 hk6
  refine hK9 _ _ ?_
  refine zK ?_
  repeat (with_reducible first | refine zI ?_ | refine zF ?_)
  exact zL hst6 hfr6 rfl (.tmp rfl <| .nil) (rfl)
 ·try simp only [nqs] at hb23
  refine zJ ?_
  refine hK7 _ _ ?_
  refine zB fun _ hK11 => ?_
  refine zu 4 (by kernel_rfl) ?_
  refine zg (tch := []) hst5 hfr5 (by kernel_rfl) (by kernel_rfl) (by kernel_rfl) (.cons rfl (zb (j := 0) rfl rfl isAgg33 sizeOf33 rfl) <| .cons rfl (zD rfl) <| .cons rfl (zr (.cons rfl <| .cons rfl <| .nil) underlying38 zeroValue38 (.cons sizeOf4 <| .cons sizeOf4 <| .nil) rfl) <| .cons rfl (zm (φ := MP.cd (zEW sel true xt)) rfl (.cons rfl <| .cons rfl <| .nil) call12 (fun w m hK => by have hle_ := KC.le hK; have hA := KC.agree hK; have hT := zBt hT hK.st.ext; have ht := ht.mono hle_; exact FnG.mono (lower_c (t := xt) (sel := sel) (tl := true) hA ht hT hlw (by omega) (by omega)) fun _ _ _ _ h => h)) <| .nil) fun a6 w6 m6 hst6 hle6 hk6 => ?_
  have hfr6 := hk6.fr (.o 3 <| .o 9 <| .o 10 <| .nil)
  obtain ⟨y28, e12, hy28⟩ := hk6.ex 28 rfl
  replace hfr6 := hfr6.cons e12
  clear hst5 hfr5 hk6
  replace hst6 := hst6.more (r := .free) trivial List.nodup_nil (by simp [Res.blocks])
  refine zg (tch := [(0, 1, (fun v => .blk v _)), (1, 1, (fun v => .blk v _))]) hst6 hfr6 (by kernel_rfl) (by kernel_rfl) (by kernel_rfl) (.consT rfl rfl (fun _ => rfl) rfl (zP zeroValue46 rfl) <| .consT rfl rfl (fun _ => rfl) rfl (zU 12 rfl rfl rfl fun y12 => zc rfl rfl rfl rfl rfl sizeOf46 rfl rfl hy28.one) <| .nil) fun a7 w7 m7 hst7 hle7 hk7 => ?_
  have hfr7 := hk7.fr (.o 3 <| .o 9 <| .o 10 <| .o 28 <| .nil)
  obtain ⟨g13, e13, _⟩ := hk7.ex 12 rfl
  replace hfr7 := hfr7.cons e13
  replace hst7 := hst7.fin (L' := [_, _]) (.cons e13 <| .cons e13 <| .nil)
  try simp only [List.take_succ_cons, List.take_zero, List.drop_succ_cons, List.drop_zero, List.cons_append, List.nil_append, List.append_nil, List.length_cons, List.length_nil, Nat.zero_add, Nat.reduceAdd] at hst7
  clear hst6 hfr6 hk7
  refine hK11 _ _ ?_
  refine zB fun _ hK14 => ?_
  refine zu 4 (by kernel_rfl) ?_
  have zq1 := hle6.trans hle7
  replace ht := ht.mono zq1
  refine zg (tch := []) hst7 hfr7 (by kernel_rfl) (by kernel_rfl) (by kernel_rfl) (.cons rfl (zb (j := 0) rfl rfl isAgg33 sizeOf33 rfl) <| .cons rfl (zD rfl) <| .cons rfl (zr (.cons rfl <| .nil) underlying38 zeroValue38 (.cons sizeOf4 <| .cons sizeOf4 <| .nil) rfl) <| .cons rfl (zm (φ := MP.cd (zEW sel false xt)) rfl (.cons rfl <| .cons rfl <| .nil) call12 (fun w m hK => by have hle_ := KC.le hK; have hA := KC.agree hK; have hT := zBt hT hK.st.ext; have ht := ht.mono hle_; exact FnG.mono (lower_c (t := xt) (sel := sel) (tl := false) hA ht hT hlw (by omega) (by omega)) fun _ _ _ _ h => h)) <| .nil) fun a8 w8 m8 hst8 hle8 hk8 => ?_
  have hfr8 := hk8.fr (.o 3 <| .o 9 <| .o 10 <| .o 28 <| .o 12 <| .nil)
  obtain ⟨y32, e15, hy32⟩ := hk8.ex 32 rfl
  replace hfr8 := hfr8.cons e15
  clear hst7 hfr7 hk8
  replace hst8 := hst8.more (r := .free) trivial List.nodup_nil (by simp [Res.blocks])
  refine zg (tch := [(0, 2, (fun v => .blk v _)), (1, 2, (fun v => .blk v _))]) hst8 hfr8 (by kernel_rfl) (by kernel_rfl) (by kernel_rfl) (.consT rfl rfl (fun _ => rfl) rfl (zP zeroValue46 rfl) <| .consT rfl rfl (fun _ => rfl) rfl (zU 13 rfl rfl rfl fun y13 => zc rfl rfl rfl rfl rfl sizeOf46 rfl rfl hy32.one) <| .nil) fun a9 w9 m9 hst9 hle9 hk9 => ?_
  have hfr9 := hk9.fr (.o 3 <| .o 9 <| .o 10 <| .o 28 <| .o 12 <| .o 32 <| .nil)
  obtain ⟨g16, e16, _⟩ := hk9.ex 13 rfl
  replace hfr9 := hfr9.cons e16
  replace hst9 := hst9.fin (L' := [_, _, _]) (.cons e16 <| .cons e16 <| .nil)
  try simp only [List.take_succ_cons, List.take_zero, List.drop_succ_cons, List.drop_zero, List.cons_append, List.nil_append, List.append_nil, List.length_cons, List.length_nil, Nat.zero_add, Nat.reduceAdd] at hst9
  clear hst8 hfr8 hk9
  refine hK14 _ _ ?_
  refine zB fun _ hK17 => ?_
  have hl1 : tlC (zEW sel true xt) = lsT xt := low_tl sel _ xt 0 hlw (Nat.le_refl _)
  have hl2 : tlC (zEW sel false xt) = 0 := low_tl0 sel _ xt 0 hlw (Nat.le_refl _)
  have hl3 := lsT_count xt
  have zq2 := hle8.trans hle9
  have zq3 := hle7.trans zq2
  replace hy28 := hy28.mono zq3
  replace ht := ht.mono zq2
  replace hy32 := hy32.mono hle9
  refine ZC (fun _ => mixed) hst9 hfr9 (by kernel_rfl) (by kernel_rfl) (.cons rfl (zD rfl) <| .cons rfl (zD rfl) <| .cons rfl (zb (j := 1) rfl rfl isAgg46 sizeOf46 rfl) <| .cons rfl (ze rfl (.cons rfl <| .nil) call24 (fun w m hK => by have hle_ := KC.le hK; have hA := KC.agree hK; have hy28 := hy28.mono hle_; exact tails_c (zEW sel true xt) hA hy28 (by omega))) <| .cons rfl (zb (j := 0) rfl rfl isAgg33 sizeOf33 rfl) <| .cons rfl (ze rfl (.cons rfl <| .nil) call25 (fun w m hK => by have hle_ := KC.le hK; have hA := KC.agree hK; have ht := ht.mono hle_; exact lasts_c xt hA ht (by omega) (by omega))) <| .cons rfl (za rfl rfl) <| .cons rfl (ZS rfl rfl rfl) <| .cons rfl (zD rfl) <| .cons rfl (zb (j := 2) rfl rfl isAgg46 sizeOf46 rfl) <| .cons rfl (ze rfl (.cons rfl <| .nil) call24 (fun w m hK => by have hle_ := KC.le hK; have hA := KC.agree hK; have hy32 := hy32.mono hle_; exact tails_c (zEW sel false xt) hA hy32 (by omega))) <| .cons rfl (za rfl rfl) <| .cons rfl (ZS rfl rfl rfl) <| .cons rfl (zC rfl) <| .nil) fun a10 w10 m10 hst10 hle10 hk10 => ?_
  have hfr10 := hk10.fr (.n 8 <| .nil)
  clear hst9 hfr9 hk10
  refine hK17 _ _ ?_
  refine zK ?_
  repeat (with_reducible first | refine zI ?_ | refine zF ?_)
  exact zL hst10 hfr10 rfl (.tmp rfl <| .nil) (by refine congrArg Value.bool ?_; simp [hl1, hl2])
end Go.Proofs.YtmdhhjmomilhjaaDoor
namespace Go.Proofs.YtmdhhjmomilhjaaDoor
set_option linter.all false
open Go.RowKit Go.WideShapes Go.ChangeShapes Go.Deep Go.WideElems Go.ChangeAt Go.ChangeMaps
def zBK (W : World) : Mem := ⟨fun b o => W.cell? ⟨b, o, none⟩, fun b => match W.heap[b]? with | some (.map es cl) => some (es, cl) | _ => none⟩
theorem agree_snap (W : World) : Agree W (zBK W) := ⟨fun _ _ _ h => h, fun b es h => by
 change (match W.heap[b]? with | some (.map es cl) => some (es, cl) | _ => none) = some es at h
 split at h
 ·rename_i ents cl he
  injection h with h
  subst h; exact he
 ·cases h⟩
theorem cell_spot {W : World} {a : Addr} {v : Value} (h : W.cell? a = some v) : a.spot = none := by
 unfold World.cell? at h
 split at h
 ·split at h
  ·cases h
  ·rename_i hs; cases e : a.spot with
   | none => rfl
   | some x => rw [e] at hs; exact absurd rfl hs
 ·cases h
theorem snap_of {W : World} {a : Addr} {v : Value} (h : W.cell? a = some v) : zBK W a.block a.off = some v := by
 have := cell_spot h
 show W.cell? ⟨a.block, a.off, none⟩ = some v
 rw [← h]; congr 1
 cases a; simp only at this; subst this; rfl
theorem cellsAt_snap {W : World} {base : Nat} {a : Addr} {n : Nat} {cs : List Value} (h : W.cells? base a n = some cs) (hn : 0 < n) : CellsAt (zBK W) a cs ∧ cs.length = n := by
 obtain ⟨_, hl, hat⟩ := World.cells?_some h
 have h0 := hat 0 hn
 have e0 : a.add 0 = a := by unfold Addr.add; rfl
 rw [e0, List.getElem?_eq_getElem (by omega)] at h0
 refine ⟨⟨cell_spot h0, fun i v e => ?_⟩, hl⟩
 have hi : i < n := by have := (List.getElem?_eq_some_iff.1 e).1; omega
 have := hat i hi
 rw [e] at this
 have := snap_of this
 rwa [zCH, zDk] at this
section
variable {H : Type} {enc : TypeId × Value → H} {P : Program} {W : World} {base : Nat} {spare : Nat → Bool} {held : Bool}
theorem open_I {r : Reach} {b0 : Nat} {t : TypeId} {v : Value} {d : DataW H} {ps : List MemPlace} (ht : P.underlying t = some (.int .i64)) (hval : Value.okWide P W r b0 t v) (hd : DataW.Trod enc P W base spare held t v d ps) :
  ∃ n : Int, v = .int .i64 n ∧ Z9 n := by
 obtain ⟨n, rfl, _, _, hs⟩ := open_int ht hval hd
 simp only [Lit.wf, Bool.and_eq_true, decide_eq_true_eq] at hs
 have h1 : IntKind.i64.min = -9223372036854775808 := by decide
 have h2 : IntKind.i64.max = 9223372036854775807 := by decide
 exact ⟨n, rfl, by omega, by omega⟩
theorem zCM (hl : laidOutB P = true) {W' : World} {sp : Nat → Bool} : ∀ {ts : List TypeId} {vs : List Value} {ds : List (DataW H)} {ps : List MemPlace}, (ts.all fun t => P.readableRec t && decide (t < P.types.size)) = true →
  DataW.TrodAll enc P W base (fun _ => true) true ts vs ds ps → (∀ p ∈ ps, W.sameAt W' p) → (∀ p ∈ ps, sp p.block = true) → DataW.TrodAll enc P W' base sp true ts vs ds ps
 | [], vs, ds, ps, _, h, _, _ => by
  obtain ⟨rfl, rfl, rfl⟩ := trodAll_nil h
  exact rfl
 | t :: ts, vs, ds, ps, hts, h, h1, h2 => by
  obtain ⟨v, vs', d, ds', p, q, rfl, rfl, rfl, hd, hr⟩ := trodAll_cons h
  simp only [List.all_cons, Bool.and_eq_true, decide_eq_true_eq] at hts
  obtain ⟨⟨hr1, hr2⟩, hts'⟩ := hts
  exact ⟨p, q, Trod_stays hl hr1 hr2 hd (fun x hx => h1 x (List.mem_append_left _ hx)) (fun x hx => h2 x (List.mem_append_left _ hx)),
   zCM hl hts' hr (fun x hx => h1 x (List.mem_append_right _ hx)) (fun x hx => h2 x (List.mem_append_right _ hx)), rfl⟩
theorem post_law {f : Func} {s : ChangeSpec} {W' : World} {m' : Mem} {args : Array Value} {ds : List (DataW H)} {gs : List (DataW H)} {before : List MemPlace} {t : TypeId}
  (hl : laidOutB P = true) (hts : (f.params.toList.all fun t => P.readableRec t && decide (t < P.types.size)) = true) (hvs : s.vars = []) (hres : f.resultTypes = #[t]) (ht : P.underlying t = some .bool)
  (hfn : s.fn H (ds ++ gs) = { results := [.lit (.bool true)], args := ds }) (hW : DataW.Whole enc P f.params.toList s.vars false W args.toList ds gs before) (hx : ExtG [] W (zBK W) W' m') :
  s.post enc P f false true false false W args (.bool true) W' := by
 have hb := hx.below
 have hlt : ∀ p ∈ before, p.block < W.heap.size := fun p hp => hW.lt p hp
 have hold : ∀ p ∈ before, (fun b => decide (b < W.heap.size)) p.block = true := fun p hp => by simpa using hlt p hp
 have hsame : ∀ p ∈ before, W.sameAt W' p := fun p hp => hb.same (hlt p hp)
 have hW0 := hW
 obtain ⟨pa, pv, hA, hV, hps, hz, hn⟩ := hW
 rw [hvs] at hV
 obtain ⟨rfl, rfl⟩ := trodVars_none hV
 rw [List.append_nil] at hps
 subst hps
 have hres' : ∀ (b : Nat) (sp : Nat → Bool) (hd : Bool), DataW.TrodAll enc P W' b sp hd f.resultTypes.toList ((Value.bool true).resultList f.resultTypes.size) (s.fn H (ds ++ [])).results [] := fun b sp hd => by
  rw [hfn, hres]
  exact trodAll_mk1 ⟨1, by simp [DataW.trod, Value.cells, ht]⟩
 have hargs : ∀ sp : Nat → Bool, (∀ p ∈ before, sp p.block = true) → DataW.TrodAll enc P W' 0 sp true f.params.toList args.toList (s.fn H (ds ++ [])).args before := fun sp hsp => by
  rw [hfn]; exact zCM hl hts hA hsame hsp
 have hvars : ∀ sp : Nat → Bool, DataW.TrodVars enc P W' sp s.vars (s.fn H (ds ++ [])).vars [] := fun sp => by
  rw [hvs, hfn]; exact rfl
 refine ⟨ds, [], before, [], before, [], hW0, hres' _ _ _, hargs _ hold, hvars _, World.keptBut_mono (fun p hp => ⟨hp, ?_⟩) (hb.frame (· ∈ before)), fun _ => ?_⟩
 ·exact Or.inr (Or.inl hp)
 ·refine ⟨ok_one hres rfl (okWide_bool_mk ht true), _, _, ([] ++ before) ++ [], ⟨[] ++ before, [], trodAll_append (hargs _ (fun _ _ => rfl)) (hres' _ _ _), hvars _, rfl, ?_, ?_⟩, ?_⟩
  ·intro b off hp
   have hin : MemPlace.cell b off ∈ before := by simpa using hp
   rw [hb.frozen (hlt _ hin)]
   exact hz b off hin
  ·intro ha
   have := hn ha
   simpa using this
  ·intro p hp _
   simpa using hp
end
end Go.Proofs.YtmdhhjmomilhjaaDoor
namespace Go.Proofs.YtmdhhjmomilhjaaDoor
set_option linter.all false
open Go.RowKit Go.WideShapes Go.ChangeShapes Go.Deep Go.WideElems Go.ChangeAt Go.ChangeMaps
section
variable {H : Type} {enc : TypeId × Value → H} {P : Program} {W : World} {base : Nat} {spare : Nat → Bool} {held : Bool}
theorem bulk_mem {d : DataW H} : ∀ {l : List (DataW H)}, d ∈ l → Rows.uptoBulk d ≤ Rows.uptoBulkAll l
 | x :: l, h => by
  rw [Rows.uptoBulkAll]
  rcases List.mem_cons.1 h with rfl | h
  ·omega
  ·have := bulk_mem h; omega
theorem zAn (d : DataW H) : 1 ≤ Rows.uptoBulk d := by
 cases d with
 | lit l => cases l <;> simp [Rows.uptoBulk]
 | _ => simp [Rows.uptoBulk]
theorem bulk_app : ∀ (l r : List (DataW H)), Rows.uptoBulkAll (l ++ r) = Rows.uptoBulkAll l + Rows.uptoBulkAll r
 | [], r => by simp [Rows.uptoBulkAll]
 | x :: l, r => by simp only [List.cons_append, Rows.uptoBulkAll, bulk_app l r]; omega
theorem zAP {α : Type} {R : Mem → List Value → α → Prop} {β : α → Nat} {t e : TypeId} {sz fuel : Nat} {cs : List Value} {x : DataW H × List MemPlace} (B : Nat) (ht : P.underlying t = some (.slice e)) (hc : P.cellsOf e = sz) (hsz : 0 < sz)
  (hR : ∀ n cs (x : DataW H × List MemPlace), Rows.uptoBulk x.1 < B → DataW.trod enc P W base spare held n e cs = some x → cs.length = sz → ∃ a : α, R (zBK W) cs a ∧ β a ≤ Rows.uptoBulk x.1)
  (h : DataW.trod enc P W base spare held fuel t cs = some x) (hB : Rows.uptoBulk x.1 ≤ B) :
  ∃ o n c l, cs = [.slice o n c] ∧ Sl R sz (zBK W) o n c l ∧ c ≤ maxLen ∧ (l.map β).sum + 1 ≤ Rows.uptoBulk x.1 := by
 rcases open_slice ht h with ⟨rfl, rfl⟩ | ⟨a, len, cap, m, n, D, Pl, rfl, hb, hl, hm, hmm, rfl, hi⟩
 ·exact ⟨none, 0, 0, [], rfl, ⟨rfl, Nat.le_refl _, Nat.zero_le _, fun i x hx => by simp at hx⟩, Nat.zero_le _, by simp [Rows.uptoBulk]⟩
 ·have hlm : len ≤ m := by rw [hmm]; split <;> omega
  simp only [Rows.uptoBulk] at hB ⊢
  have key : ∀ k, k ≤ len → ∃ l : List α, l.length = k ∧ (l.map β).sum ≤ Rows.uptoBulkAll ((List.range k).map D) ∧ ∀ i x, l[i]? = some x → ∃ vs, CellsAt (zBK W) (a.add (i * sz)) vs ∧ vs.length = sz ∧ R (zBK W) vs x := by
   intro k
   induction k with
   | zero => intro _; exact ⟨[], rfl, by simp, fun i x hx => by simp at hx⟩
   | succ k ih =>
    intro hk
    obtain ⟨l, hl1, hl0, hl2⟩ := ih (by omega)
    obtain ⟨cs', hcs, htr⟩ := hi k (by omega)
    rw [hc] at hcs
    obtain ⟨h1, h2⟩ := cellsAt_snap hcs hsz
    have hD : Rows.uptoBulk (D k) ≤ Rows.uptoBulkAll ((List.range len).map D) := bulk_mem (List.mem_map.2 ⟨k, List.mem_range.2 (by omega), rfl⟩)
    obtain ⟨y, hy, hβ⟩ := hR n cs' _ (by simp only; omega) htr h2
    refine ⟨l ++ [y], by simp [hl1], ?_, fun i x hx => ?_⟩
    ·simp only [List.range_succ, List.map_append, bulk_app, List.sum_append, List.map_cons, List.map_nil, List.sum_cons, List.sum_nil, Rows.uptoBulkAll] at hβ ⊢; omega
    rw [List.getElem?_append] at hx
    split at hx
    ·exact hl2 i x hx
    ·have hik : i = k := by
      have := (List.getElem?_eq_some_iff.1 hx).1
      simp at this; omega
     subst hik
     rw [hl1, Nat.sub_self] at hx
     simp only [List.getElem?_cons_zero, Option.some.injEq] at hx
     subst hx
     exact ⟨cs', h1, h2, hy⟩
  obtain ⟨l, hl1, hl0, hl2⟩ := key len (Nat.le_refl _)
  refine ⟨some a, len, cap, l, rfl, ⟨hl1, hl, ?_, fun i x hx => ?_⟩, hm, by omega⟩
  ·simp only [maxLen] at hm; omega
  ·obtain ⟨vs, h1, h2, h3⟩ := hl2 i x hx
   exact ⟨a, vs, rfl, h1, h2, h3⟩
theorem ZY {e : TypeId} {fs : Array Field} {fuel : Nat} {cs : List Value} {x : DataW H × List MemPlace} (he : P.underlying e = some (.struct fs)) (h : DataW.trod enc P W base spare held fuel e cs = some x) :
  ∃ (n : Nat) (ys : List (DataW H × List MemPlace)), ys.length = fs.size ∧ Rows.uptoBulk x.1 = Rows.uptoBulkAll (ys.map (·.1)) + 1 ∧ cs.length = P.cellsOf e ∧
   ∀ (i : Nat) (f : Field), fs[i]? = some f → ∃ y, ys[i]? = some y ∧ DataW.trod enc P W base spare held n f.type ((cs.drop f.offset).take (P.cellsOf f.type)) = some y := by
 obtain ⟨xs, n, rfl, rfl, hl, hx, hf⟩ := DataW.trod_struct he h
 refine ⟨n, xs, hx, by simp [Rows.uptoBulk], hl, fun i f hi => ?_⟩
 have h1 : i < fs.size := (Array.getElem?_eq_some_iff.1 hi).1
 have h2 : xs[i]? = some (xs[i]'(by omega)) := List.getElem?_eq_getElem (by omega)
 exact ⟨_, h2, (hf i f hi).trans h2⟩
theorem zBD {t : TypeId} {n : Nat} {cs : List Value} {x : DataW H × List MemPlace} (ht : P.underlying t = some (.int .i64)) (h : DataW.trod enc P W base spare held n t cs = some x) : ∃ k : Int, cs = [.int .i64 k] ∧ Z9 k ∧ Rows.uptoBulk x.1 = 1 := by
 obtain ⟨k, e, rfl, hs⟩ := DataW.trod_int ht h
 simp only [Lit.wf, Bool.and_eq_true, decide_eq_true_eq] at hs
 have h1 : IntKind.i64.min = -9223372036854775808 := by decide
 have h2 : IntKind.i64.max = 9223372036854775807 := by decide
 exact ⟨k, e, ⟨by omega, by omega⟩, by simp [Rows.uptoBulk]⟩
theorem zAO {t : TypeId} {n : Nat} {cs : List Value} {x : DataW H × List MemPlace} (ht : P.underlying t = some .string) (h : DataW.trod enc P W base spare held n t cs = some x) : ∃ l : Str, cs = [S l] ∧ l.length ≤ maxLen ∧ Rows.uptoBulk x.1 = l.length + 1 := by
 obtain ⟨s, e, rfl, hs⟩ := DataW.trod_string ht h
 obtain ⟨⟨l⟩⟩ := s
 exact ⟨l, e, by rw [S_size] at hs; exact hs, by simp [Rows.uptoBulk]⟩
end
end Go.Proofs.YtmdhhjmomilhjaaDoor
namespace Go.Proofs.YtmdhhjmomilhjaaDoor
open Go.Proofs.Tryd
set_option linter.all false
set_option maxRecDepth 4000
open Go.RowKit Go.WideShapes Go.ChangeShapes Go.Deep Go.WideElems Go.ChangeAt Go.ChangeMaps
theorem sum_two (l : List Str) : (l.map fun x => x.length + 2).sum ≤ 2 * (l.map fun s => s.length + 1).sum := by
 induction l with
 | nil => simp
 | cons x xs ih => simp only [List.map_cons, List.sum_cons]; omega
theorem zCw {H : Type} {enc : TypeId × Value → H} {W : World} {base : Nat} {spare : Nat → Bool} {held : Bool} {n : Nat} {cs : List Value} {x : DataW H × List MemPlace} (h : DataW.trod enc Tryd.prog W base spare held n 27 cs = some x) :
  ∃ o c l, cs = [.slice o l.length c] ∧ Strs (zBK W) o l.length c l ∧ (l.map fun x => x.length + 2).sum ≤ 2 * Rows.uptoBulk x.1 := by
 obtain ⟨o, q, c, l, el, hsl, hc, bl⟩ := zAP (R := fun _ vs (x : Str) => vs = [S x]) (β := fun s => s.length + 1) (sz := 1) (Rows.uptoBulk x.1) underlying27 (by kernel_rfl) (by omega)
  (fun n cs x _ ht _ => by obtain ⟨s, es, _, bs⟩ := zAO underlying9 ht; exact ⟨s, es, by omega⟩) h (Nat.le_refl _)
 obtain rfl := hsl.len
 exact ⟨o, c, l, el, hsl, by have := sum_two l; omega⟩
theorem bulkAs_c (a : Ar) (ts : List Ar) : Zm (a :: ts) = a.name.length + (a.vars.map fun x => x.length + 2).sum + ZB a.body + Zm ts := by obtain ⟨s, l, b⟩ := a; rw [Zm]; rfl
theorem zCo {α : Type} (l : List α) : (l.map fun _ => 1).sum = l.length := by induction l with | nil => rfl | cons x xs ih => rw [List.map_cons, List.sum_cons, ih, List.length_cons, Nat.add_comm]
theorem rw_open {H : Type} {enc : TypeId × Value → H} {W : World} {base : Nat} {spare : Nat → Bool} {held : Bool} {n : Nat} {cs : List Value} {x : DataW H × List MemPlace} (h : DataW.trod enc Tryd.prog W base spare held n 29 cs = some x) : ∃ r : Rw, RwR (zBK W) r cs := by
 obtain ⟨rn, rys, rhl, hx, rhcl, rhf⟩ := ZY underlying29 h
 obtain ⟨ry0, re0, rh0⟩ := rhf 0 _ rfl
 obtain ⟨ry1, re1, rh1⟩ := rhf 1 _ rfl
 have rhcl2 : (cs : List Value).length = 2 := rhcl.trans (by kernel_rfl)
 obtain ⟨rc0, rc1, rfl⟩ : ∃ rc0 rc1, cs = [rc0, rc1] := by match cs, rhcl2 with | [a0, a1], _ => exact ⟨_, _, rfl⟩
 change DataW.trod enc Tryd.prog W base spare held rn 27 (([rc0, rc1].drop 0).take (Tryd.prog.cellsOf 27)) = some ry0 at rh0
 rw [show Tryd.prog.cellsOf 27 = 1 by kernel_rfl] at rh0
 change DataW.trod enc Tryd.prog W base spare held rn 27 [rc0] = some ry0 at rh0
 change DataW.trod enc Tryd.prog W base spare held rn 3 (([rc0, rc1].drop 1).take (Tryd.prog.cellsOf 3)) = some ry1 at rh1
 rw [show Tryd.prog.cellsOf 3 = 1 by kernel_rfl] at rh1
 change DataW.trod enc Tryd.prog W base spare held rn 3 [rc1] = some ry1 at rh1
 have rhys : rys = [ry0, ry1] := by
  match rys, rhl with
  | [q0, q1], _ => simp at re0 re1; subst re0 re1; rfl
 subst rhys; simp only [List.map_cons, List.map_nil, Rows.uptoBulkAll] at hx
 obtain ⟨o, c, ls, e1, hs, _⟩ := zCw rh0; injection e1 with e1; subst e1
 obtain ⟨v, e_v, h_v, b_v⟩ := zBD underlying3 rh1; injection e_v with e_v; subst e_v
 exact ⟨⟨ls, v⟩, _, _, rfl, hs, h_v⟩
theorem zCh {H : Type} {enc : TypeId × Value → H} {W : World} {base : Nat} {spare : Nat → Bool} {held : Bool} : ∀ (B n : Nat) (cs : List Value) (x : DataW H × List MemPlace), Rows.uptoBulk x.1 ≤ B → DataW.trod enc Tryd.prog W base spare held n 31 cs = some x → ∃ t : Ty, TyR (zBK W) t cs := by
 intro B
 induction B with
 | zero => intro n cs x hB h; exact absurd (zAn x.1) (by omega)
 | succ B ih =>
  intro n cs x hB h
  obtain ⟨tn, tys, thl, hx, thcl, thf⟩ := ZY underlying31 h
  obtain ⟨ty0, te0, th0⟩ := thf 0 _ rfl
  obtain ⟨ty1, te1, th1⟩ := thf 1 _ rfl
  obtain ⟨ty2, te2, th2⟩ := thf 2 _ rfl
  obtain ⟨ty3, te3, th3⟩ := thf 3 _ rfl
  obtain ⟨ty4, te4, th4⟩ := thf 4 _ rfl
  have thcl2 : (cs : List Value).length = 6 := thcl.trans (by kernel_rfl)
  obtain ⟨tc0, tc1, tc2, tc3, tc4, tc5, rfl⟩ : ∃ tc0 tc1 tc2 tc3 tc4 tc5, cs = [tc0, tc1, tc2, tc3, tc4, tc5] := by match cs, thcl2 with | [a0, a1, a2, a3, a4, a5], _ => exact ⟨_, _, _, _, _, _, rfl⟩
  change DataW.trod enc Tryd.prog W base spare held tn 3 (([tc0, tc1, tc2, tc3, tc4, tc5].drop 0).take (Tryd.prog.cellsOf 3)) = some ty0 at th0
  rw [show Tryd.prog.cellsOf 3 = 1 by kernel_rfl] at th0
  change DataW.trod enc Tryd.prog W base spare held tn 3 [tc0] = some ty0 at th0
  change DataW.trod enc Tryd.prog W base spare held tn 9 (([tc0, tc1, tc2, tc3, tc4, tc5].drop 1).take (Tryd.prog.cellsOf 9)) = some ty1 at th1
  rw [show Tryd.prog.cellsOf 9 = 1 by kernel_rfl] at th1
  change DataW.trod enc Tryd.prog W base spare held tn 9 [tc1] = some ty1 at th1
  change DataW.trod enc Tryd.prog W base spare held tn 3 (([tc0, tc1, tc2, tc3, tc4, tc5].drop 2).take (Tryd.prog.cellsOf 3)) = some ty2 at th2
  rw [show Tryd.prog.cellsOf 3 = 1 by kernel_rfl] at th2
  change DataW.trod enc Tryd.prog W base spare held tn 3 [tc2] = some ty2 at th2
  change DataW.trod enc Tryd.prog W base spare held tn 26 (([tc0, tc1, tc2, tc3, tc4, tc5].drop 3).take (Tryd.prog.cellsOf 26)) = some ty3 at th3
  rw [show Tryd.prog.cellsOf 26 = 1 by kernel_rfl] at th3
  change DataW.trod enc Tryd.prog W base spare held tn 26 [tc3] = some ty3 at th3
  change DataW.trod enc Tryd.prog W base spare held tn 29 (([tc0, tc1, tc2, tc3, tc4, tc5].drop 4).take (Tryd.prog.cellsOf 29)) = some ty4 at th4
  rw [show Tryd.prog.cellsOf 29 = 2 by kernel_rfl] at th4
  change DataW.trod enc Tryd.prog W base spare held tn 29 [tc4, tc5] = some ty4 at th4
  have thys : tys = [ty0, ty1, ty2, ty3, ty4] := by
   match tys, thl with
   | [q0, q1, q2, q3, q4], _ => simp at te0 te1 te2 te3 te4; subst te0 te1 te2 te3 te4; rfl
  subst thys; simp only [List.map_cons, List.map_nil, Rows.uptoBulkAll] at hx
  obtain ⟨k, e_k, h_k, b_k⟩ := zBD underlying3 th0; injection e_k with e_k; subst e_k
  obtain ⟨s, e_s, h_s, b_s⟩ := zAO underlying9 th1; injection e_s with e_s; subst e_s
  obtain ⟨v, e_v, h_v, b_v⟩ := zBD underlying3 th2; injection e_v with e_v; subst e_v
  obtain ⟨rn, rys, rhl, hx2, rhcl, rhf⟩ := ZY underlying29 th4
  obtain ⟨ry0, re0, rh0⟩ := rhf 0 _ rfl
  obtain ⟨ry1, re1, rh1⟩ := rhf 1 _ rfl
  have rhcl2 : ([tc4, tc5] : List Value).length = 2 := rhcl.trans (by kernel_rfl)
  change DataW.trod enc Tryd.prog W base spare held rn 27 (([tc4, tc5].drop 0).take (Tryd.prog.cellsOf 27)) = some ry0 at rh0
  rw [show Tryd.prog.cellsOf 27 = 1 by kernel_rfl] at rh0
  change DataW.trod enc Tryd.prog W base spare held rn 27 [tc4] = some ry0 at rh0
  change DataW.trod enc Tryd.prog W base spare held rn 3 (([tc4, tc5].drop 1).take (Tryd.prog.cellsOf 3)) = some ry1 at rh1
  rw [show Tryd.prog.cellsOf 3 = 1 by kernel_rfl] at rh1
  change DataW.trod enc Tryd.prog W base spare held rn 3 [tc5] = some ry1 at rh1
  have rhys : rys = [ry0, ry1] := by
   match rys, rhl with
   | [q0, q1], _ => simp at re0 re1; subst re0 re1; rfl
  subst rhys; simp only [List.map_cons, List.map_nil, Rows.uptoBulkAll] at hx2
  obtain ⟨ol, cl, ls, el, hls, _⟩ := zCw rh0; injection el with el; subst el
  obtain ⟨rv, e_rv, h_rv, b_rv⟩ := zBD underlying3 rh1; injection e_rv with e_rv; subst e_rv
  obtain ⟨o, q, c, l, el2, hsl, hc, bl⟩ := zAP (R := fun m vs t => TyR m t vs) (β := fun _ => 0) (sz := 6) (Rows.uptoBulk ty3.1) underlying26 (by kernel_rfl) (by omega)
   (fun n cs x hx9 ht _ => by obtain ⟨t, h1⟩ := ih n cs x (by omega) ht; exact ⟨t, h1, Nat.zero_le _⟩) th3 (Nat.le_refl _)
  obtain rfl := hsl.len
  injection el2 with el2; subst el2
  exact ⟨⟨k, s, v, l, ls, rv⟩, TyR.build hsl hls h_k h_v h_rv⟩
theorem os_open {H : Type} {enc : TypeId × Value → H} {W : World} {base : Nat} {spare : Nat → Bool} {held : Bool} {n : Nat} {cs : List Value} {x : DataW H × List MemPlace} (h : DataW.trod enc Tryd.prog W base spare held n 118 cs = some x) : ∃ r : Os, OsR (zBK W) r cs := by
 obtain ⟨sn, sys, shl, hx, shcl, shf⟩ := ZY underlying118 h
 obtain ⟨sy0, se0, sh0⟩ := shf 0 _ rfl
 obtain ⟨sy1, se1, sh1⟩ := shf 1 _ rfl
 obtain ⟨sy2, se2, sh2⟩ := shf 2 _ rfl
 have shcl2 : (cs : List Value).length = 13 := shcl.trans (by kernel_rfl)
 obtain ⟨sc0, sc1, sc2, sc3, sc4, sc5, sc6, sc7, sc8, sc9, sc10, sc11, sc12, rfl⟩ : ∃ sc0 sc1 sc2 sc3 sc4 sc5 sc6 sc7 sc8 sc9 sc10 sc11 sc12, cs = [sc0, sc1, sc2, sc3, sc4, sc5, sc6, sc7, sc8, sc9, sc10, sc11, sc12] := by match cs, shcl2 with | [a0, a1, a2, a3, a4, a5, a6, a7, a8, a9, a10, a11, a12], _ => exact ⟨_, _, _, _, _, _, _, _, _, _, _, _, _, rfl⟩
 change DataW.trod enc Tryd.prog W base spare held sn 9 (([sc0, sc1, sc2, sc3, sc4, sc5, sc6, sc7, sc8, sc9, sc10, sc11, sc12].drop 0).take (Tryd.prog.cellsOf 9)) = some sy0 at sh0
 rw [show Tryd.prog.cellsOf 9 = 1 by kernel_rfl] at sh0
 change DataW.trod enc Tryd.prog W base spare held sn 9 [sc0] = some sy0 at sh0
 change DataW.trod enc Tryd.prog W base spare held sn 31 (([sc0, sc1, sc2, sc3, sc4, sc5, sc6, sc7, sc8, sc9, sc10, sc11, sc12].drop 1).take (Tryd.prog.cellsOf 31)) = some sy1 at sh1
 rw [show Tryd.prog.cellsOf 31 = 6 by kernel_rfl] at sh1
 change DataW.trod enc Tryd.prog W base spare held sn 31 [sc1, sc2, sc3, sc4, sc5, sc6] = some sy1 at sh1
 change DataW.trod enc Tryd.prog W base spare held sn 31 (([sc0, sc1, sc2, sc3, sc4, sc5, sc6, sc7, sc8, sc9, sc10, sc11, sc12].drop 7).take (Tryd.prog.cellsOf 31)) = some sy2 at sh2
 rw [show Tryd.prog.cellsOf 31 = 6 by kernel_rfl] at sh2
 change DataW.trod enc Tryd.prog W base spare held sn 31 [sc7, sc8, sc9, sc10, sc11, sc12] = some sy2 at sh2
 have shys : sys = [sy0, sy1, sy2] := by
  match sys, shl with
  | [q0, q1, q2], _ => simp at se0 se1 se2; subst se0 se1 se2; rfl
 subst shys; simp only [List.map_cons, List.map_nil, Rows.uptoBulkAll] at hx
 obtain ⟨s, e_s, h_s, b_s⟩ := zAO underlying9 sh0; injection e_s with e_s; subst e_s
 obtain ⟨a, ha⟩ := (zCh _ _ _ _ (Nat.le_refl _) sh1)
 obtain ⟨r, hr⟩ := (zCh _ _ _ _ (Nat.le_refl _) sh2)
 exact ⟨⟨s, a, r⟩, _, _, rfl, ha, hr⟩
theorem ef_open {H : Type} {enc : TypeId × Value → H} {W : World} {base : Nat} {spare : Nat → Bool} {held : Bool} {n : Nat} {cs : List Value} {x : DataW H × List MemPlace} (h : DataW.trod enc Tryd.prog W base spare held n 115 cs = some x) : ∃ r : Ef, EfR (zBK W) r cs ∧ r.ops.length ≤ Rows.uptoBulk x.1 := by
 obtain ⟨sn, sys, shl, hx, shcl, shf⟩ := ZY underlying115 h
 obtain ⟨sy0, se0, sh0⟩ := shf 0 _ rfl
 obtain ⟨sy1, se1, sh1⟩ := shf 1 _ rfl
 have shcl2 : (cs : List Value).length = 2 := shcl.trans (by kernel_rfl)
 obtain ⟨sc0, sc1, rfl⟩ : ∃ sc0 sc1, cs = [sc0, sc1] := by match cs, shcl2 with | [a0, a1], _ => exact ⟨_, _, rfl⟩
 change DataW.trod enc Tryd.prog W base spare held sn 9 (([sc0, sc1].drop 0).take (Tryd.prog.cellsOf 9)) = some sy0 at sh0
 rw [show Tryd.prog.cellsOf 9 = 1 by kernel_rfl] at sh0
 change DataW.trod enc Tryd.prog W base spare held sn 9 [sc0] = some sy0 at sh0
 change DataW.trod enc Tryd.prog W base spare held sn 113 (([sc0, sc1].drop 1).take (Tryd.prog.cellsOf 113)) = some sy1 at sh1
 rw [show Tryd.prog.cellsOf 113 = 1 by kernel_rfl] at sh1
 change DataW.trod enc Tryd.prog W base spare held sn 113 [sc1] = some sy1 at sh1
 have shys : sys = [sy0, sy1] := by
  match sys, shl with
  | [q0, q1], _ => simp at se0 se1; subst se0 se1; rfl
 subst shys; simp only [List.map_cons, List.map_nil, Rows.uptoBulkAll] at hx
 obtain ⟨s, e_s, h_s, b_s⟩ := zAO underlying9 sh0; injection e_s with e_s; subst e_s
 obtain ⟨o, q, c, l, el2, hsl, hc, bl⟩ := zAP (R := fun m vs t => OsR m t vs) (β := fun _ => 1) (sz := 13) (Rows.uptoBulk sy1.1) underlying113 (by kernel_rfl) (by omega)
  (fun n cs x hx9 ht _ => by obtain ⟨t, h1⟩ := os_open ht; exact ⟨t, h1, zAn _⟩) sh1 (Nat.le_refl _)
 obtain rfl := hsl.len
 injection el2 with el2; subst el2
 have h1 := zCo l
 exact ⟨⟨s, l⟩, ⟨_, _, rfl, hsl⟩, by show l.length ≤ _; omega⟩
theorem cs_open {H : Type} {enc : TypeId × Value → H} {W : World} {base : Nat} {spare : Nat → Bool} {held : Bool} {n : Nat} {cs : List Value} {x : DataW H × List MemPlace} (h : DataW.trod enc Tryd.prog W base spare held n 124 cs = some x) : ∃ r : Cs, CsR (zBK W) r cs ∧ r.fields.length ≤ Rows.uptoBulk x.1 := by
 obtain ⟨sn, sys, shl, hx, shcl, shf⟩ := ZY underlying124 h
 obtain ⟨sy0, se0, sh0⟩ := shf 0 _ rfl
 obtain ⟨sy1, se1, sh1⟩ := shf 1 _ rfl
 have shcl2 : (cs : List Value).length = 2 := shcl.trans (by kernel_rfl)
 obtain ⟨sc0, sc1, rfl⟩ : ∃ sc0 sc1, cs = [sc0, sc1] := by match cs, shcl2 with | [a0, a1], _ => exact ⟨_, _, rfl⟩
 change DataW.trod enc Tryd.prog W base spare held sn 9 (([sc0, sc1].drop 0).take (Tryd.prog.cellsOf 9)) = some sy0 at sh0
 rw [show Tryd.prog.cellsOf 9 = 1 by kernel_rfl] at sh0
 change DataW.trod enc Tryd.prog W base spare held sn 9 [sc0] = some sy0 at sh0
 change DataW.trod enc Tryd.prog W base spare held sn 26 (([sc0, sc1].drop 1).take (Tryd.prog.cellsOf 26)) = some sy1 at sh1
 rw [show Tryd.prog.cellsOf 26 = 1 by kernel_rfl] at sh1
 change DataW.trod enc Tryd.prog W base spare held sn 26 [sc1] = some sy1 at sh1
 have shys : sys = [sy0, sy1] := by
  match sys, shl with
  | [q0, q1], _ => simp at se0 se1; subst se0 se1; rfl
 subst shys; simp only [List.map_cons, List.map_nil, Rows.uptoBulkAll] at hx
 obtain ⟨s, e_s, h_s, b_s⟩ := zAO underlying9 sh0; injection e_s with e_s; subst e_s
 obtain ⟨o, q, c, l, el2, hsl, hc, bl⟩ := zAP (R := fun m vs t => TyR m t vs) (β := fun _ => 1) (sz := 6) (Rows.uptoBulk sy1.1) underlying26 (by kernel_rfl) (by omega)
  (fun n cs x hx9 ht _ => by obtain ⟨t, h1⟩ := (zCh _ _ _ _ (Nat.le_refl _) ht); exact ⟨t, h1, zAn _⟩) sh1 (Nat.le_refl _)
 obtain rfl := hsl.len
 injection el2 with el2; subst el2
 have h1 := zCo l
 exact ⟨⟨s, l⟩, ⟨_, _, rfl, hsl⟩, by show l.length ≤ _; omega⟩
theorem da_open {H : Type} {enc : TypeId × Value → H} {W : World} {base : Nat} {spare : Nat → Bool} {held : Bool} {n : Nat} {cs : List Value} {x : DataW H × List MemPlace} (h : DataW.trod enc Tryd.prog W base spare held n 122 cs = some x) : ∃ r : Da, DaR (zBK W) r cs ∧ r.cons.length ≤ Rows.uptoBulk x.1 := by
 obtain ⟨sn, sys, shl, hx, shcl, shf⟩ := ZY underlying122 h
 obtain ⟨sy0, se0, sh0⟩ := shf 0 _ rfl
 obtain ⟨sy1, se1, sh1⟩ := shf 1 _ rfl
 have shcl2 : (cs : List Value).length = 2 := shcl.trans (by kernel_rfl)
 obtain ⟨sc0, sc1, rfl⟩ : ∃ sc0 sc1, cs = [sc0, sc1] := by match cs, shcl2 with | [a0, a1], _ => exact ⟨_, _, rfl⟩
 change DataW.trod enc Tryd.prog W base spare held sn 9 (([sc0, sc1].drop 0).take (Tryd.prog.cellsOf 9)) = some sy0 at sh0
 rw [show Tryd.prog.cellsOf 9 = 1 by kernel_rfl] at sh0
 change DataW.trod enc Tryd.prog W base spare held sn 9 [sc0] = some sy0 at sh0
 change DataW.trod enc Tryd.prog W base spare held sn 120 (([sc0, sc1].drop 1).take (Tryd.prog.cellsOf 120)) = some sy1 at sh1
 rw [show Tryd.prog.cellsOf 120 = 1 by kernel_rfl] at sh1
 change DataW.trod enc Tryd.prog W base spare held sn 120 [sc1] = some sy1 at sh1
 have shys : sys = [sy0, sy1] := by
  match sys, shl with
  | [q0, q1], _ => simp at se0 se1; subst se0 se1; rfl
 subst shys; simp only [List.map_cons, List.map_nil, Rows.uptoBulkAll] at hx
 obtain ⟨s, e_s, h_s, b_s⟩ := zAO underlying9 sh0; injection e_s with e_s; subst e_s
 obtain ⟨o, q, c, l, el2, hsl, hc, bl⟩ := zAP (R := fun m vs t => CsR m t vs) (β := fun _ => 1) (sz := 2) (Rows.uptoBulk sy1.1) underlying120 (by kernel_rfl) (by omega)
  (fun n cs x hx9 ht _ => by obtain ⟨t, h1, _⟩ := cs_open ht; exact ⟨t, h1, zAn _⟩) sh1 (Nat.le_refl _)
 obtain rfl := hsl.len
 injection el2 with el2; subst el2
 have h1 := zCo l
 exact ⟨⟨s, l⟩, ⟨_, _, rfl, hsl⟩, by show l.length ≤ _; omega⟩
theorem tm_open {H : Type} {enc : TypeId × Value → H} {W : World} {base : Nat} {spare : Nat → Bool} {held : Bool} : ∀ (B : Nat), (∀ (n : Nat) (cs : List Value) (x : DataW H × List MemPlace), Rows.uptoBulk x.1 ≤ B → DataW.trod enc Tryd.prog W base spare held n 33 cs = some x → ∃ t : Tm, TmR (zBK W) t cs ∧ ZB t ≤ 2 * Rows.uptoBulk x.1) ∧ (∀ (n : Nat) (cs : List Value) (x : DataW H × List MemPlace), Rows.uptoBulk x.1 ≤ B → DataW.trod enc Tryd.prog W base spare held n 72 cs = some x → ∃ a : Ar, ArR (zBK W) a cs ∧ a.name.length + (a.vars.map fun x => x.length + 2).sum + ZB a.body ≤ 2 * Rows.uptoBulk x.1) := by
 intro B
 induction B with
 | zero => exact ⟨fun n cs x hB h => absurd (zAn x.1) (by omega), fun n cs x hB h => absurd (zAn x.1) (by omega)⟩
 | succ B ih =>
  refine ⟨fun n cs x hB h => ?_, fun n cs x hB h => ?_⟩
  ·obtain ⟨tn, tys, thl, hx, thcl, thf⟩ := ZY underlying33 h
   obtain ⟨ty0, te0, th0⟩ := thf 0 _ rfl
   obtain ⟨ty1, te1, th1⟩ := thf 1 _ rfl
   obtain ⟨ty2, te2, th2⟩ := thf 2 _ rfl
   obtain ⟨ty3, te3, th3⟩ := thf 3 _ rfl
   obtain ⟨ty4, te4, th4⟩ := thf 4 _ rfl
   obtain ⟨ty5, te5, th5⟩ := thf 5 _ rfl
   obtain ⟨ty6, te6, th6⟩ := thf 6 _ rfl
   obtain ⟨ty7, te7, th7⟩ := thf 7 _ rfl
   obtain ⟨ty8, te8, th8⟩ := thf 8 _ rfl
   obtain ⟨ty9, te9, th9⟩ := thf 9 _ rfl
   have thcl2 : (cs : List Value).length = 21 := thcl.trans (by kernel_rfl)
   obtain ⟨tc0, tc1, tc2, tc3, tc4, tc5, tc6, tc7, tc8, tc9, tc10, tc11, tc12, tc13, tc14, tc15, tc16, tc17, tc18, tc19, tc20, rfl⟩ : ∃ tc0 tc1 tc2 tc3 tc4 tc5 tc6 tc7 tc8 tc9 tc10 tc11 tc12 tc13 tc14 tc15 tc16 tc17 tc18 tc19 tc20, cs = [tc0, tc1, tc2, tc3, tc4, tc5, tc6, tc7, tc8, tc9, tc10, tc11, tc12, tc13, tc14, tc15, tc16, tc17, tc18, tc19, tc20] := by match cs, thcl2 with | [a0, a1, a2, a3, a4, a5, a6, a7, a8, a9, a10, a11, a12, a13, a14, a15, a16, a17, a18, a19, a20], _ => exact ⟨_, _, _, _, _, _, _, _, _, _, _, _, _, _, _, _, _, _, _, _, _, rfl⟩
   change DataW.trod enc Tryd.prog W base spare held tn 3 (([tc0, tc1, tc2, tc3, tc4, tc5, tc6, tc7, tc8, tc9, tc10, tc11, tc12, tc13, tc14, tc15, tc16, tc17, tc18, tc19, tc20].drop 0).take (Tryd.prog.cellsOf 3)) = some ty0 at th0
   rw [show Tryd.prog.cellsOf 3 = 1 by kernel_rfl] at th0
   change DataW.trod enc Tryd.prog W base spare held tn 3 [tc0] = some ty0 at th0
   change DataW.trod enc Tryd.prog W base spare held tn 3 (([tc0, tc1, tc2, tc3, tc4, tc5, tc6, tc7, tc8, tc9, tc10, tc11, tc12, tc13, tc14, tc15, tc16, tc17, tc18, tc19, tc20].drop 1).take (Tryd.prog.cellsOf 3)) = some ty1 at th1
   rw [show Tryd.prog.cellsOf 3 = 1 by kernel_rfl] at th1
   change DataW.trod enc Tryd.prog W base spare held tn 3 [tc1] = some ty1 at th1
   change DataW.trod enc Tryd.prog W base spare held tn 9 (([tc0, tc1, tc2, tc3, tc4, tc5, tc6, tc7, tc8, tc9, tc10, tc11, tc12, tc13, tc14, tc15, tc16, tc17, tc18, tc19, tc20].drop 2).take (Tryd.prog.cellsOf 9)) = some ty2 at th2
   rw [show Tryd.prog.cellsOf 9 = 1 by kernel_rfl] at th2
   change DataW.trod enc Tryd.prog W base spare held tn 9 [tc2] = some ty2 at th2
   change DataW.trod enc Tryd.prog W base spare held tn 9 (([tc0, tc1, tc2, tc3, tc4, tc5, tc6, tc7, tc8, tc9, tc10, tc11, tc12, tc13, tc14, tc15, tc16, tc17, tc18, tc19, tc20].drop 3).take (Tryd.prog.cellsOf 9)) = some ty3 at th3
   rw [show Tryd.prog.cellsOf 9 = 1 by kernel_rfl] at th3
   change DataW.trod enc Tryd.prog W base spare held tn 9 [tc3] = some ty3 at th3
   change DataW.trod enc Tryd.prog W base spare held tn 3 (([tc0, tc1, tc2, tc3, tc4, tc5, tc6, tc7, tc8, tc9, tc10, tc11, tc12, tc13, tc14, tc15, tc16, tc17, tc18, tc19, tc20].drop 4).take (Tryd.prog.cellsOf 3)) = some ty4 at th4
   rw [show Tryd.prog.cellsOf 3 = 1 by kernel_rfl] at th4
   change DataW.trod enc Tryd.prog W base spare held tn 3 [tc4] = some ty4 at th4
   change DataW.trod enc Tryd.prog W base spare held tn 24 (([tc0, tc1, tc2, tc3, tc4, tc5, tc6, tc7, tc8, tc9, tc10, tc11, tc12, tc13, tc14, tc15, tc16, tc17, tc18, tc19, tc20].drop 5).take (Tryd.prog.cellsOf 24)) = some ty5 at th5
   rw [show Tryd.prog.cellsOf 24 = 1 by kernel_rfl] at th5
   change DataW.trod enc Tryd.prog W base spare held tn 24 [tc5] = some ty5 at th5
   change DataW.trod enc Tryd.prog W base spare held tn 25 (([tc0, tc1, tc2, tc3, tc4, tc5, tc6, tc7, tc8, tc9, tc10, tc11, tc12, tc13, tc14, tc15, tc16, tc17, tc18, tc19, tc20].drop 6).take (Tryd.prog.cellsOf 25)) = some ty6 at th6
   rw [show Tryd.prog.cellsOf 25 = 1 by kernel_rfl] at th6
   change DataW.trod enc Tryd.prog W base spare held tn 25 [tc6] = some ty6 at th6
   change DataW.trod enc Tryd.prog W base spare held tn 31 (([tc0, tc1, tc2, tc3, tc4, tc5, tc6, tc7, tc8, tc9, tc10, tc11, tc12, tc13, tc14, tc15, tc16, tc17, tc18, tc19, tc20].drop 7).take (Tryd.prog.cellsOf 31)) = some ty7 at th7
   rw [show Tryd.prog.cellsOf 31 = 6 by kernel_rfl] at th7
   change DataW.trod enc Tryd.prog W base spare held tn 31 [tc7, tc8, tc9, tc10, tc11, tc12] = some ty7 at th7
   change DataW.trod enc Tryd.prog W base spare held tn 29 (([tc0, tc1, tc2, tc3, tc4, tc5, tc6, tc7, tc8, tc9, tc10, tc11, tc12, tc13, tc14, tc15, tc16, tc17, tc18, tc19, tc20].drop 13).take (Tryd.prog.cellsOf 29)) = some ty8 at th8
   rw [show Tryd.prog.cellsOf 29 = 2 by kernel_rfl] at th8
   change DataW.trod enc Tryd.prog W base spare held tn 29 [tc13, tc14] = some ty8 at th8
   change DataW.trod enc Tryd.prog W base spare held tn 31 (([tc0, tc1, tc2, tc3, tc4, tc5, tc6, tc7, tc8, tc9, tc10, tc11, tc12, tc13, tc14, tc15, tc16, tc17, tc18, tc19, tc20].drop 15).take (Tryd.prog.cellsOf 31)) = some ty9 at th9
   rw [show Tryd.prog.cellsOf 31 = 6 by kernel_rfl] at th9
   change DataW.trod enc Tryd.prog W base spare held tn 31 [tc15, tc16, tc17, tc18, tc19, tc20] = some ty9 at th9
   have thys : tys = [ty0, ty1, ty2, ty3, ty4, ty5, ty6, ty7, ty8, ty9] := by
    match tys, thl with
    | [q0, q1, q2, q3, q4, q5, q6, q7, q8, q9], _ => simp at te0 te1 te2 te3 te4 te5 te6 te7 te8 te9; subst te0 te1 te2 te3 te4 te5 te6 te7 te8 te9; rfl
   subst thys; simp only [List.map_cons, List.map_nil, Rows.uptoBulkAll] at hx
   obtain ⟨k, e_k, h_k, b_k⟩ := zBD underlying3 th0; injection e_k with e_k; subst e_k
   obtain ⟨a, e_a, h_a, b_a⟩ := zBD underlying3 th1; injection e_a with e_a; subst e_a
   obtain ⟨s, e_s, h_s, b_s⟩ := zAO underlying9 th2; injection e_s with e_s; subst e_s
   obtain ⟨p, e_p, h_p, b_p⟩ := zAO underlying9 th3; injection e_p with e_p; subst e_p
   obtain ⟨nn, e_nn, h_nn, b_nn⟩ := zBD underlying3 th4; injection e_nn with e_nn; subst e_nn
   obtain ⟨ty, hty⟩ := (zCh _ _ _ _ (Nat.le_refl _) th7)
   obtain ⟨rr, hrr⟩ := rw_open th8
   obtain ⟨tz, htz⟩ := (zCh _ _ _ _ (Nat.le_refl _) th9)
   obtain ⟨o, q, cc, l, el2, hsl, hc, bl⟩ := zAP (R := fun m vs t => TmR m t vs ∧ ZB t ≤ 2 * Rows.uptoBulk ty5.1) (β := fun t => (ZB t + 1) / 2) (sz := 21) (Rows.uptoBulk ty5.1) underlying24 (by kernel_rfl) (by omega)
    (fun n cs x hx9 ht _ => by obtain ⟨t, h1, h2⟩ := ih.1 n cs x (by omega) ht; exact ⟨t, ⟨h1, by omega⟩, by omega⟩) th5 (Nat.le_refl _)
   obtain rfl := hsl.len
   injection el2 with el2; subst el2
   have hsl2 : Tms (zBK W) o l.length cc l := ⟨rfl, hsl.cap, hsl.big, fun i x hx => by obtain ⟨p, vs, a1, a2, a3, a4⟩ := hsl.at_ i x hx; exact ⟨p, vs, a1, a2, a3, a4.1⟩⟩
   obtain ⟨o4, q4, c4, l4, el4, hsl4, hc4, bl4⟩ := zAP (R := fun m vs a => ArR m a vs ∧ a.name.length + (a.vars.map fun x => x.length + 2).sum + ZB a.body ≤ 2 * Rows.uptoBulk ty6.1) (β := fun a => (a.name.length + (a.vars.map fun x => x.length + 2).sum + ZB a.body + 1) / 2) (sz := 23) (Rows.uptoBulk ty6.1) underlying25 (by kernel_rfl) (by omega)
    (fun n cs x hx9 ht _ => by obtain ⟨t, h1, h2⟩ := ih.2 n cs x (by omega) ht; exact ⟨t, ⟨h1, by omega⟩, by omega⟩) th6 (Nat.le_refl _)
   obtain rfl := hsl4.len
   injection el4 with el4; subst el4
   have hsl5 : Ars (zBK W) o4 l4.length c4 l4 := ⟨rfl, hsl4.cap, hsl4.big, fun i x hx => by obtain ⟨p, vs, a1, a2, a3, a4⟩ := hsl4.at_ i x hx; exact ⟨p, vs, a1, a2, a3, a4.1⟩⟩
   have key : ∀ l : List Tm, Zv l ≤ 2 * (l.map fun t => (ZB t + 1) / 2).sum := by
    intro l
    induction l with
    | nil => simp [Zv]
    | cons x xs ih => simp only [Zv, List.map_cons, List.sum_cons]; omega
   have key2 : ∀ l : List Ar, Zm l ≤ 2 * (l.map fun a => (a.name.length + (a.vars.map fun x => x.length + 2).sum + ZB a.body + 1) / 2).sum := by
    intro l
    induction l with
    | nil => simp [Zm]
    | cons x xs ih => rw [bulkAs_c, List.map_cons, List.sum_cons]; omega
   have hk := key l; have hk2 := key2 l4
   obtain ⟨o3, c3, e3, hs3, hv3⟩ := hrr
   simp only [List.cons.injEq, and_true] at e3
   obtain ⟨e3a, e3b⟩ := e3; subst e3a e3b
   have hone1 := RepR.one (R := fun m vs t => TyR m t vs) hty; have hone2 := RepR.one (R := fun m vs t => TyR m t vs) htz
   refine ⟨⟨k, a, s, p, nn, l, l4, rr⟩, TmR.build (y := ⟨o, cc, o4, c4, o3, c3, tc7, tc8, tc9, tc10, tc11, tc12, tc15, tc16, tc17, tc18, tc19, tc20⟩) ?_ hsl2 hsl5 ⟨_, _, rfl, hs3, hv3⟩, ?_⟩
   ·unfold TmY.one
    simp only [List.all_cons, List.all_nil, Bool.and_true, Bool.and_eq_true] at hone1 hone2 ⊢
    exact ⟨hone1.1, hone1.2.1, hone1.2.2.1, hone1.2.2.2.1, hone1.2.2.2.2.1, hone1.2.2.2.2.2, hone2.1, hone2.2.1, hone2.2.2.1, hone2.2.2.2.1, hone2.2.2.2.2.1, hone2.2.2.2.2.2⟩
   ·have e1 := zAn (H := H) ty0.1; rw [ZB]; omega
  ·obtain ⟨tn, tys, thl, hx, thcl, thf⟩ := ZY underlying72 h
   obtain ⟨ty0, te0, th0⟩ := thf 0 _ rfl
   obtain ⟨ty1, te1, th1⟩ := thf 1 _ rfl
   obtain ⟨ty2, te2, th2⟩ := thf 2 _ rfl
   have thcl2 : (cs : List Value).length = 23 := thcl.trans (by kernel_rfl)
   obtain ⟨tc0, tc1, tc2, tc3, tc4, tc5, tc6, tc7, tc8, tc9, tc10, tc11, tc12, tc13, tc14, tc15, tc16, tc17, tc18, tc19, tc20, tc21, tc22, rfl⟩ : ∃ tc0 tc1 tc2 tc3 tc4 tc5 tc6 tc7 tc8 tc9 tc10 tc11 tc12 tc13 tc14 tc15 tc16 tc17 tc18 tc19 tc20 tc21 tc22, cs = [tc0, tc1, tc2, tc3, tc4, tc5, tc6, tc7, tc8, tc9, tc10, tc11, tc12, tc13, tc14, tc15, tc16, tc17, tc18, tc19, tc20, tc21, tc22] := by match cs, thcl2 with | [a0, a1, a2, a3, a4, a5, a6, a7, a8, a9, a10, a11, a12, a13, a14, a15, a16, a17, a18, a19, a20, a21, a22], _ => exact ⟨_, _, _, _, _, _, _, _, _, _, _, _, _, _, _, _, _, _, _, _, _, _, _, rfl⟩
   change DataW.trod enc Tryd.prog W base spare held tn 9 (([tc0, tc1, tc2, tc3, tc4, tc5, tc6, tc7, tc8, tc9, tc10, tc11, tc12, tc13, tc14, tc15, tc16, tc17, tc18, tc19, tc20, tc21, tc22].drop 0).take (Tryd.prog.cellsOf 9)) = some ty0 at th0
   rw [show Tryd.prog.cellsOf 9 = 1 by kernel_rfl] at th0
   change DataW.trod enc Tryd.prog W base spare held tn 9 [tc0] = some ty0 at th0
   change DataW.trod enc Tryd.prog W base spare held tn 27 (([tc0, tc1, tc2, tc3, tc4, tc5, tc6, tc7, tc8, tc9, tc10, tc11, tc12, tc13, tc14, tc15, tc16, tc17, tc18, tc19, tc20, tc21, tc22].drop 1).take (Tryd.prog.cellsOf 27)) = some ty1 at th1
   rw [show Tryd.prog.cellsOf 27 = 1 by kernel_rfl] at th1
   change DataW.trod enc Tryd.prog W base spare held tn 27 [tc1] = some ty1 at th1
   change DataW.trod enc Tryd.prog W base spare held tn 33 (([tc0, tc1, tc2, tc3, tc4, tc5, tc6, tc7, tc8, tc9, tc10, tc11, tc12, tc13, tc14, tc15, tc16, tc17, tc18, tc19, tc20, tc21, tc22].drop 2).take (Tryd.prog.cellsOf 33)) = some ty2 at th2
   rw [show Tryd.prog.cellsOf 33 = 21 by kernel_rfl] at th2
   change DataW.trod enc Tryd.prog W base spare held tn 33 [tc2, tc3, tc4, tc5, tc6, tc7, tc8, tc9, tc10, tc11, tc12, tc13, tc14, tc15, tc16, tc17, tc18, tc19, tc20, tc21, tc22] = some ty2 at th2
   have thys : tys = [ty0, ty1, ty2] := by
    match tys, thl with
    | [q0, q1, q2], _ => simp at te0 te1 te2; subst te0 te1 te2; rfl
   subst thys; simp only [List.map_cons, List.map_nil, Rows.uptoBulkAll] at hx
   obtain ⟨s, e_s, h_s, b_s⟩ := zAO underlying9 th0; injection e_s with e_s; subst e_s
   obtain ⟨o, c, l, e1, hs, hb⟩ := zCw th1; injection e1 with e1; subst e1
   obtain ⟨b, hbt, hbb⟩ := ih.1 _ _ _ (by omega) th2
   exact ⟨⟨s, l, b⟩, ⟨_, _, _, rfl, hs, hbt⟩, by simp only [Ar.name, Ar.vars, Ar.body]; omega⟩
theorem pg_open {H : Type} {enc : TypeId × Value → H} {W : World} {base : Nat} {spare : Nat → Bool} {held : Bool} {n : Nat} {cs : List Value} {x : DataW H × List MemPlace} (h : DataW.trod enc Tryd.prog W base spare held n 35 cs = some x) : ∃ p : Pg, PgR (zBK W) p cs ∧ zAv p.effects ≤ Rows.uptoBulk x.1 ∧ consN p.datas ≤ Rows.uptoBulk x.1 ∧ p.datas.length ≤ Rows.uptoBulk x.1 ∧ ZB p.body ≤ 2 * Rows.uptoBulk x.1 := by
 obtain ⟨tn, tys, thl, hx, thcl, thf⟩ := ZY underlying35 h
 obtain ⟨ty0, te0, th0⟩ := thf 0 _ rfl
 obtain ⟨ty1, te1, th1⟩ := thf 1 _ rfl
 obtain ⟨ty2, te2, th2⟩ := thf 2 _ rfl
 have thcl2 : (cs : List Value).length = 23 := thcl.trans (by kernel_rfl)
 obtain ⟨tc0, tc1, tc2, tc3, tc4, tc5, tc6, tc7, tc8, tc9, tc10, tc11, tc12, tc13, tc14, tc15, tc16, tc17, tc18, tc19, tc20, tc21, tc22, rfl⟩ : ∃ tc0 tc1 tc2 tc3 tc4 tc5 tc6 tc7 tc8 tc9 tc10 tc11 tc12 tc13 tc14 tc15 tc16 tc17 tc18 tc19 tc20 tc21 tc22, cs = [tc0, tc1, tc2, tc3, tc4, tc5, tc6, tc7, tc8, tc9, tc10, tc11, tc12, tc13, tc14, tc15, tc16, tc17, tc18, tc19, tc20, tc21, tc22] := by match cs, thcl2 with | [a0, a1, a2, a3, a4, a5, a6, a7, a8, a9, a10, a11, a12, a13, a14, a15, a16, a17, a18, a19, a20, a21, a22], _ => exact ⟨_, _, _, _, _, _, _, _, _, _, _, _, _, _, _, _, _, _, _, _, _, _, _, rfl⟩
 change DataW.trod enc Tryd.prog W base spare held tn 22 (([tc0, tc1, tc2, tc3, tc4, tc5, tc6, tc7, tc8, tc9, tc10, tc11, tc12, tc13, tc14, tc15, tc16, tc17, tc18, tc19, tc20, tc21, tc22].drop 0).take (Tryd.prog.cellsOf 22)) = some ty0 at th0
 rw [show Tryd.prog.cellsOf 22 = 1 by kernel_rfl] at th0
 change DataW.trod enc Tryd.prog W base spare held tn 22 [tc0] = some ty0 at th0
 change DataW.trod enc Tryd.prog W base spare held tn 23 (([tc0, tc1, tc2, tc3, tc4, tc5, tc6, tc7, tc8, tc9, tc10, tc11, tc12, tc13, tc14, tc15, tc16, tc17, tc18, tc19, tc20, tc21, tc22].drop 1).take (Tryd.prog.cellsOf 23)) = some ty1 at th1
 rw [show Tryd.prog.cellsOf 23 = 1 by kernel_rfl] at th1
 change DataW.trod enc Tryd.prog W base spare held tn 23 [tc1] = some ty1 at th1
 change DataW.trod enc Tryd.prog W base spare held tn 33 (([tc0, tc1, tc2, tc3, tc4, tc5, tc6, tc7, tc8, tc9, tc10, tc11, tc12, tc13, tc14, tc15, tc16, tc17, tc18, tc19, tc20, tc21, tc22].drop 2).take (Tryd.prog.cellsOf 33)) = some ty2 at th2
 rw [show Tryd.prog.cellsOf 33 = 21 by kernel_rfl] at th2
 change DataW.trod enc Tryd.prog W base spare held tn 33 [tc2, tc3, tc4, tc5, tc6, tc7, tc8, tc9, tc10, tc11, tc12, tc13, tc14, tc15, tc16, tc17, tc18, tc19, tc20, tc21, tc22] = some ty2 at th2
 have thys : tys = [ty0, ty1, ty2] := by
  match tys, thl with
  | [q0, q1, q2], _ => simp at te0 te1 te2; subst te0 te1 te2; rfl
 subst thys; simp only [List.map_cons, List.map_nil, Rows.uptoBulkAll] at hx
 obtain ⟨o, q, cc, l, el2, hsl, hc, bl⟩ := zAP (R := fun m vs t => EfR m t vs) (β := fun e => e.ops.length) (sz := 2) (Rows.uptoBulk ty0.1) underlying22 (by kernel_rfl) (by omega) (fun n cs x hx9 ht _ => ef_open ht) th0 (Nat.le_refl _)
 obtain rfl := hsl.len
 injection el2 with el2; subst el2
 obtain ⟨o4, q4, c4, l4, el4, hsl4, hc4, bl4⟩ := zAP (R := fun m vs t => DaR m t vs) (β := fun e => e.cons.length) (sz := 2) (Rows.uptoBulk ty1.1) underlying23 (by kernel_rfl) (by omega) (fun n cs x hx9 ht _ => da_open ht) th1 (Nat.le_refl _)
 obtain rfl := hsl4.len
 injection el4 with el4; subst el4
 obtain ⟨o5, q5, c5, l5, el5, hsl5, hc5, bl5⟩ := zAP (R := fun m vs (t : Unit) => True) (β := fun _ => 1) (sz := 2) (Rows.uptoBulk ty1.1) underlying23 (by kernel_rfl) (by omega) (fun n cs x hx9 ht _ => ⟨(), trivial, zAn _⟩) th1 (Nat.le_refl _)
 have h5 := zCo l5
 have h6 : l5.length = l4.length := by have e := hsl5.len; injection el5 with el5 _; injection el5 with _ e2 _; omega
 obtain ⟨b, hbt, hbb⟩ := (tm_open _).1 _ _ _ (Nat.le_refl _) th2
 exact ⟨⟨l, l4, b⟩, ⟨_, _, _, _, _, rfl, hsl, hsl4, hbt⟩, by show (l.map fun e => e.ops.length).sum ≤ _; omega, by show (l4.map fun e => e.cons.length).sum ≤ _; omega, by show l4.length ≤ _; omega, by show ZB b ≤ _; omega⟩
theorem open_Pg {H : Type} {enc : TypeId × Value → H} {W : World} {base : Nat} {spare : Nat → Bool} {held : Bool} {r : Reach} {b0 : Nat} {v : Value} {d : DataW H} {ps : List MemPlace} (hval : Value.okWide Tryd.prog W r b0 35 v) (hd : DataW.Trod enc Tryd.prog W base spare held 35 v d ps) :
  ∃ vs p, v = .agg vs.toArray ∧ PgR (zBK W) p vs ∧ zAv p.effects ≤ Rows.uptoBulk d ∧ consN p.datas ≤ Rows.uptoBulk d ∧ p.datas.length ≤ Rows.uptoBulk d ∧ ZB p.body ≤ 2 * Rows.uptoBulk d := by
 obtain ⟨cs, rfl, _⟩ := okWide_struct underlying35 hval
 obtain ⟨fuel, hf⟩ := hd
 obtain ⟨p, h1, h2⟩ := pg_open hf
 exact ⟨cs.toList, p, rfl, h1, h2⟩
theorem open_B {H : Type} {enc : TypeId × Value → H} {W : World} {base : Nat} {spare : Nat → Bool} {held : Bool} {r : Reach} {b0 : Nat} {t : TypeId} {v : Value} {d : DataW H} {ps : List MemPlace} (ht : Tryd.prog.underlying t = some .bool) (hval : Value.okWide Tryd.prog W r b0 t v) (hd : DataW.Trod enc Tryd.prog W base spare held t v d ps) : ∃ b : Bool, v = .bool b := by
 obtain ⟨b, rfl, _⟩ := open_bool ht hval hd
 exact ⟨b, rfl⟩
end Go.Proofs.YtmdhhjmomilhjaaDoor
namespace Go.Proofs.YtmdhhjmomilhjaaDoor
open Go.Proofs.Tryd
set_option linter.all false
set_option maxRecDepth 4000
open Go.RowKit
abbrev theLaid : List (String × DataW Unit) := Rows.lowerTellsRow.laid
theorem table {W : World} (h : laidMetH Tryd.prog theLaid W) : Tab W := by
 rw [Go.MakeChecks.laidMetH_plain _ _ _ (by kernel_rfl)] at h
 have h2 := h.filter (fun x => x.1 == "internal/strconv.uint64pow10")
 have e : (theLaid.filter fun x => x.1 == "internal/strconv.uint64pow10") = [("internal/strconv.uint64pow10", Go.Lib.tabData .u64 Go.Lib.pow10Tab)] := by kernel_rfl
 rw [e] at h2
 exact Go.Lib.tabIs_of_head (g := 0) (rest := []) (by kernel_rfl) (by kernel_rfl) underlying162 underlying153 (by kernel_rfl) (by kernel_rfl) h2
def litV : DataW Unit → Value
 | .lit (.int k n) => .int k n
 | _ => undef
def zEY : DataW Unit → Array Value
 | .agg l => (l.map litV).toArray
 | _ => #[]
def layTab (h : Array Obj) (g : Nat) (cs : Array Value) : Array Obj := h.modify g fun
 | .cells _ t f => .cells cs t f
 | o => o
noncomputable def zDJ (os : Go.Os) : World :=
 { World.holding Tryd.prog os ⟨#[], #[], []⟩ with heap := layTab (layTab (layTab ((World.holding Tryd.prog os ⟨#[], #[], []⟩).heap) 1 (zEY (Rows.laid_math_bits_deBruijn32tab (H := Unit)))) 2 (zEY (Rows.laid_math_bits_deBruijn64tab (H := Unit)))) 0 (zEY (Rows.laid_internal_strconv_uint64pow10 (H := Unit))) }
end Go.Proofs.YtmdhhjmomilhjaaDoor
namespace Go.Proofs.YtmdhhjmomilhjaaDoor
open Go.Proofs.Tryd
set_option linter.all false
set_option maxRecDepth 4000
open Go.ChangeShapes Go.WideShapes Go.ChangeAt Go.RowKit Go.Deep
open Go.WideElems Go.ChangeMaps
theorem rws_arg {H : Type} {enc : TypeId × Value → H} {W : World} {base : Nat} {spare : Nat → Bool} {held : Bool} {r : Reach} {b0 : Nat} {v : Value} {d : DataW H} {ps : List MemPlace} (hval : Value.okWide Tryd.prog W r b0 36 v) (hd : DataW.Trod enc Tryd.prog W base spare held 36 v d ps) :
  ∃ o c l, v = .slice o l.length c ∧ Rws (zBK W) o l.length c l := by
 obtain ⟨o, n, c, rfl⟩ := okWide_slice underlying36 hval
 obtain ⟨fuel, hf⟩ := hd
 obtain ⟨o', q, c', l, e1, hsl, hc, bl⟩ := zAP (R := fun m vs r => RwR m r vs) (β := fun _ => 0) (sz := 2) (Rows.uptoBulk d) underlying36 (by kernel_rfl) (by omega)
  (fun n cs x _ ht _ => by obtain ⟨q, h1⟩ := rw_open ht; exact ⟨q, h1, Nat.zero_le _⟩) hf (Nat.le_refl _)
 simp only [Value.cells, List.cons.injEq, and_true] at e1
 obtain rfl := hsl.len
 rw [e1]
 exact ⟨o', c', l, rfl, hsl⟩
theorem op_arg {H : Type} {enc : TypeId × Value → H} {W : World} {base : Nat} {spare : Nat → Bool} {held : Bool} {r : Reach} {b0 : Nat} {v : Value} {d : DataW H} {ps : List MemPlace} (hval : Value.okWide Tryd.prog W r b0 38 v) (hd : DataW.Trod enc Tryd.prog W base spare held 38 v d ps) : ∃ a b : Bool, v = .agg #[.bool a, .bool b] := by
 obtain ⟨cs, rfl, _⟩ := okWide_struct underlying38 hval
 obtain ⟨fuel, hf⟩ := hd
 obtain ⟨cs9, rfl⟩ : ∃ l : List Value, cs = l.toArray := ⟨cs.toList, by simp⟩
 have hx9 : True := trivial
 obtain ⟨fuel, hf⟩ : ∃ n, DataW.trod enc Tryd.prog W base spare held n 38 cs9 = some (d, ps) := ⟨fuel, by simpa [Value.cells] using hf⟩
 obtain ⟨sn, sys, shl, hx9, shcl, shf⟩ := ZY underlying38 hf
 obtain ⟨sy0, se0, sh0⟩ := shf 0 _ rfl
 obtain ⟨sy1, se1, sh1⟩ := shf 1 _ rfl
 have shcl2 : (cs9 : List Value).length = 2 := shcl.trans (by kernel_rfl)
 obtain ⟨sc0, sc1, rfl⟩ : ∃ sc0 sc1, cs9 = [sc0, sc1] := by match cs9, shcl2 with | [a0, a1], _ => exact ⟨_, _, rfl⟩
 change DataW.trod enc Tryd.prog W base spare held sn 4 (([sc0, sc1].drop 0).take (Tryd.prog.cellsOf 4)) = some sy0 at sh0
 rw [show Tryd.prog.cellsOf 4 = 1 by kernel_rfl] at sh0
 change DataW.trod enc Tryd.prog W base spare held sn 4 [sc0] = some sy0 at sh0
 change DataW.trod enc Tryd.prog W base spare held sn 4 (([sc0, sc1].drop 1).take (Tryd.prog.cellsOf 4)) = some sy1 at sh1
 rw [show Tryd.prog.cellsOf 4 = 1 by kernel_rfl] at sh1
 change DataW.trod enc Tryd.prog W base spare held sn 4 [sc1] = some sy1 at sh1
 have shys : sys = [sy0, sy1] := by
  match sys, shl with
  | [q0, q1], _ => simp at se0 se1; subst se0 se1; rfl
 subst shys; simp only [List.map_cons, List.map_nil, Rows.uptoBulkAll] at hx9
 obtain ⟨a, e0, _⟩ := DataW.trod_bool underlying4 sh0; injection e0 with e0; subst e0
 obtain ⟨b, e1, _⟩ := DataW.trod_bool underlying4 sh1; injection e1 with e1; subst e1
 exact ⟨a, b, rfl⟩
theorem lowerTails_own : ownKnob Tryd.prog.godebug = none := by kernel_rfl
theorem lowerTails_laid : laidOutB Tryd.prog = true := by kernel_rfl
set_option maxRecDepth 100000 in
theorem lowerTails_contract (H : Type) (enc : TypeId × Value → H) (W : World) (base : Nat) (args : Array Value) (ds gs : List (DataW H)) (before : List MemPlace)
  (hval : ∀ (j : Nat) t v, Tryd.f6.params[j]? = some t → args[j]? = some v → Value.okWide Tryd.prog W .any base t v)
  (hW : DataW.Whole enc Tryd.prog Tryd.f6.params.toList Rows.lowerTailsSpec.vars false W args.toList ds gs before) (hc : ∀ k, (Rows.OpenSpec.upto Rows.lowerTailsSpec).cond = some k → k H (ds ++ gs) = true) (hL : laidMetH Tryd.prog Rows.lowerTailsUptoRow.laid W) :
  Calls Tryd.prog 6 args W fun e W' => ∃ v, e = .returned v ∧ Rows.lowerTailsSpec.post enc Tryd.prog Tryd.f6 false true false false W args v W' := by
 have hW' := hW
 obtain ⟨p, q, hA0, hV, rfl, hfz, hnd⟩ := hW
 have hA : DataW.TrodAll enc Tryd.prog W 0 (fun _ => true) true Tryd.f6.params.toList args.toList ds p := hA0
 rw [Tryd.params6] at hA hval
 obtain ⟨v0, vs0, d0, ds0, p0, q0, e0, rfl, rfl, h0, hA0⟩ := trodAll_cons hA
 obtain ⟨v1, vs1, d1, ds1, p1, q1, e1, rfl, rfl, h1, hA1⟩ := trodAll_cons hA0
 obtain ⟨v2, vs2, d2, ds2, p2, q2, e2, rfl, rfl, h2, hA2⟩ := trodAll_cons hA1
 obtain ⟨v3, vs3, d3, ds3, p3, q3, e3, rfl, rfl, h3, hA3⟩ := trodAll_cons hA2
 obtain ⟨e4, rfl, rfl⟩ := trodAll_nil hA3
 subst e4 e3 e2 e1
 obtain rfl : args = #[v0, v1, v2, v3] := Array.toList_inj.1 e0
 obtain ⟨rfl, rfl⟩ := trodVars_none hV
 have hbulk : Rows.uptoBulkAll [d0, d1, d2, d3] ≤ 1048576 := by have := hc _ rfl; simpa [Rows.uptoSmall] using this
 obtain ⟨vs_p, p, rfl, hv_p, hq1_p, hq2_p, hq3_p, hq4_p⟩ := open_Pg (hval 0 35 v0 rfl rfl) h0
 obtain ⟨n, rfl, hn_⟩ := open_I underlying3 (hval 1 3 v1 rfl rfl) h1
 obtain ⟨o_l, c_l, l, rfl, hs_l⟩ := rws_arg (hval 2 36 v2 rfl rfl) h2
 obtain ⟨sel, rfl⟩ := open_B underlying4 (hval 3 4 v3 rfl rfl) h3
 have hA0 := agree_snap W
 have hT : Tab W := table hL
 simp only [Rows.uptoBulkAll] at hbulk
 refine Calls.mono (lowerTails_c (n := n) (sel := sel) hA0 hv_p hs_l hT (by omega) (by omega) (by omega) (by omega)) fun e W' ⟨v, m', he, hx, hv⟩ => ?_
 subst hv
 exact ⟨_, he, post_law lowerTails_laid (by kernel_rfl) rfl rfl underlying4 rfl hW' hx⟩
theorem lowerTails_laidmet (os : Go.Os) : laidMetH Tryd.prog Rows.lowerTailsUptoRow.laid ((zDJ os).forCall (fun _ _ => 0) ⟨#[], #[.agg #[.slice none 0 0, .slice none 0 0, .int .i64 0, .int .i64 0, .string ⟨#[]⟩, .string ⟨#[]⟩, .int .i64 0, .slice none 0 0, .slice none 0 0, .int .i64 0, .string ⟨#[]⟩, .int .i64 0, .slice none 0 0, .slice none 0 0, .int .i64 0, .slice none 0 0, .int .i64 0, .int .i64 0, .string ⟨#[]⟩, .int .i64 0, .slice none 0 0, .slice none 0 0, .int .i64 0], .int .i64 0, .slice none 0 0, .bool false], []⟩).memory :=
 laidMet_of_run' 8 (by kernel_rfl) (by kernel_rfl)
theorem lowerTails_reads (os : Go.Os) {H : Type} (enc : TypeId × Value → H) : ∃ places, DataW.whole enc Tryd.prog ((zDJ os).forCall (fun _ _ => 0) ⟨#[], #[.agg #[.slice none 0 0, .slice none 0 0, .int .i64 0, .int .i64 0, .string ⟨#[]⟩, .string ⟨#[]⟩, .int .i64 0, .slice none 0 0, .slice none 0 0, .int .i64 0, .string ⟨#[]⟩, .int .i64 0, .slice none 0 0, .slice none 0 0, .int .i64 0, .slice none 0 0, .int .i64 0, .int .i64 0, .string ⟨#[]⟩, .int .i64 0, .slice none 0 0, .slice none 0 0, .int .i64 0], .int .i64 0, .slice none 0 0, .bool false], []⟩).memory Tryd.f6.params.toList Rows.lowerTailsSpec.vars false #[.agg #[.slice none 0 0, .slice none 0 0, .int .i64 0, .int .i64 0, .string ⟨#[]⟩, .string ⟨#[]⟩, .int .i64 0, .slice none 0 0, .slice none 0 0, .int .i64 0, .string ⟨#[]⟩, .int .i64 0, .slice none 0 0, .slice none 0 0, .int .i64 0, .slice none 0 0, .int .i64 0, .int .i64 0, .string ⟨#[]⟩, .int .i64 0, .slice none 0 0, .slice none 0 0, .int .i64 0], .int .i64 0, .slice none 0 0, .bool false].toList 30 = some ([.agg [.nil, .nil, .agg [.lit (.int .i64 0), .lit (.int .i64 0), .lit (.string []), .lit (.string []), .lit (.int .i64 0), .nil, .nil, .agg [.lit (.int .i64 0), .lit (.string []), .lit (.int .i64 0), .nil, .agg [.nil, .lit (.int .i64 0)]], .agg [.nil, .lit (.int .i64 0)], .agg [.lit (.int .i64 0), .lit (.string []), .lit (.int .i64 0), .nil, .agg [.nil, .lit (.int .i64 0)]]]], .lit (.int .i64 0), .nil, .lit (.bool false)], [], places) :=
 ⟨[], by kernel_rfl⟩
set_option maxRecDepth 100000 in
theorem lowerTails_lifted (os : Go.Os) (started : os.Started) (H : Type) (enc : TypeId × Value → H) (F : Stop.Interp) :
  ReturnsInHanded {} Tryd.checked os 6 .any ((Rows.OpenSpec.upto Rows.lowerTailsSpec).preRow enc Tryd.prog Tryd.f6 Rows.lowerTailsUptoRow.domain false Rows.lowerTailsUptoRow.laid) (((Rows.OpenSpec.upto Rows.lowerTailsSpec).at F).post enc Tryd.prog Tryd.f6 false true false false) := by
 obtain ⟨places, hx⟩ := lowerTails_reads os enc
 refine returnsInHanded_of_row (C := Tryd.checked) (s := (Rows.OpenSpec.upto Rows.lowerTailsSpec)) lowerTails_own started (by kernel_rfl) func6
  (witness_row_at (enc := enc) (C := Tryd.checked) false (zDJ os) #[.agg #[.slice none 0 0, .slice none 0 0, .int .i64 0, .int .i64 0, .string ⟨#[]⟩, .string ⟨#[]⟩, .int .i64 0, .slice none 0 0, .slice none 0 0, .int .i64 0, .string ⟨#[]⟩, .int .i64 0, .slice none 0 0, .slice none 0 0, .int .i64 0, .slice none 0 0, .int .i64 0, .int .i64 0, .string ⟨#[]⟩, .int .i64 0, .slice none 0 0, .slice none 0 0, .int .i64 0], .int .i64 0, .slice none 0 0, .bool false] rfl (by kernel_rfl) (by kernel_rfl) (by kernel_rfl)
   (OpenSpec.preRow_of_cond 30 hx (by kernel_rfl) (fun k hk => by cases hk; kernel_rfl) (by kernel_rfl) (lowerTails_laidmet os))) ?_
 intro W base args ds gs before hval hW _ hc _ hL _ _
 exact lowerTails_contract H enc W base args ds gs before hval hW hc hL
theorem lowerTails_said : Rows.LowerTailsUptoSaid :=
 OpenClaim.holds_of_cond 6 Tryd.f6 rfl rfl rfl rfl rfl rfl rfl ⟨rfl, rfl, rfl, rfl, rfl⟩ rfl rfl rfl rfl rfl (by kernel_rfl) func6 (by kernel_rfl)
  (of_decide_eq_true (by kernel_rfl)) (by unfold Func.isWrapper; first | (rw [if_pos (by decide +kernel)]; kernel_rfl) | (rw [if_neg (by decide +kernel)]; exact ⟨rfl, rfl⟩))
  (fun os started H enc _ F => by rw [OpenClaim.pre_eq_preRow]; exact lowerTails_lifted os started H enc F)
theorem lowerTails_plain (f : FuncId) (fn : Func) (hf : Tryd.pinned.checked.prog.funcNamed "brocade/brocadelaw17.LowerTails" = some f) (hfn : Tryd.pinned.checked.prog.funcs[f]? = some fn) :
  false = Tryd.pinned.checked.prog.looks [] ∧ ∀ (j : Nat) t, fn.params[j]? = some t → Tryd.pinned.checked.prog.wantsStandIn t = false := by
 obtain rfl : f = 6 := Option.some.inj ((show Tryd.prog.funcNamed "brocade/brocadelaw17.LowerTails" = some 6 by kernel_rfl).symm.trans hf) |>.symm
 obtain rfl : fn = Tryd.f6 := (Option.some.inj (func6.symm.trans hfn)).symm
 refine ⟨by kernel_rfl, fun j t ht => ?_⟩
 rw [Tryd.params6] at ht
 have hm : t ∈ [35, 3, 36, 4] := by simpa using Array.mem_of_getElem? ht
 have hall : ([35, 3, 36, 4].all fun u => !Tryd.prog.wantsStandIn u) = true := by kernel_rfl
 exact (show Tryd.prog.wantsStandIn t = false by simpa using List.all_eq_true.1 hall t hm)
theorem lowerTails_holds : Rows.LowerTailsUptoCardSaid :=
 Claim7.holds_tied_plain_at .later [] _ _ _ _ lowerTails_said (fun _ h => by cases h) (by kernel_rfl) (fun _ h => by cases h) lowerTailsUpto_row_tie rfl ⟨rfl, rfl⟩ (by kernel_rfl) rfl lowerTails_plain (by kernel_rfl)
end Go.Proofs.YtmdhhjmomilhjaaDoor
