/-
  The law's proof, whole. Conditions: those of each theorem.
-/
import Derived.Test.YtmdhhjmomilhjaaDoorSqD
import Derived.ProofKit
import Derived.Carry
import Derived.ChangeSame
import Derived.ShutString
import Derived.Deep.Slices
import Derived.Deep.Fields
import Derived.LaidSub
import Derived.MakeChecks
import Derived.LaidLaws
import Derived.Lib.LaidTab
import Derived.OpenShut
import Derived.Deep.DeepHandedRow
import Derived.Test.YtmdhhjmomilhjaaDoorRows
import Derived.Test.YtmdhhjmomilhjaaDoorCards
import Derived.Test.YtmdhhjmomilhjaaDoorTie
namespace Go.Proofs.YtmdhhjmomilhjaaDoor
open Go.Proofs.Tryd
set_option linter.all false
set_option maxRecDepth 4000
open Go.RowKit
abbrev Rws (m : Mem) (o : Option Addr) (n c : Nat) (l : List Rw) : Prop := Sl (fun m vs r => RwR m r vs) 2 m o n c l
theorem Rws.mono {m m' : Mem} {o : Option Addr} {n c : Nat} {l : List Rw} (h : Rws m o n c l) (hm : MLe m m') : Rws m' o n c l := Sl.mono h (fun _ _ e => e.mono hm) hm
def zCH (l : List Rw) (n : Nat) (r : Rw) : Rw := if l = [] then r else l.getD (n % l.length) r
mutual
def zAn (l : List Rw) : Tm → Nat → Tm
 | ⟨k, a, s, p, v, ks, az, r⟩, n => ⟨k, a, s, p, v, zCQ l ks (n + 1), zBU l az (n + 1 + zR ks), zCH l n r⟩
def zCQ (l : List Rw) : List Tm → Nat → List Tm
 | [], _ => []
 | t :: ts, n => zAn l t n :: zCQ l ts (n + zP t)
def zBU (l : List Rw) : List Ar → Nat → List Ar
 | [], _ => []
 | ⟨s, v, b⟩ :: ts, n => ⟨s, v, zAn l b n⟩ :: zBU l ts (n + zP b)
end
def rowsA (l : List Rw) (a : Ar) (n : Nat) : Ar := ⟨a.name, a.vars, zAn l a.body n⟩
theorem rowsT_eq (l : List Rw) (t : Tm) (n : Nat) : zAn l t n = ⟨t.kind, t.at_, t.name, t.param, t.n, zCQ l t.kids (n + 1), zBU l t.arms (n + 1 + zR t.kids), zCH l n t.row⟩ := by obtain ⟨k, a, s, p, v, ks, az, r⟩ := t; rw [zAn]; rfl
theorem rowsAs_cons (l : List Rw) (a : Ar) (ts : List Ar) (n : Nat) : zBU l (a :: ts) n = rowsA l a n :: zBU l ts (n + zP a.body) := by obtain ⟨s, v, b⟩ := a; rw [zBU]; rfl
def MP.rowsV (l : List Rw) (t : Tm) (n : Nat) : MP := MP.mem (fun y : TmY => .tuple #[.agg (tmV (zAn l t n) y).toArray, .int .i64 ((n + zP t : Nat) : Int)]) (fun y m => TmR m (zAn l t n) (tmV (zAn l t n) y)) fun hm h => h.mono hm
-- what is so of a term is so of it with other rows
theorem low_of {t : Tm} (h : RtT t ∨ t = Zv) : LwT t := h.elim (·.low) (fun e => e ▸ zero_low)
def intT (n : Int) : Tm := ⟨2, 0, [], [], n, [], [], ⟨[], 0⟩⟩
def shT : Tm := Zh (Zb [102]) (Zh (Zb [103]) (intT 1))
def intC (n : Int) : Cd := ⟨2, [], [], n, [], []⟩
def shA : Cd := ⟨6, [], [], 0, [zCE [103], intC 1], []⟩
def shB : Cd := ⟨6, [], [], 0, [zCE [102], zCE (Zl 1)], []⟩
theorem zDP (s : Str) : LwT (Zb s) := .mk (.inl ⟨.inl rfl, fun _ _ => rfl⟩) (fun _ h => nomatch h) (fun _ h => nomatch h)
theorem low_int (n : Int) : LwT (intT n) := .mk (.inl ⟨.inl rfl, fun _ _ => rfl⟩) (fun _ h => nomatch h) (fun _ h => nomatch h)
theorem zEC {f a : Tm} (h : LwT f) (h2 : LwT a) : LwT (Zh f a) := .mk (.inl ⟨.inl rfl, fun _ _ => rfl⟩) (fun u hu => by
 rcases List.mem_cons.1 hu with rfl | hu
 ·exact h
 ·rw [List.mem_singleton] at hu; subst hu; exact h2) (fun a ha => by cases ha)
theorem count_call (t u : Tm) : zP (Zh t u) = zP t + zP u + 1 := by rw [zr]; show 1 + (zP t + (zP u + 0)) + 0 = _; omega
theorem bulk_call (t u : Tm) : zt (Zh t u) = zt t + zt u + 3 := by rw [Zi]; show 3 + 0 + 0 + (zt t + (zt u + 0)) + 0 = _; omega
theorem nameQ_1 : Zl 1 = [39, 49] := by unfold Zl; rw [dec_eq, if_pos (by omega)]; rfl
theorem lowT_sh : zCu true false shT = cd2 8 (Zl 1) [] shA shB := by
 have h1 : zP shT = 5 := by decide
 unfold zCu; rw [h1]; rfl
theorem CdR.at_y {m : Mem} {t : Cd} {y : CdY} (h : CdR m t (cdV t y)) : Cds m y.o1 t.kids.length y.c1 t.kids ∧ Cas m y.o2 t.arms.length y.c2 t.arms := by
 obtain ⟨⟨a, b, c, d⟩, e, _, h1, h2⟩ := h.open_
 obtain ⟨a', b', c', d'⟩ := y
 simp only [cdV, List.cons.injEq, Value.slice.injEq, true_and, and_true] at e
 obtain ⟨⟨rfl, rfl⟩, rfl, rfl⟩ := e
 exact ⟨h1, h2⟩
theorem zAi {α : Type} {l r : List α} {k : Nat} {x c : α} (h : l.drop k = x :: r) (hc : l[k]? = some c) : x = c := by
 have := zAz h; rw [hc] at this; injection this with e; exact e.symm
abbrev rows_G (t : Tm) : Prop := ∀ {w : World} {m : Mem} {vs_t : List Value} {o_rl : Option Addr} {c_rl : Nat} {rl : List Rw} {n : Nat} (hA : Agree w m) (h_t : TmR m t vs_t) (h_rl : Rws m o_rl rl.length c_rl rl) (hb : n + zP t ≤ 1000000000), FnV Tryd.prog 21 #[.agg vs_t.toArray, .slice o_rl rl.length c_rl, .int .i64 (n : Int)] w m (fun _ m v => (MP.rowsV rl t n).p m v)
set_option maxHeartbeats 3200000 in
theorem rows_s {t : Tm} (ihk : ∀ u ∈ t.kids, rows_G u) (iha : ∀ a ∈ t.arms, rows_G a.body) {w : World} {m : Mem} {vs_t : List Value} {o_rl : Option Addr} {c_rl : Nat} {rl : List Rw} {n : Nat} (hA : Agree w m) (h_t : TmR m t vs_t) (h_rl : Rws m o_rl rl.length c_rl rl) (hb : n + zP t ≤ 1000000000) : FnV Tryd.prog 21 #[.agg vs_t.toArray, .slice o_rl rl.length c_rl, .int .i64 (n : Int)] w m (fun _ m v => (MP.rowsV rl t n).p m v) := by
 obtain ⟨⟨oK_t, cK_t, oA_t, cA_t, oR_t, cR_t, t0_t, t1_t, t2_t, t3_t, t4_t, t5_t, u0_t, u1_t, u2_t, u3_t, u4_t, u5_t⟩, rfl, hon_t, hkk_t, haa_t, hrr_t⟩ := h_t.open_
 dsimp only at hkk_t haa_t hrr_t
 have hbg_t := hkk_t.big; have hcp_t := hkk_t.cap; have hbh_t := haa_t.big; have hcq_t := haa_t.cap
 have hb_rl := h_rl.big; have hc_rl := h_rl.cap
 refine zX (vs := [_, _, _]) func21 rfl rfl rfl fun a0 hfr0 => ?_
 have hst0 := zW hA (zf [] _ w m)
 have hM : MLe m m := MLe.refl m
 have hce := zr t
 have hkl_ := Z1 t.kids
 have hal_ := zAH t.arms
 have htm : (n : Int).tmod (rl.length : Int) = ((n % rl.length : Nat) : Int) := rfl
 refine zB fun _ hK1 => ?_
 replace hst0 := hst0.more (r := .free) trivial List.nodup_nil (by simp [Res.blocks])
 refine ra0 (tch := [(1, 0, (fun v => .blk v _))]) hst0 hfr0 (.cons rfl (zv rfl rfl) <| .consT rfl rfl (fun _ => rfl) rfl (zQ zeroValue33 rfl) <| .cons rfl (zC rfl) <| .nil) fun a1 w1 m1 hst1 hle1 hk1 => ?_
 have hfr1 := hk1.fr (.o 1 <| .o 2 <| .nil)
 obtain ⟨g2, e2, hc3⟩ := hk1.ex 3 rfl
 replace hfr1 := hfr1.cons e2
 obtain ⟨g3, e3, _⟩ := hk1.ex 6 rfl
 replace hfr1 := hfr1.cons e3
 replace hst1 := hst1.fin (L' := [_]) (.cons e3 <| .nil)
 replace h_t := h_t.mono hle1
 replace hkk_t := hkk_t.mono hle1
 replace haa_t := haa_t.mono hle1
 replace hrr_t := hrr_t.mono hle1
 replace h_rl := h_rl.mono hle1
 clear hst0 hfr0 hk1
 refine hK1 _ _ ?_
 refine zB fun _ hK4 => ?_
 replace hst1 := hst1.more (r := .free) trivial List.nodup_nil (by simp [Res.blocks])
 refine ra0 (tch := [(1, 1, (fun v => .blk v _)), (2, 1, (fun v => .blk v _))]) hst1 hfr1 (.cons rfl (zO rfl hc3 isAgg33 sizeOf33 rfl rfl) <| .consT rfl rfl (fun _ => rfl) rfl (zQ zeroValue33 rfl) <| .consT rfl rfl (fun _ => rfl) rfl (zU 8 rfl rfl rfl fun y8 => zb rfl rfl rfl rfl rfl sizeOf33 rfl rfl h_t.one) <| .nil) fun a2 w2 m2 hst2 hle2 hk2 => ?_
 have hfr2 := hk2.fr (.o 1 <| .o 2 <| .o 3 <| .o 6 <| .nil)
 obtain ⟨gB, e5, _⟩ := hk2.ex 8 rfl
 replace hfr2 := hfr2.cons e5
 replace hst2 := hst2.fin (L' := [_, _]) (.cons e5 <| .cons e5 <| .nil)
 try simp only [List.take_succ_cons, List.take_zero, List.drop_succ_cons, List.drop_zero, List.cons_append, List.nil_append, List.append_nil, List.length_cons, List.length_nil, Nat.zero_add, Nat.reduceAdd] at hst2
 replace hkk_t := hkk_t.mono hle2
 replace haa_t := haa_t.mono hle2
 replace hrr_t := hrr_t.mono hle2
 replace h_rl := h_rl.mono hle2
 replace hc3 := hc3.mono hle2
 clear hst1 hfr1 hk2
 refine hK4 _ _ ?_
 refine zB fun _ hK6 => ?_
 refine ra0 (tch := [(1, 1, (fun _ => .blk _ _))]) hst2 hfr2 (.cons rfl (zA (off := 5) rfl underlying33 rfl rfl sizeOf24 rfl) <| .consT rfl rfl (fun _ => rfl) rfl (ZE rfl rfl rfl sizeOf24 rfl rfl rfl) <| .nil) fun a3 w3 m3 hst3 hle3 hk3 => ?_
 have hfr3 := hk3.fr (.o 1 <| .o 2 <| .o 3 <| .o 6 <| .o 8 <| .nil)
 replace hst3 := hst3.fin (L' := [_, _]) (.cons rfl <| .nil)
 try simp only [List.take_succ_cons, List.take_zero, List.drop_succ_cons, List.drop_zero, List.cons_append, List.nil_append, List.append_nil, List.length_cons, List.length_nil, Nat.zero_add, Nat.reduceAdd] at hst3
 replace hkk_t := hkk_t.mono hle3
 replace haa_t := haa_t.mono hle3
 replace hrr_t := hrr_t.mono hle3
 replace h_rl := h_rl.mono hle3
 replace hc3 := hc3.mono hle3
 clear hst2 hfr2 hk3
 refine hK6 _ _ ?_
 refine zB fun _ hK7 => ?_
 refine ra0 (tch := [(1, 1, (fun _ => .blk _ _))]) hst3 hfr3 (.cons rfl (zA (off := 6) rfl underlying33 rfl rfl sizeOf25 rfl) <| .consT rfl rfl (fun _ => rfl) rfl (ZE rfl rfl rfl sizeOf25 rfl rfl rfl) <| .nil) fun a4 w4 m4 hst4 hle4 hk4 => ?_
 have hfr4 := hk4.fr (.o 1 <| .o 2 <| .o 3 <| .o 6 <| .o 8 <| .nil)
 replace hst4 := hst4.fin (L' := [_, _]) (.cons rfl <| .nil)
 try simp only [List.take_succ_cons, List.take_zero, List.drop_succ_cons, List.drop_zero, List.cons_append, List.nil_append, List.append_nil, List.length_cons, List.length_nil, Nat.zero_add, Nat.reduceAdd] at hst4
 replace hkk_t := hkk_t.mono hle4
 replace haa_t := haa_t.mono hle4
 replace hrr_t := hrr_t.mono hle4
 replace h_rl := h_rl.mono hle4
 replace hc3 := hc3.mono hle4
 clear hst3 hfr3 hk4
 have hst4 := hst4.more (r := .rowx (.slice none 0 0) 0 21 33 (MP.reads (fun m vs t => TmR m t vs) 21 [])) zAP List.nodup_nil (by simp [Res.blocks, zy])
 have hsl_K : Tms m4 none ([] : List Tm).length 0 ([] : List Tm) := Sl.empty
 have hst4 := hst4.more (r := .rowx (.slice none 0 0) 0 23 72 (MP.reads (fun m vs t => ArR m t vs) 23 [])) zAP List.nodup_nil (by simp [Res.blocks, zy])
 have hsl_A : Ars m4 none ([] : List Ar).length 0 ([] : List Ar) := Sl.empty
 refine hK7 _ _ ?_
 refine zAt (T := [(1, _), (2, _), (3, _), (6, _), (8, _)]) (fun (y : Rw × Option Addr × Nat) => ([] : List (Nat × Value))) (fun y => [_, .blk (.pointer (some ⟨gB, 0, none⟩)) (.cells (tmV ⟨t.kind, t.at_, t.name, t.param, t.n, [], [], y.1⟩ (⟨none, 0, none, 0, y.2.1, y.2.2, t0_t, t1_t, t2_t, t3_t, t4_t, t5_t, u0_t, u1_t, u2_t, u3_t, u4_t, u5_t⟩ : TmY)).toArray 33), _, _]) (fun (y : Rw × Option Addr × Nat) m => (fun (rr : Rw) (orr : Option Addr) (crr : Nat) => (rr = zCH rl n t.row) ∧ (RwR m rr [.slice orr rr.labels.length crr, .int .i64 rr.var])) y.1 y.2.1 y.2.2) ((t.row, oR_t, cR_t)) ⟨hst4, MLe.refl _, hfr4.sub (.c <| .c <| .c <| .c <| .c <| .nil), trivial⟩ (fun y a5 w5 m5 hh5 => ?_) (fun K8 hj8 => ?_)
 ·have hst5 := hh5.st; have hle5 := hh5.le; have hfr5 := hh5.fr; have hrel := hh5.rel; clear hh5
  clear hst4 hfr4
  obtain ⟨rr, orr, crr⟩ := y
  dsimp only at hrel hfr5 hst5
  obtain ⟨hrr9, hrw9⟩ := hrel
  subst hrr9
  refine zB fun _ hK9 => ?_
  refine rp0 hst5 hfr5 (.cons rfl (zD rfl) <| .cons rfl (zk rfl rfl ⟨by omega, by omega⟩) <| .cons rfl (zC rfl) <| .nil) fun a6 w6 m6 hst6 hle6 hk6 => ?_
  have hfr6 := hk6.fr (.o 1 <| .o 3 <| .o 6 <| .o 8 <| .n 2 <| .nil)
  clear hst5 hfr5 hk6
  rw [show (n : Int) + 1 = ((n + 1 : Nat) : Int) by omega] at hfr6
  refine hK9 _ _ ?_
  refine zB fun _ hK10 => ?_
  refine zB fun _ hK11 => ?_
  refine rp0 hst6 hfr6 (.cons rfl (zC rfl) <| .nil) fun a7 w7 m7 hst7 hle7 hk7 => ?_
  have hfr7 := hk7.fr (.o 1 <| .o 3 <| .o 6 <| .o 8 <| .o 2 <| .n 9 <| .nil)
  clear hst6 hfr6 hk7
  refine hK11 _ _ ?_
  refine zN ?_
  have zq1 := hle6.trans hle7
  have zq2 := hle5.trans zq1
  replace hsl_K := hsl_K.mono zq2
  refine ze (T := [(1, _), (3, _), (6, _), (8, _)]) (fun (y : Nat × Nat × Option Addr × Nat × List Tm) => ([(2, .int .i64 (y.2.1 : Int)), (9, .int .i64 (y.1 : Int))] : List (Nat × Value))) (fun y => [_, .blk (.pointer (some ⟨gB, 0, none⟩)) (.cells (tmV ⟨t.kind, t.at_, t.name, t.param, t.n, y.2.2.2.2, [], (zCH rl n t.row)⟩ (⟨y.2.2.1, y.2.2.2.1, none, 0, orr, crr, t0_t, t1_t, t2_t, t3_t, t4_t, t5_t, u0_t, u1_t, u2_t, u3_t, u4_t, u5_t⟩ : TmY)).toArray 33), .rowx (nz (.slice y.2.2.1 y.2.2.2.2.length y.2.2.2.1)) y.2.2.2.2.length 21 33 (MP.reads (fun m vs t => TmR m t vs) 21 y.2.2.2.2), _]) (fun (y : Nat × Nat × Option Addr × Nat × List Tm) m => (fun (y : Nat) (v : Nat) (klo : Option Addr) (klp : Nat) (kl : List Tm) => (y ≤ t.kids.length) ∧ (Tms m klo kl.length klp kl) ∧ (zCQ rl t.kids (n + 1) = kl ++ zCQ rl (t.kids.drop y) v ∧ kl.length = y) ∧ (v + zR (t.kids.drop y) = n + 1 + zR t.kids)) y.1 y.2.1 y.2.2.1 y.2.2.2.1 y.2.2.2.2) (fun y => t.kids.length - y.1) ((0, (n + 1), none, 0, ([] : List Tm))) ⟨hst7, MLe.refl _, hfr7.sub (.c <| .c <| .c <| .c <| .c <| .c <| .nil), ⟨Nat.zero_le _, hsl_K, ⟨rfl, rfl⟩, rfl⟩⟩ fun y a8 w8 m8 hh8 => ?_
  have hst8 := hh8.st; have hle8 := hh8.le; have hfr8 := hh8.fr; have hrel := hh8.rel; clear hh8
  clear hst7 hfr7
  obtain ⟨y, v, klo, klp, kl⟩ := y
  dsimp only at hrel hfr8 hst8
  obtain ⟨hyn, hsl_kl, hlen_kl, hck⟩ := hrel
  have hlh8 := hle8
  refine zB fun _ hK13 => ?_
  refine zB fun _ hK14 => ?_
  have zq3 := zq2.trans hle8
  replace hc3 := hc3.mono zq3
  refine rp0 hst8 hfr8 (.cons rfl (zD rfl) <| .cons rfl (zA (off := 5) rfl underlying33 rfl rfl sizeOf24 rfl) <| .cons rfl (zE rfl hc3 isAgg24 rfl) <| .cons rfl (zY rfl underlying24) <| .cons rfl (z7 rfl rfl) <| .nil) fun a9 w9 m9 hst9 hle9 hk9 => ?_
  have hfr9 := hk9.fr (.o 2 <| .o 9 <| .o 1 <| .o 3 <| .o 6 <| .o 8 <| .n 36 <| .nil)
  clear hst8 hfr8 hk9
  refine hK14 _ _ ?_
  refine zG hfr9 rfl rfl (fun hb36 => ?_) (fun hb36 => ?_)
  ·try simp only [nqs] at hb36
   refine zJ ?_
   refine hK13 _ _ ?_
   refine zB fun _ hK15 => ?_
   refine zN ?_
   refine zB fun _ hK16 => ?_
   refine zu 8 (by kernel_rfl) ?_
   have zq4 := zq3.trans hle9
   replace hkk_t := hkk_t.mono zq4
   obtain ⟨p17, vs17, x17, ho17, hd17, hm_x17, ht17, hcv17, hl17, hv17⟩ := hkk_t.nth (k := y) (by omega)
   cases ho17
   obtain ⟨⟨oK17, cK17, oA17, cA17, oR17, cR17, t017, t117, t217, t317, t417, t517, u017, u117, u217, u317, u417, u517⟩, rfl, hon17, hkk17, haa17, hrr17⟩ := hv17.open_
   dsimp only at hkk17 haa17 hrr17
   have hbg17 := hkk17.big; have hcp17 := hkk17.cap; have hbh17 := haa17.big; have hcq17 := haa17.cap
   rw [hd17] at hlen_kl hck
   rw [zCQ] at hlen_kl; rw [zR] at hck
   replace h_rl := h_rl.mono zq4
   replace hc3 := hc3.mono hle9
   refine zm (tch := []) hst9 hfr9 (by kernel_rfl) (by kernel_rfl) (by kernel_rfl) (.cons rfl (zA (off := 5) rfl underlying33 rfl rfl sizeOf24 rfl) <| .cons rfl (zE rfl hc3 isAgg24 rfl) <| .cons rfl (zD rfl) <| .cons rfl (zH (k := y) rfl rfl underlying24 sizeOf33 rfl (by omega)) <| .cons rfl (zO rfl hcv17 isAgg33 sizeOf33 rfl rfl) <| .cons rfl (zD rfl) <| .cons rfl (zD rfl) <| .cons rfl (zi (φ := MP.rowsV rl x17 v) rfl (.cons rfl <| .cons rfl <| .cons rfl <| .nil) call21 (fun w m hK => by have hle_ := KC.le hK; have hA := KC.agree hK; have h_rl := h_rl.mono hle_; have hv17 := hv17.mono hle_; exact FnG.mono (ihk _ hm_x17 hA hv17 h_rl (by omega)) fun _ _ _ _ h => h)) <| .nil) fun a10 w10 m10 hst10 hle10 hk10 => ?_
   have hfr10 := hk10.fr (.o 2 <| .o 9 <| .o 1 <| .o 3 <| .o 6 <| .o 8 <| .nil)
   obtain ⟨yr, e18, hyr⟩ := hk10.ex 47 rfl
   replace hfr10 := hfr10.cons e18
   clear hst9 hfr9 hk10
   replace hst10 := hst10.more (r := .free) trivial List.nodup_nil (by simp [Res.blocks])
   refine zm (tch := [(3, 4, (fun v => .blk v _)), (4, 4, (fun v => .blk v _))]) hst10 hfr10 (by kernel_rfl) (by kernel_rfl) (by kernel_rfl) (.cons rfl (zD rfl) <| .cons rfl (zS rfl rfl) <| .cons rfl (zS rfl rfl) <| .consT rfl rfl (fun _ => rfl) rfl (zQ zeroValue33 rfl) <| .consT rfl rfl (fun _ => rfl) rfl (zU 10 rfl rfl rfl fun y10 => zb rfl rfl rfl rfl rfl sizeOf33 rfl rfl hyr.one) <| .cons rfl (zC rfl) <| .nil) fun a11 w11 m11 hst11 hle11 hk11 => ?_
   have hfr11 := hk11.fr (.o 2 <| .o 9 <| .o 1 <| .o 3 <| .o 6 <| .o 8 <| .o 47 <| .n 11 <| .nil)
   obtain ⟨g19, e19, _⟩ := hk11.ex 10 rfl
   replace hfr11 := hfr11.cons e19
   replace hst11 := hst11.fin (L' := [_, _, _, _, _]) (.cons e19 <| .cons e19 <| .nil)
   try simp only [List.take_succ_cons, List.take_zero, List.drop_succ_cons, List.drop_zero, List.cons_append, List.nil_append, List.append_nil, List.length_cons, List.length_nil, Nat.zero_add, Nat.reduceAdd] at hst11
   clear hst10 hfr10 hk11
   refine hK16 _ _ ?_
   refine zB fun _ hK20 => ?_
   refine rp0 hst11 hfr11 (.cons rfl (zD rfl) <| .cons rfl (zC rfl) <| .nil) fun a12 w12 m12 hst12 hle12 hk12 => ?_
   have hfr12 := hk12.fr (.o 9 <| .o 1 <| .o 3 <| .o 6 <| .o 8 <| .o 10 <| .n 2 <| .nil)
   clear hst11 hfr11 hk12
   refine hK20 _ _ ?_
   have zq5 := hle11.trans hle12
   replace hyr := hyr.mono zq5
   refine ra0 (tch := [(4, 2, (fun v => .rowx (nz v) _ _ _ _)), (6, 1, (fun u => .blk _ (.cells (_ ++ [u] ++ _).toArray _)))]) hst12 hfr12 (.cons rfl (zA (off := 5) rfl underlying33 rfl rfl sizeOf24 rfl) <| .cons rfl (zM (j := 1) rfl rfl isAgg24 rfl) <| .cons rfl (zd (j := 4) rfl rfl isAgg33 sizeOf33 rfl) <| .cons rfl (z8 rfl underlying24 sizeOf33 zeroValue33 rfl rfl rfl rfl) <| .consT rfl rfl (fun _ => rfl) rfl (zU 54 rfl rfl rfl fun y54 => ZZ (size := 21) (bytes := 312) (l := kl) (l' := [zAn rl x17 v]) rfl rfl (fun _ => by first | exact .inl rfl | exact .inr (.inl rfl)) underlying24 type33 rfl rfl rfl rfl (fun w m hK => Sl.one (R := fun m vs t => TmR m t vs) hK.2 hyr.len (hyr.mono (KC.le hK))) rfl (by decide) (by simp only [maxLen]; omega) (by omega)) <| .cons rfl (zA (off := 5) rfl underlying33 rfl rfl sizeOf24 rfl) <| .consT rfl rfl (fun _ => rfl) rfl (zU 55 rfl rfl rfl fun y55 => zAI rfl rfl rfl rfl rfl sizeOf24 rfl rfl rfl) <| .nil) fun a13 w13 m13 hst13 hle13 hk13 => ?_
   have hfr13 := hk13.fr (.o 9 <| .o 1 <| .o 3 <| .o 6 <| .o 8 <| .o 2 <| .nil)
   obtain ⟨⟨K_21o, K_21p⟩, e22, hsl_K_21⟩ := hk13.ex 55 rfl
   replace hst13 := hst13.fin (L' := [_, _, _, _, _]) (.cons e22 <| .cons e22 <| .nil)
   try simp only [List.take_succ_cons, List.take_zero, List.drop_succ_cons, List.drop_zero, List.cons_append, List.nil_append, List.append_nil, List.length_cons, List.length_nil, Nat.zero_add, Nat.reduceAdd] at hst13
   clear hst12 hfr12 hk13
   replace hsl_K_21 : Tms m13 K_21o (kl ++ [zAn rl x17 v]).length K_21p (kl ++ [zAn rl x17 v]) := hsl_K_21
   refine hK15 _ _ ?_
   refine rp0 hst13 hfr13 (.cons rfl (zD rfl) <| .cons rfl (zk rfl rfl ⟨by omega, by omega⟩) <| .cons rfl (zC rfl) <| .nil) fun a14 w14 m14 hst14 hle14 hk14 => ?_
   have hfr14 := hk14.fr (.o 1 <| .o 3 <| .o 6 <| .o 8 <| .o 2 <| .n 9 <| .nil)
   clear hst13 hfr13 hk14
   have hst14 := hst14.take 4
   replace hsl_K_21 := hsl_K_21.mono hle14
   have zq6 := hle13.trans hle14
   have zq7 := zq5.trans zq6
   have zq8 := hle10.trans zq7
   have zq9 := hle9.trans zq8
   have hlh14 := hlh8.trans zq9
   exact ⟨(y + 1, (v + zP x17), K_21o, K_21p, (kl ++ [zAn rl x17 v])), m14, by show t.kids.length - (y + 1) < t.kids.length - y; omega, ⟨hst14, hlh14, hfr14.sub (.c <| .c <| .c <| .c <| .c <| .c <| .nil), ⟨by show y + 1 ≤ t.kids.length; omega, hsl_K_21, ⟨by rw [hlen_kl.1]; simp, by show (kl ++ [_]).length = y + 1; simp; exact hlen_kl.2⟩, by show v + zP x17 + zR (t.kids.drop (y + 1)) = _; omega⟩⟩⟩
  ·try simp only [nqs] at hb36
   have hge : y = t.kids.length := by omega
   rw [List.drop_of_length_le (by omega)] at hlen_kl hck
   rw [zCQ, List.append_nil] at hlen_kl
   rw [zR] at hck
   refine zg ?_
   refine hK10 _ _ ?_
   refine zB fun _ hK23 => ?_
   refine zB fun _ hK24 => ?_
   refine rp0 hst9 hfr9 (.cons rfl (zC rfl) <| .nil) fun a10 w10 m10 hst10 hle10 hk10 => ?_
   have hfr10 := hk10.fr (.o 2 <| .o 9 <| .o 1 <| .o 3 <| .o 6 <| .o 8 <| .n 12 <| .nil)
   clear hst9 hfr9 hk10
   refine hK24 _ _ ?_
   refine zN ?_
   have zq10 := hle9.trans hle10
   have hlh10 := hlh8.trans zq10
   have hlq25 := hlh10
   have zq11 := zq3.trans zq10
   replace hsl_A := hsl_A.mono zq11
   refine ze (T := [(9, _), (1, _), (3, _), (6, _), (8, _)]) (fun (y : Nat × Nat × Option Addr × Nat × List Ar) => ([(2, .int .i64 (y.2.1 : Int)), (12, .int .i64 (y.1 : Int))] : List (Nat × Value))) (fun y => [_, .blk (.pointer (some ⟨gB, 0, none⟩)) (.cells (tmV ⟨t.kind, t.at_, t.name, t.param, t.n, kl, y.2.2.2.2, (zCH rl n t.row)⟩ (⟨klo, klp, y.2.2.1, y.2.2.2.1, orr, crr, t0_t, t1_t, t2_t, t3_t, t4_t, t5_t, u0_t, u1_t, u2_t, u3_t, u4_t, u5_t⟩ : TmY)).toArray 33), _, .rowx (nz (.slice y.2.2.1 y.2.2.2.2.length y.2.2.2.1)) y.2.2.2.2.length 23 72 (MP.reads (fun m vs t => ArR m t vs) 23 y.2.2.2.2)]) (fun (y : Nat × Nat × Option Addr × Nat × List Ar) m => (fun (y : Nat) (u : Nat) (alo : Option Addr) (alp : Nat) (al : List Ar) => (y ≤ t.arms.length) ∧ (Ars m alo al.length alp al) ∧ (zBU rl t.arms v = al ++ zBU rl (t.arms.drop y) u ∧ al.length = y) ∧ (u + zo (t.arms.drop y) = v + zo t.arms)) y.1 y.2.1 y.2.2.1 y.2.2.2.1 y.2.2.2.2) (fun y => t.arms.length - y.1) ((0, v, none, 0, ([] : List Ar))) ⟨hst10, MLe.refl _, hfr10.sub (.c <| .c <| .c <| .c <| .c <| .c <| .c <| .nil), ⟨Nat.zero_le _, hsl_A, ⟨rfl, rfl⟩, rfl⟩⟩ fun y a11 w11 m11 hh11 => ?_
   have hst11 := hh11.st; have hle11 := hh11.le; have hfr11 := hh11.fr; have hrel := hh11.rel; clear hh11
   clear hst10 hfr10
   obtain ⟨y, u, alo, alp, al⟩ := y
   dsimp only at hrel hfr11 hst11
   obtain ⟨hyn, hsl_al, hlen_al, hcu⟩ := hrel
   have hlh11 := hle11
   refine zB fun _ hK26 => ?_
   refine zB fun _ hK27 => ?_
   have zq12 := zq10.trans hle11
   replace hc3 := hc3.mono zq12
   refine rp0 hst11 hfr11 (.cons rfl (zD rfl) <| .cons rfl (zA (off := 6) rfl underlying33 rfl rfl sizeOf25 rfl) <| .cons rfl (zE rfl hc3 isAgg25 rfl) <| .cons rfl (zY rfl underlying25) <| .cons rfl (z7 rfl rfl) <| .nil) fun a12 w12 m12 hst12 hle12 hk12 => ?_
   have hfr12 := hk12.fr (.o 2 <| .o 12 <| .o 9 <| .o 1 <| .o 3 <| .o 6 <| .o 8 <| .n 61 <| .nil)
   clear hst11 hfr11 hk12
   refine hK27 _ _ ?_
   refine zG hfr12 rfl rfl (fun hb61 => ?_) (fun hb61 => ?_)
   ·try simp only [nqs] at hb61
    refine zJ ?_
    refine hK26 _ _ ?_
    refine zB fun _ hK28 => ?_
    refine zN ?_
    refine zB fun _ hK29 => ?_
    have zq13 := hle11.trans hle12
    have zq14 := zq11.trans zq13
    replace haa_t := haa_t.mono zq14
    obtain ⟨p30, vs30, x30, ho30, hd30, hm_x30, ht30, hcv30, hl30, hv30⟩ := haa_t.nth (k := y) (by omega)
    cases ho30
    obtain ⟨oV30, cV30, bs30, rfl, hva30, hbd30⟩ := hv30.open_
    have hbv30 := hva30.big; have hcv30_ := hva30.cap
    obtain ⟨⟨oK30b, cK30b, oA30b, cA30b, oR30b, cR30b, t030b, t130b, t230b, t330b, t430b, t530b, u030b, u130b, u230b, u330b, u430b, u530b⟩, rfl, hon30b, hkk30b, haa30b, hrr30b⟩ := hbd30.open_
    dsimp only at hkk30b haa30b hrr30b
    have hbg30b := hkk30b.big; have hcp30b := hkk30b.cap; have hbh30b := haa30b.big; have hcq30b := haa30b.cap
    rw [hd30] at hlen_al hcu
    rw [rowsAs_cons] at hlen_al; rw [ZD] at hcu
    replace hst12 := hst12.more (r := .free) trivial List.nodup_nil (by simp [Res.blocks])
    replace hc3 := hc3.mono hle12
    refine ra0 (tch := [(5, 4, (fun v => .blk v _)), (6, 4, (fun v => .blk v _))]) hst12 hfr12 (.cons rfl (zA (off := 6) rfl underlying33 rfl rfl sizeOf25 rfl) <| .cons rfl (zE rfl hc3 isAgg25 rfl) <| .cons rfl (zD rfl) <| .cons rfl (zH (k := y) rfl rfl underlying25 sizeOf72 rfl (by omega)) <| .cons rfl (zO rfl hcv30 isAgg72 sizeOf72 rfl rfl) <| .consT rfl rfl (fun _ => rfl) rfl (zQ zeroValue72 rfl) <| .consT rfl rfl (fun _ => rfl) rfl (zU 13 rfl rfl rfl fun y13 => zb rfl rfl rfl rfl rfl sizeOf72 rfl rfl hv30.one) <| .nil) fun a13 w13 m13 hst13 hle13 hk13 => ?_
    have hfr13 := hk13.fr (.o 2 <| .o 12 <| .o 9 <| .o 1 <| .o 3 <| .o 6 <| .o 8 <| .nil)
    obtain ⟨g31, e31, _⟩ := hk13.ex 13 rfl
    replace hfr13 := hfr13.cons e31
    replace hst13 := hst13.fin (L' := [_, _, _, _, _]) (.cons e31 <| .cons e31 <| .nil)
    try simp only [List.take_succ_cons, List.take_zero, List.drop_succ_cons, List.drop_zero, List.cons_append, List.nil_append, List.append_nil, List.length_cons, List.length_nil, Nat.zero_add, Nat.reduceAdd] at hst13
    clear hst12 hfr12 hk13
    refine hK29 _ _ ?_
    refine zB fun _ hK32 => ?_
    refine zu 5 (by kernel_rfl) ?_
    have zq15 := zq14.trans hle13
    replace h_rl := h_rl.mono zq15
    replace hbd30 := hbd30.mono hle13
    refine zm (tch := []) hst13 hfr13 (by kernel_rfl) (by kernel_rfl) (by kernel_rfl) (.cons rfl (zA (off := 2) rfl underlying72 rfl rfl sizeOf33 rfl) <| .cons rfl (Zo (j := 4) rfl rfl isAgg33 sizeOf33 rfl rfl) <| .cons rfl (zD rfl) <| .cons rfl (zD rfl) <| .cons rfl (zi (φ := MP.rowsV rl x30.body u) rfl (.cons rfl <| .cons rfl <| .cons rfl <| .nil) call21 (fun w m hK => by have hle_ := KC.le hK; have hA := KC.agree hK; have h_rl := h_rl.mono hle_; have hbd30 := hbd30.mono hle_; exact FnG.mono (iha _ hm_x30 hA hbd30 h_rl (by omega)) fun _ _ _ _ h => h)) <| .nil) fun a14 w14 m14 hst14 hle14 hk14 => ?_
    have hfr14 := hk14.fr (.o 2 <| .o 12 <| .o 9 <| .o 1 <| .o 3 <| .o 6 <| .o 8 <| .o 13 <| .nil)
    obtain ⟨yr, e33, hyr⟩ := hk14.ex 74 rfl
    replace hfr14 := hfr14.cons e33
    clear hst13 hfr13 hk14
    replace hst14 := hst14.more (r := .free) trivial List.nodup_nil (by simp [Res.blocks])
    refine zm (tch := [(3, 5, (fun v => .blk v _)), (4, 5, (fun v => .blk v _))]) hst14 hfr14 (by kernel_rfl) (by kernel_rfl) (by kernel_rfl) (.cons rfl (zD rfl) <| .cons rfl (zS rfl rfl) <| .cons rfl (zS rfl rfl) <| .consT rfl rfl (fun _ => rfl) rfl (zQ zeroValue33 rfl) <| .consT rfl rfl (fun _ => rfl) rfl (zU 14 rfl rfl rfl fun y14 => zb rfl rfl rfl rfl rfl sizeOf33 rfl rfl hyr.one) <| .cons rfl (zC rfl) <| .nil) fun a15 w15 m15 hst15 hle15 hk15 => ?_
    have hfr15 := hk15.fr (.o 2 <| .o 12 <| .o 9 <| .o 1 <| .o 3 <| .o 6 <| .o 8 <| .o 13 <| .o 74 <| .n 15 <| .nil)
    obtain ⟨g34, e34, _⟩ := hk15.ex 14 rfl
    replace hfr15 := hfr15.cons e34
    replace hst15 := hst15.fin (L' := [_, _, _, _, _, _]) (.cons e34 <| .cons e34 <| .nil)
    try simp only [List.take_succ_cons, List.take_zero, List.drop_succ_cons, List.drop_zero, List.cons_append, List.nil_append, List.append_nil, List.length_cons, List.length_nil, Nat.zero_add, Nat.reduceAdd] at hst15
    clear hst14 hfr14 hk15
    refine hK32 _ _ ?_
    refine zB fun _ hK35 => ?_
    refine rp0 hst15 hfr15 (.cons rfl (zD rfl) <| .cons rfl (zC rfl) <| .nil) fun a16 w16 m16 hst16 hle16 hk16 => ?_
    have hfr16 := hk16.fr (.o 12 <| .o 9 <| .o 1 <| .o 3 <| .o 6 <| .o 8 <| .o 13 <| .o 14 <| .n 2 <| .nil)
    clear hst15 hfr15 hk16
    refine hK35 _ _ ?_
    refine zB fun _ hK36 => ?_
    have zq16 := hle15.trans hle16
    replace hyr := hyr.mono zq16
    refine ra0 (tch := [(2, 4, (fun _ => .blk _ _))]) hst16 hfr16 (.cons rfl (zd (j := 5) rfl rfl isAgg33 sizeOf33 rfl) <| .cons rfl (zA (off := 2) rfl underlying72 rfl rfl sizeOf33 rfl) <| .consT rfl rfl (fun _ => rfl) rfl (ZE rfl rfl rfl sizeOf33 rfl rfl hyr.one) <| .nil) fun a17 w17 m17 hst17 hle17 hk17 => ?_
    have hfr17 := hk17.fr (.o 12 <| .o 9 <| .o 1 <| .o 3 <| .o 6 <| .o 8 <| .o 13 <| .o 2 <| .nil)
    replace hst17 := hst17.fin (L' := [_, _, _, _, _, _]) (.cons rfl <| .nil)
    try simp only [List.take_succ_cons, List.take_zero, List.drop_succ_cons, List.drop_zero, List.cons_append, List.nil_append, List.append_nil, List.length_cons, List.length_nil, Nat.zero_add, Nat.reduceAdd] at hst17
    clear hst16 hfr16 hk17
    refine hK36 _ _ ?_
    have zq17 := zq16.trans hle17
    have zq18 := hle14.trans zq17
    have zq19 := hle13.trans zq18
    replace hva30 := hva30.mono zq19
    replace hyr := hyr.mono hle17
    refine ra0 (tch := [(4, 3, (fun v => .rowx (nz v) _ _ _ _)), (6, 1, (fun u => .blk _ (.cells (_ ++ [u] ++ _).toArray _)))]) hst17 hfr17 (.cons rfl (zA (off := 6) rfl underlying33 rfl rfl sizeOf25 rfl) <| .cons rfl (zM (j := 1) rfl rfl isAgg25 rfl) <| .cons rfl (zd (j := 4) rfl rfl isAgg72 sizeOf72 rfl) <| .cons rfl (z8 rfl underlying25 sizeOf72 zeroValue72 rfl rfl rfl rfl) <| .consT rfl rfl (fun _ => rfl) rfl (zU 83 rfl rfl rfl fun y83 => ZZ (size := 23) (bytes := 352) (l := al) (l' := [rowsA rl x30 u]) rfl rfl (fun _ => by first | exact .inl rfl | exact .inr (.inl rfl)) underlying25 type72 rfl rfl rfl rfl (fun w m hK => Sl.one (R := fun m vs t => ArR m t vs) hK.2 rfl ⟨_, _, _, rfl, hva30.mono (KC.le hK), hyr.mono (KC.le hK)⟩) rfl (by decide) (by simp only [maxLen]; omega) (by omega)) <| .cons rfl (zA (off := 6) rfl underlying33 rfl rfl sizeOf25 rfl) <| .consT rfl rfl (fun _ => rfl) rfl (zU 84 rfl rfl rfl fun y84 => zAI rfl rfl rfl rfl rfl sizeOf25 rfl rfl rfl) <| .nil) fun a18 w18 m18 hst18 hle18 hk18 => ?_
    have hfr18 := hk18.fr (.o 12 <| .o 9 <| .o 1 <| .o 3 <| .o 6 <| .o 8 <| .o 2 <| .nil)
    obtain ⟨⟨A_37o, A_37p⟩, e38, hsl_A_37⟩ := hk18.ex 84 rfl
    replace hst18 := hst18.fin (L' := [_, _, _, _, _, _]) (.cons e38 <| .cons e38 <| .nil)
    try simp only [List.take_succ_cons, List.take_zero, List.drop_succ_cons, List.drop_zero, List.cons_append, List.nil_append, List.append_nil, List.length_cons, List.length_nil, Nat.zero_add, Nat.reduceAdd] at hst18
    clear hst17 hfr17 hk18
    replace hsl_A_37 : Ars m18 A_37o (al ++ [rowsA rl x30 u]).length A_37p (al ++ [rowsA rl x30 u]) := hsl_A_37
    refine hK28 _ _ ?_
    refine rp0 hst18 hfr18 (.cons rfl (zD rfl) <| .cons rfl (zk rfl rfl ⟨by omega, by omega⟩) <| .cons rfl (zC rfl) <| .nil) fun a19 w19 m19 hst19 hle19 hk19 => ?_
    have hfr19 := hk19.fr (.o 9 <| .o 1 <| .o 3 <| .o 6 <| .o 8 <| .o 2 <| .n 12 <| .nil)
    clear hst18 hfr18 hk19
    have hst19 := hst19.take 4
    replace hsl_A_37 := hsl_A_37.mono hle19
    have zq20 := hle18.trans hle19
    have zq21 := zq19.trans zq20
    have zq22 := hle12.trans zq21
    have hlh19 := hlh11.trans zq22
    exact ⟨(y + 1, (u + zP x30.body), A_37o, A_37p, (al ++ [rowsA rl x30 u])), m19, by show t.arms.length - (y + 1) < t.arms.length - y; omega, ⟨hst19, hlh19, hfr19.sub (.c <| .c <| .c <| .c <| .c <| .c <| .c <| .nil), ⟨by show y + 1 ≤ t.arms.length; omega, hsl_A_37, ⟨by rw [hlen_al.1]; simp, by show (al ++ [_]).length = y + 1; simp; exact hlen_al.2⟩, by show u + zP x30.body + zo (t.arms.drop (y + 1)) = _; omega⟩⟩⟩
   ·try simp only [nqs] at hb61
    have hge : y = t.arms.length := by omega
    rw [List.drop_of_length_le (by omega)] at hlen_al hcu
    rw [zBU, List.append_nil] at hlen_al
    rw [zo] at hcu
    refine zg ?_
    refine hK23 _ _ ?_
    refine zB fun _ hK39 => ?_
    have zq23 := zq12.trans hle12
    have zq24 := hle8.trans zq23
    have zq25 := zq1.trans zq24
    replace hrw9 := hrw9.mono zq25
    replace hsl_kl := hsl_kl.mono zq23
    replace hsl_al := hsl_al.mono hle12
    have hout : TmR m12 ⟨t.kind, t.at_, t.name, t.param, t.n, kl, al, (zCH rl n t.row)⟩ (tmV ⟨t.kind, t.at_, t.name, t.param, t.n, kl, al, (zCH rl n t.row)⟩ (⟨klo, klp, alo, alp, orr, crr, t0_t, t1_t, t2_t, t3_t, t4_t, t5_t, u0_t, u1_t, u2_t, u3_t, u4_t, u5_t⟩ : TmY)) := TmR.build hon_t hsl_kl hsl_al hrw9
    have hfin : zAn rl t n = ⟨t.kind, t.at_, t.name, t.param, t.n, kl, al, (zCH rl n t.row)⟩ := by rw [rowsT_eq, hlen_kl.1, ← hlen_al.1, show v = n + 1 + zR t.kids by omega]
    refine ra0 (tch := [(2, 0, (fun _ => .blk _ _))]) hst12 hfr12 (.cons rfl (zd (j := 1) rfl rfl isAgg33 sizeOf33 rfl) <| .cons rfl (zD rfl) <| .consT rfl rfl (fun _ => rfl) rfl (za rfl rfl rfl sizeOf33 rfl rfl hout.one) <| .cons rfl (zC rfl) <| .nil) fun a13 w13 m13 hst13 hle13 hk13 => ?_
    have hfr13 := hk13.fr (.o 2 <| .o 12 <| .o 9 <| .o 6 <| .n 7 <| .nil)
    replace hst13 := hst13.fin (L' := [_, _, _, _]) (.cons rfl <| .nil)
    try simp only [List.take_succ_cons, List.take_zero, List.drop_succ_cons, List.drop_zero, List.cons_append, List.nil_append, List.append_nil, List.length_cons, List.length_nil, Nat.zero_add, Nat.reduceAdd] at hst13
    clear hst12 hfr12 hk13
    refine hK39 _ _ ?_
    refine zK ?_
    repeat (with_reducible first | refine zI ?_ | refine zF ?_)
    replace hout := hout.mono hle13
    exact zL hst13 hfr13 rfl (.cell rfl (zn (zl (hst13.loc.at_ (k := 0) rfl)) isAgg33 sizeOf33) <| .tmp rfl <| .nil) (⟨(⟨klo, klp, alo, alp, orr, crr, t0_t, t1_t, t2_t, t3_t, t4_t, t5_t, u0_t, u1_t, u2_t, u3_t, u4_t, u5_t⟩ : TmY), by show _ = Value.tuple #[.agg (tmV (zAn rl t n) _).toArray, .int .i64 ((n + zP t : Nat) : Int)]; rw [hfin, show n + zP t = u by omega]; rfl, by show TmR _ (zAn rl t n) (tmV (zAn rl t n) _); rw [hfin]; exact hout⟩)
 ·have hlj8 : MLe m4 m4 := MLe.refl _
  refine zB fun _ hK41 => ?_
  refine rp0 hst4 hfr4 (.cons rfl (zD rfl) <| .cons rfl (zY rfl underlying36) <| .cons rfl (zAw rfl rfl) <| .nil) fun a5 w5 m5 hst5 hle5 hk5 => ?_
  have hfr5 := hk5.fr (.o 1 <| .o 2 <| .o 3 <| .o 6 <| .o 8 <| .n 21 <| .nil)
  clear hst4 hfr4 hk5
  refine hK41 _ _ ?_
  refine zG hfr5 rfl rfl (fun hb21 => ?_) (fun hb21 => ?_)
  ·try simp only [nqs] at hb21
   have hmod : n % rl.length < rl.length := Nat.mod_lt _ (by omega)
   replace h_rl := h_rl.mono hle5
   obtain ⟨p42, vs42, x42, ho42, hd42, hm_x42, ht42, hcv42, hl42, hv42⟩ := h_rl.nth (k := (n % rl.length)) (by omega)
   cases ho42
   obtain ⟨o42, c42, rfl, hs42, hr42⟩ := hv42.open_
   have hbs42 := hs42.big; have hcs42 := hs42.cap
   refine ra0 (tch := [(8, 1, (fun _ => .blk _ _))]) hst5 hfr5 (.cons rfl (zD rfl) <| .cons rfl (zD rfl) <| .cons rfl (zD rfl) <| .cons rfl (zY rfl underlying36) <| .cons rfl (ob_rem rfl rfl (by omega)) <| .cons rfl (zH (k := (n % rl.length)) rfl rfl underlying36 sizeOf29 (by omega) (by omega)) <| .cons rfl (zO rfl hcv42 isAgg29 sizeOf29 rfl rfl) <| .cons rfl (zA (off := 13) rfl underlying33 rfl rfl sizeOf29 rfl) <| .consT rfl rfl (fun _ => rfl) rfl (ZE rfl rfl rfl sizeOf29 rfl rfl rfl) <| .nil) fun a6 w6 m6 hst6 hle6 hk6 => ?_
   have hfr6 := hk6.fr (.o 1 <| .o 2 <| .o 3 <| .o 6 <| .o 8 <| .nil)
   replace hst6 := hst6.fin (L' := [_, _, _, _]) (.cons rfl <| .nil)
   try simp only [List.take_succ_cons, List.take_zero, List.drop_succ_cons, List.drop_zero, List.cons_append, List.nil_append, List.append_nil, List.length_cons, List.length_nil, Nat.zero_add, Nat.reduceAdd] at hst6
   clear hst5 hfr5 hk6
   repeat (with_reducible first | refine ZM ?_ | refine ZF ?_ | refine zw ?_)
   have zq26 := hle5.trans hle6
   replace hlj8 := hlj8.trans zq26
   replace hv42 := hv42.mono hle6
   exact hj8 (x42, _, _) _ _ _ ⟨hst6, hlj8, hfr6.sub (.c <| .c <| .c <| .c <| .c <| .nil), ⟨by unfold zCH; rw [if_neg (fun h => by rw [h] at hb21; simp at hb21), Zr hd42], hv42⟩⟩
  ·try simp only [nqs] at hb21
   have hnil : rl = [] := List.eq_nil_of_length_eq_zero (by omega)
   refine zJ ?_
   repeat (with_reducible first | refine ZM ?_ | refine ZF ?_ | refine zw ?_)
   replace hrr_t := hrr_t.mono hle5
   replace hlj8 := hlj8.trans hle5
   exact hj8 (t.row, oR_t, cR_t) _ _ _ ⟨hst5, hlj8, hfr5.sub (.c <| .c <| .c <| .c <| .c <| .nil), ⟨by unfold zCH; rw [if_pos hnil], hrr_t⟩⟩
abbrev zDU (t : Cd) : Prop := ∀ {w : World} {m : Mem} {vs_t : List Value} {us_t : List Value} (hA : Agree w m) (h_t : CdR m t vs_t) (g_t : CdR m t us_t), FnV Tryd.prog 13 #[.agg vs_t.toArray, .agg us_t.toArray] w m (fun _ _ v => v = .bool true)
set_option maxHeartbeats 1600000 in
theorem csame_s {t : Cd} (ihk : ∀ u ∈ t.kids, zDU u) (iha : ∀ a ∈ t.arms, zDU a.body) {w : World} {m : Mem} {vs_t : List Value} {us_t : List Value} (hA : Agree w m) (h_t : CdR m t vs_t) (g_t : CdR m t us_t) : FnV Tryd.prog 13 #[.agg vs_t.toArray, .agg us_t.toArray] w m (fun _ _ v => v = .bool true) := by
 obtain ⟨⟨oK_t, cK_t, oA_t, cA_t⟩, rfl, ⟨hik_t, hin_t⟩, hkk_t, haa_t⟩ := h_t.open_
 dsimp only at hkk_t haa_t
 have hbg_t := hkk_t.big; have hcp_t := hkk_t.cap; have hbh_t := haa_t.big; have hcq_t := haa_t.cap
 obtain ⟨⟨oK_z, cK_z, oA_z, cA_z⟩, rfl, ⟨hik_z, hin_z⟩, hkk_z, haa_z⟩ := g_t.open_
 dsimp only at hkk_z haa_z
 have hbg_z := hkk_z.big; have hcp_z := hkk_z.cap; have hbh_z := haa_z.big; have hcq_z := haa_z.cap
 refine zX (vs := [_, _]) func13 rfl rfl rfl fun a0 hfr0 => ?_
 have hst0 := zW hA (zf [] _ w m)
 have hM : MLe m m := MLe.refl m
 refine zB fun _ hK1 => ?_
 refine rp0 hst0 hfr0 (.cons rfl (zv rfl rfl) <| .cons rfl (zv rfl rfl) <| .cons rfl (zC rfl) <| .nil) fun a1 w1 m1 hst1 hle1 hk1 => ?_
 have hfr1 := hk1.fr (.nil)
 obtain ⟨g2, e2, hc2⟩ := hk1.ex 2 rfl
 replace hfr1 := hfr1.cons e2
 obtain ⟨g3, e3, hc3⟩ := hk1.ex 3 rfl
 replace hfr1 := hfr1.cons e3
 replace hkk_t := hkk_t.mono hle1
 replace haa_t := haa_t.mono hle1
 replace hkk_z := hkk_z.mono hle1
 replace haa_z := haa_z.mono hle1
 clear hst0 hfr0 hk1
 refine hK1 _ _ ?_
 refine zB fun _ hK4 => ?_
 refine zB fun _ hK5 => ?_
 refine rp0 hst1 hfr1 (.cons rfl (zA (off := 0) rfl underlying46 rfl rfl sizeOf3 rfl) <| .cons rfl (zE rfl hc2 isAgg3 rfl) <| .cons rfl (zA (off := 0) rfl underlying46 rfl rfl sizeOf3 rfl) <| .cons rfl (zE rfl hc3 isAgg3 rfl) <| .cons rfl (ZP rfl rfl) <| .cons rfl (zD rfl) <| .cons rfl (zA (off := 1) rfl underlying46 rfl rfl sizeOf9 rfl) <| .cons rfl (zE rfl hc2 isAgg9 rfl) <| .cons rfl (zA (off := 1) rfl underlying46 rfl rfl sizeOf9 rfl) <| .cons rfl (zE rfl hc3 isAgg9 rfl) <| .cons rfl (Z7 rfl rfl) <| .cons rfl (zx rfl rfl rfl) <| .cons rfl (zD rfl) <| .cons rfl (zA (off := 2) rfl underlying46 rfl rfl sizeOf9 rfl) <| .cons rfl (zE rfl hc2 isAgg9 rfl) <| .cons rfl (zA (off := 2) rfl underlying46 rfl rfl sizeOf9 rfl) <| .cons rfl (zE rfl hc3 isAgg9 rfl) <| .cons rfl (Z7 rfl rfl) <| .cons rfl (zx rfl rfl rfl) <| .cons rfl (zD rfl) <| .cons rfl (zA (off := 3) rfl underlying46 rfl rfl sizeOf3 rfl) <| .cons rfl (zE rfl hc2 isAgg3 rfl) <| .cons rfl (zA (off := 3) rfl underlying46 rfl rfl sizeOf3 rfl) <| .cons rfl (zE rfl hc3 isAgg3 rfl) <| .cons rfl (ZP rfl rfl) <| .cons rfl (zx rfl rfl rfl) <| .cons rfl (zD rfl) <| .cons rfl (zA (off := 4) rfl underlying46 rfl rfl sizeOf43 rfl) <| .cons rfl (zE rfl hc2 isAgg43 rfl) <| .cons rfl (zY rfl underlying43) <| .cons rfl (zA (off := 4) rfl underlying46 rfl rfl sizeOf43 rfl) <| .cons rfl (zE rfl hc3 isAgg43 rfl) <| .cons rfl (zY rfl underlying43) <| .cons rfl (ZP rfl rfl) <| .cons rfl (zx rfl rfl rfl) <| .cons rfl (zD rfl) <| .cons rfl (zA (off := 5) rfl underlying46 rfl rfl sizeOf44 rfl) <| .cons rfl (zE rfl hc2 isAgg44 rfl) <| .cons rfl (zY rfl underlying44) <| .cons rfl (zA (off := 5) rfl underlying46 rfl rfl sizeOf44 rfl) <| .cons rfl (zE rfl hc3 isAgg44 rfl) <| .cons rfl (zY rfl underlying44) <| .cons rfl (ZP rfl rfl) <| .cons rfl (zx rfl rfl rfl) <| .nil) fun a2 w2 m2 hst2 hle2 hk2 => ?_
 have hfr2 := hk2.fr (.o 2 <| .o 3 <| .n 54 <| .nil)
 replace hkk_t := hkk_t.mono hle2
 replace haa_t := haa_t.mono hle2
 replace hkk_z := hkk_z.mono hle2
 replace haa_z := haa_z.mono hle2
 replace hc2 := hc2.mono hle2
 replace hc3 := hc3.mono hle2
 clear hst1 hfr1 hk2
 refine hK5 _ _ ?_
 refine zG hfr2 rfl rfl (fun hb54 => ?_) (fun hb54 => ?_)
 ·simp at hb54
 ·try simp only [nqs] at hb54
  refine zJ ?_
  refine hK4 _ _ ?_
  refine zB fun _ hK6 => ?_
  refine zB fun _ hK7 => ?_
  refine rp0 hst2 hfr2 (.cons rfl (zC rfl) <| .nil) fun a3 w3 m3 hst3 hle3 hk3 => ?_
  have hfr3 := hk3.fr (.o 2 <| .o 3 <| .n 5 <| .nil)
  clear hst2 hfr2 hk3
  refine hK7 _ _ ?_
  refine zN ?_
  refine ze (T := [(2, _), (3, _)]) (fun (y : Nat) => ([(5, .int .i64 (y : Int))] : List (Nat × Value))) (fun _ => _) (fun (y : Nat) m => (y ≤ t.kids.length)) (fun y => t.kids.length - y) (0) ⟨hst3, MLe.refl _, hfr3.sub (.c <| .c <| .c <| .nil), Nat.zero_le _⟩ fun y a4 w4 m4 hh4 => ?_
  have hst4 := hh4.st; have hle4 := hh4.le; have hfr4 := hh4.fr; have hrel := hh4.rel; clear hh4
  clear hst3 hfr3
  have hyn := hrel
  have hlh4 := hle4
  refine zB fun _ hK9 => ?_
  refine zB fun _ hK10 => ?_
  have zq1 := hle3.trans hle4
  replace hc2 := hc2.mono zq1
  refine rp0 hst4 hfr4 (.cons rfl (zD rfl) <| .cons rfl (zA (off := 4) rfl underlying46 rfl rfl sizeOf43 rfl) <| .cons rfl (zE rfl hc2 isAgg43 rfl) <| .cons rfl (zY rfl underlying43) <| .cons rfl (z7 rfl rfl) <| .nil) fun a5 w5 m5 hst5 hle5 hk5 => ?_
  have hfr5 := hk5.fr (.o 5 <| .o 2 <| .o 3 <| .n 59 <| .nil)
  clear hst4 hfr4 hk5
  refine hK10 _ _ ?_
  refine zG hfr5 rfl rfl (fun hb59 => ?_) (fun hb59 => ?_)
  ·try simp only [nqs] at hb59
   refine zJ ?_
   refine hK9 _ _ ?_
   refine zB fun _ hK11 => ?_
   refine zN ?_
   refine zB fun _ hK12 => ?_
   have zq2 := zq1.trans hle5
   replace hkk_t := hkk_t.mono zq2
   obtain ⟨p13, vs13, x13, ho13, hd13, hm_x13, ht13, hcv13, hl13, hv13⟩ := hkk_t.nth (k := y) (by omega)
   cases ho13
   obtain ⟨⟨oK13, cK13, oA13, cA13⟩, rfl, ⟨hik13, hin13⟩, hkk13, haa13⟩ := hv13.open_
   dsimp only at hkk13 haa13
   have hbg13 := hkk13.big; have hcp13 := hkk13.cap; have hbh13 := haa13.big; have hcq13 := haa13.cap
   replace hkk_z := hkk_z.mono zq2
   obtain ⟨p14, vs14, x14, ho14, hd14, hm_x14, ht14, hcv14, hl14, hv14⟩ := hkk_z.nth (k := y) (by omega)
   cases ho14
   obtain ⟨⟨oK14, cK14, oA14, cA14⟩, rfl, ⟨hik14, hin14⟩, hkk14, haa14⟩ := hv14.open_
   dsimp only at hkk14 haa14
   have hbg14 := hkk14.big; have hcp14 := hkk14.cap; have hbh14 := haa14.big; have hcq14 := haa14.cap
   have hxe := hd13.symm.trans hd14
   injection hxe with hxe _
   subst hxe
   replace hc3 := hc3.mono zq2
   replace hc2 := hc2.mono hle5
   refine ZC (fun _ => mixed) hst5 hfr5 (by kernel_rfl) (by kernel_rfl) (.cons rfl (zA (off := 4) rfl underlying46 rfl rfl sizeOf43 rfl) <| .cons rfl (zE rfl hc2 isAgg43 rfl) <| .cons rfl (zD rfl) <| .cons rfl (zH (k := y) rfl rfl underlying43 sizeOf46 rfl (by omega)) <| .cons rfl (zO rfl hcv13 isAgg46 sizeOf46 rfl rfl) <| .cons rfl (zA (off := 4) rfl underlying46 rfl rfl sizeOf43 rfl) <| .cons rfl (zE rfl hc3 isAgg43 rfl) <| .cons rfl (zD rfl) <| .cons rfl (zH (k := y) rfl rfl underlying43 sizeOf46 rfl (by omega)) <| .cons rfl (zO rfl hcv14 isAgg46 sizeOf46 rfl rfl) <| .cons rfl (zc rfl (.cons rfl <| .cons rfl <| .nil) call13 (fun w m hK => by have hle_ := KC.le hK; have hA := KC.agree hK; have hv13 := hv13.mono hle_; have hv14 := hv14.mono hle_; exact ihk _ hm_x13 hA hv13 hv14)) <| .cons rfl (zC rfl) <| .nil) fun a6 w6 m6 hst6 hle6 hk6 => ?_
   have hfr6 := hk6.fr (.o 5 <| .o 2 <| .o 3 <| .n 6 <| .nil)
   clear hst5 hfr5 hk6
   refine hK12 _ _ ?_
   refine zB fun _ hK15 => ?_
   refine rp0 hst6 hfr6 (.cons rfl (zD rfl) <| .cons rfl (Zn rfl) <| .nil) fun a7 w7 m7 hst7 hle7 hk7 => ?_
   have hfr7 := hk7.fr (.o 5 <| .o 2 <| .o 3 <| .n 74 <| .nil)
   clear hst6 hfr6 hk7
   refine hK15 _ _ ?_
   refine zG hfr7 rfl rfl (fun hb74 => ?_) (fun hb74 => ?_)
   ·simp at hb74
   ·try simp only [nqs] at hb74
    refine zJ ?_
    refine hK11 _ _ ?_
    refine rp0 hst7 hfr7 (.cons rfl (zD rfl) <| .cons rfl (zk rfl rfl ⟨by omega, by omega⟩) <| .cons rfl (zC rfl) <| .nil) fun a8 w8 m8 hst8 hle8 hk8 => ?_
    have hfr8 := hk8.fr (.o 2 <| .o 3 <| .n 5 <| .nil)
    clear hst7 hfr7 hk8
    have zq3 := hle7.trans hle8
    have zq4 := hle6.trans zq3
    have zq5 := hle5.trans zq4
    have hlh8 := hlh4.trans zq5
    exact ⟨y + 1, m8, by show t.kids.length - (y + 1) < t.kids.length - y; omega, ⟨hst8, hlh8, hfr8.sub (.c <| .c <| .c <| .nil), by show y + 1 ≤ t.kids.length; omega⟩⟩
  ·try simp only [nqs] at hb59
   have hge : y = t.kids.length := by omega
   refine zg ?_
   refine hK6 _ _ ?_
   refine zB fun _ hK16 => ?_
   refine zB fun _ hK17 => ?_
   refine rp0 hst5 hfr5 (.cons rfl (zC rfl) <| .nil) fun a6 w6 m6 hst6 hle6 hk6 => ?_
   have hfr6 := hk6.fr (.o 5 <| .o 2 <| .o 3 <| .n 7 <| .nil)
   clear hst5 hfr5 hk6
   refine hK17 _ _ ?_
   refine zN ?_
   have zq6 := hle5.trans hle6
   have hlh6 := hlh4.trans zq6
   have hlq18 := hlh6
   refine ze (T := [(5, _), (2, _), (3, _)]) (fun (y : Nat) => ([(7, .int .i64 (y : Int))] : List (Nat × Value))) (fun _ => _) (fun (y : Nat) m => (y ≤ t.arms.length)) (fun y => t.arms.length - y) (0) ⟨hst6, MLe.refl _, hfr6.sub (.c <| .c <| .c <| .c <| .nil), Nat.zero_le _⟩ fun y a7 w7 m7 hh7 => ?_
   have hst7 := hh7.st; have hle7 := hh7.le; have hfr7 := hh7.fr; have hrel := hh7.rel; clear hh7
   clear hst6 hfr6
   have hyn := hrel
   have hlh7 := hle7
   refine zB fun _ hK19 => ?_
   refine zB fun _ hK20 => ?_
   have zq7 := zq6.trans hle7
   replace hc2 := hc2.mono zq7
   refine rp0 hst7 hfr7 (.cons rfl (zD rfl) <| .cons rfl (zA (off := 5) rfl underlying46 rfl rfl sizeOf44 rfl) <| .cons rfl (zE rfl hc2 isAgg44 rfl) <| .cons rfl (zY rfl underlying44) <| .cons rfl (z7 rfl rfl) <| .nil) fun a8 w8 m8 hst8 hle8 hk8 => ?_
   have hfr8 := hk8.fr (.o 7 <| .o 5 <| .o 2 <| .o 3 <| .n 79 <| .nil)
   clear hst7 hfr7 hk8
   refine hK20 _ _ ?_
   refine zG hfr8 rfl rfl (fun hb79 => ?_) (fun hb79 => ?_)
   ·try simp only [nqs] at hb79
    refine zJ ?_
    refine hK19 _ _ ?_
    refine zB fun _ hK21 => ?_
    refine zN ?_
    refine zB fun _ hK22 => ?_
    have zq8 := zq7.trans hle8
    have zq9 := zq1.trans zq8
    replace haa_t := haa_t.mono zq9
    obtain ⟨p23, vs23, x23, ho23, hd23, hm_x23, ht23, hcv23, hl23, hv23⟩ := haa_t.nth (k := y) (by omega)
    cases ho23
    obtain ⟨oV23, cV23, bs23, rfl, hva23, hbd23⟩ := hv23.open_
    have hbv23 := hva23.big; have hcv23_ := hva23.cap
    obtain ⟨⟨oK23b, cK23b, oA23b, cA23b⟩, rfl, ⟨hik23b, hin23b⟩, hkk23b, haa23b⟩ := hbd23.open_
    dsimp only at hkk23b haa23b
    have hbg23b := hkk23b.big; have hcp23b := hkk23b.cap; have hbh23b := haa23b.big; have hcq23b := haa23b.cap
    replace haa_z := haa_z.mono zq9
    obtain ⟨p24, vs24, x24, ho24, hd24, hm_x24, ht24, hcv24, hl24, hv24⟩ := haa_z.nth (k := y) (by omega)
    cases ho24
    obtain ⟨oV24, cV24, bs24, rfl, hva24, hbd24⟩ := hv24.open_
    have hbv24 := hva24.big; have hcv24_ := hva24.cap
    obtain ⟨⟨oK24b, cK24b, oA24b, cA24b⟩, rfl, ⟨hik24b, hin24b⟩, hkk24b, haa24b⟩ := hbd24.open_
    dsimp only at hkk24b haa24b
    have hbg24b := hkk24b.big; have hcp24b := hkk24b.cap; have hbh24b := haa24b.big; have hcq24b := haa24b.cap
    have hxe := hd23.symm.trans hd24
    injection hxe with hxe _
    subst hxe
    replace hst8 := hst8.more (r := .free) trivial List.nodup_nil (by simp [Res.blocks])
    replace hc2 := hc2.mono hle8
    refine ra0 (tch := [(5, 0, (fun v => .blk v _)), (6, 0, (fun v => .blk v _))]) hst8 hfr8 (.cons rfl (zA (off := 5) rfl underlying46 rfl rfl sizeOf44 rfl) <| .cons rfl (zE rfl hc2 isAgg44 rfl) <| .cons rfl (zD rfl) <| .cons rfl (zH (k := y) rfl rfl underlying44 sizeOf78 rfl (by omega)) <| .cons rfl (zO rfl hcv23 isAgg78 sizeOf78 rfl rfl) <| .consT rfl rfl (fun _ => rfl) rfl (zQ zeroValue78 rfl) <| .consT rfl rfl (fun _ => rfl) rfl (zU 8 rfl rfl rfl fun y8 => zb rfl rfl rfl rfl rfl sizeOf78 rfl rfl hv23.one) <| .nil) fun a9 w9 m9 hst9 hle9 hk9 => ?_
    have hfr9 := hk9.fr (.o 7 <| .o 5 <| .o 2 <| .o 3 <| .nil)
    obtain ⟨g25, e25, _⟩ := hk9.ex 8 rfl
    replace hfr9 := hfr9.cons e25
    replace hst9 := hst9.fin (L' := [_]) (.cons e25 <| .cons e25 <| .nil)
    try simp only [List.take_succ_cons, List.take_zero, List.drop_succ_cons, List.drop_zero, List.cons_append, List.nil_append, List.append_nil, List.length_cons, List.length_nil, Nat.zero_add, Nat.reduceAdd] at hst9
    clear hst8 hfr8 hk9
    refine hK22 _ _ ?_
    refine zB fun _ hK26 => ?_
    replace hst9 := hst9.more (r := .free) trivial List.nodup_nil (by simp [Res.blocks])
    have zq10 := zq9.trans hle9
    replace hc3 := hc3.mono zq10
    replace hcv24 := hcv24.mono hle9
    replace hv24 := hv24.mono hle9
    refine ra0 (tch := [(5, 1, (fun v => .blk v _)), (6, 1, (fun v => .blk v _))]) hst9 hfr9 (.cons rfl (zA (off := 5) rfl underlying46 rfl rfl sizeOf44 rfl) <| .cons rfl (zE rfl hc3 isAgg44 rfl) <| .cons rfl (zD rfl) <| .cons rfl (zH (k := y) rfl rfl underlying44 sizeOf78 rfl (by omega)) <| .cons rfl (zO rfl hcv24 isAgg78 sizeOf78 rfl rfl) <| .consT rfl rfl (fun _ => rfl) rfl (zQ zeroValue78 rfl) <| .consT rfl rfl (fun _ => rfl) rfl (zU 9 rfl rfl rfl fun y9 => zb rfl rfl rfl rfl rfl sizeOf78 rfl rfl hv24.one) <| .nil) fun a10 w10 m10 hst10 hle10 hk10 => ?_
    have hfr10 := hk10.fr (.o 7 <| .o 5 <| .o 2 <| .o 3 <| .o 8 <| .nil)
    obtain ⟨g27, e27, _⟩ := hk10.ex 9 rfl
    replace hfr10 := hfr10.cons e27
    replace hst10 := hst10.fin (L' := [_, _]) (.cons e27 <| .cons e27 <| .nil)
    try simp only [List.take_succ_cons, List.take_zero, List.drop_succ_cons, List.drop_zero, List.cons_append, List.nil_append, List.append_nil, List.length_cons, List.length_nil, Nat.zero_add, Nat.reduceAdd] at hst10
    clear hst9 hfr9 hk10
    refine hK26 _ _ ?_
    refine zB fun _ hK28 => ?_
    have zq11 := hle9.trans hle10
    replace hva23 := hva23.mono zq11
    replace hbd23 := hbd23.mono zq11
    replace hva24 := hva24.mono zq11
    replace hbd24 := hbd24.mono zq11
    refine rp0 hst10 hfr10 (.cons rfl (zA (off := 0) rfl underlying78 rfl rfl sizeOf9 rfl) <| .cons rfl (zM (j := 0) rfl rfl isAgg9 rfl) <| .cons rfl (zA (off := 0) rfl underlying78 rfl rfl sizeOf9 rfl) <| .cons rfl (zM (j := 1) rfl rfl isAgg9 rfl) <| .cons rfl (z6 rfl rfl) <| .cons rfl (zD rfl) <| .cons rfl (zA (off := 2) rfl underlying78 rfl rfl sizeOf4 rfl) <| .cons rfl (zM (j := 0) rfl rfl isAgg4 rfl) <| .cons rfl (zA (off := 2) rfl underlying78 rfl rfl sizeOf4 rfl) <| .cons rfl (zM (j := 1) rfl rfl isAgg4 rfl) <| .cons rfl (ob_beql rfl rfl underlying4) <| .cons rfl (ZI rfl rfl rfl) <| .cons rfl (zD rfl) <| .cons rfl (zA (off := 1) rfl underlying78 rfl rfl sizeOf27 rfl) <| .cons rfl (zM (j := 0) rfl rfl isAgg27 rfl) <| .cons rfl (zA (off := 1) rfl underlying78 rfl rfl sizeOf27 rfl) <| .cons rfl (zM (j := 1) rfl rfl isAgg27 rfl) <| .cons rfl (zc rfl (.cons rfl <| .cons rfl <| .nil) call32 (fun w m hK => by have hle_ := KC.le hK; have hA := KC.agree hK; have hva23 := hva23.mono hle_; have hva24 := hva24.mono hle_; exact sameNames_c hA hva23 hva24)) <| .cons rfl (ZI rfl rfl rfl) <| .cons rfl (zD rfl) <| .cons rfl (zA (off := 3) rfl underlying78 rfl rfl sizeOf46 rfl) <| .cons rfl (Zo (j := 0) rfl rfl isAgg46 sizeOf46 rfl rfl) <| .cons rfl (zA (off := 3) rfl underlying78 rfl rfl sizeOf46 rfl) <| .cons rfl (Zo (j := 1) rfl rfl isAgg46 sizeOf46 rfl rfl) <| .cons rfl (zc rfl (.cons rfl <| .cons rfl <| .nil) call13 (fun w m hK => by have hle_ := KC.le hK; have hA := KC.agree hK; have hbd23 := hbd23.mono hle_; have hbd24 := hbd24.mono hle_; exact iha _ hm_x23 hA hbd23 hbd24)) <| .cons rfl (ZI rfl rfl rfl) <| .cons rfl (zC rfl) <| .nil) fun a11 w11 m11 hst11 hle11 hk11 => ?_
    have hfr11 := hk11.fr (.o 7 <| .o 5 <| .o 2 <| .o 3 <| .n 10 <| .nil)
    clear hst10 hfr10 hk11
    refine hK28 _ _ ?_
    refine zB fun _ hK29 => ?_
    refine rp0 hst11 hfr11 (.cons rfl (zD rfl) <| .cons rfl (Zn rfl) <| .nil) fun a12 w12 m12 hst12 hle12 hk12 => ?_
    have hfr12 := hk12.fr (.o 7 <| .o 5 <| .o 2 <| .o 3 <| .n 119 <| .nil)
    clear hst11 hfr11 hk12
    refine hK29 _ _ ?_
    refine zG hfr12 rfl rfl (fun hb119 => ?_) (fun hb119 => ?_)
    ·simp at hb119
    ·try simp only [nqs] at hb119
     refine zJ ?_
     refine hK21 _ _ ?_
     refine rp0 hst12 hfr12 (.cons rfl (zD rfl) <| .cons rfl (zk rfl rfl ⟨by omega, by omega⟩) <| .cons rfl (zC rfl) <| .nil) fun a13 w13 m13 hst13 hle13 hk13 => ?_
     have hfr13 := hk13.fr (.o 5 <| .o 2 <| .o 3 <| .n 7 <| .nil)
     clear hst12 hfr12 hk13
     have hst13 := hst13.take 0
     have zq12 := hle12.trans hle13
     have zq13 := hle11.trans zq12
     have zq14 := zq11.trans zq13
     have zq15 := hle8.trans zq14
     have hlh13 := hlh7.trans zq15
     exact ⟨y + 1, m13, by show t.arms.length - (y + 1) < t.arms.length - y; omega, ⟨hst13, hlh13, hfr13.sub (.c <| .c <| .c <| .c <| .nil), by show y + 1 ≤ t.arms.length; omega⟩⟩
   ·try simp only [nqs] at hb79
    have hge : y = t.arms.length := by omega
    refine zg ?_
    refine hK16 _ _ ?_
    refine zB fun _ hK30 => ?_
    refine rp0 hst8 hfr8 (.cons rfl (zC rfl) <| .nil) fun a9 w9 m9 hst9 hle9 hk9 => ?_
    have hfr9 := hk9.fr (.o 7 <| .o 5 <| .n 4 <| .nil)
    clear hst8 hfr8 hk9
    refine hK30 _ _ ?_
    refine zK ?_
    repeat (with_reducible first | refine zI ?_ | refine zF ?_)
    exact zL hst9 hfr9 rfl (.tmp rfl <| .nil) (rfl)
theorem csame_c (t : Cd) : zDU t := Cd.rec_ (p := zDU) (fun t ihk iha => csame_s ihk iha) t
set_option maxHeartbeats 1600000 in
theorem whole_c {w : World} {m : Mem} {n : Int} (hA : Agree w m)  : FnV Tryd.prog 30 #[.int .i64 n] w m (fun _ m v => (MP.tm (intT n)).p m v) := by
 refine zX (vs := [_]) func30 rfl rfl rfl fun a0 hfr0 => ?_
 have hst0 := zW hA (zf [] _ w m)
 have hM : MLe m m := MLe.refl m
 refine zB fun _ hK1 => ?_
 replace hst0 := hst0.more (r := .free) trivial List.nodup_nil (by simp [Res.blocks])
 refine ra0 (tch := [(0, 0, (fun v => .blk v _))]) hst0 hfr0 (.consT rfl rfl (fun _ => rfl) rfl (zQ zeroValue33 rfl) <| .nil) fun a1 w1 m1 hst1 hle1 hk1 => ?_
 have hfr1 := hk1.fr (.o 0 <| .nil)
 obtain ⟨g2, e2, _⟩ := hk1.ex 2 rfl
 replace hfr1 := hfr1.cons e2
 replace hst1 := hst1.fin (L' := [_]) (.cons e2 <| .nil)
 clear hst0 hfr0 hk1
 refine hK1 _ _ ?_
 refine zB fun _ hK3 => ?_
 refine ra0 (tch := [(2, 0, (fun _ => .blk _ _))]) hst1 hfr1 (.cons rfl (zD rfl) <| .cons rfl (zq (.cons rfl <| .cons rfl <| .nil) underlying33 zeroValue33 (.cons sizeOf3 <| .cons sizeOf3 <| .cons sizeOf9 <| .cons sizeOf9 <| .cons sizeOf3 <| .cons sizeOf24 <| .cons sizeOf25 <| .cons sizeOf31 <| .cons sizeOf29 <| .cons sizeOf31 <| .nil) rfl) <| .consT rfl rfl (fun _ => rfl) rfl (za rfl rfl rfl sizeOf33 rfl rfl rfl) <| .nil) fun a2 w2 m2 hst2 hle2 hk2 => ?_
 have hfr2 := hk2.fr (.o 2 <| .nil)
 replace hst2 := hst2.fin (L' := [_]) (.cons rfl <| .nil)
 try simp only [List.take_succ_cons, List.take_zero, List.drop_succ_cons, List.drop_zero, List.cons_append, List.nil_append, List.append_nil, List.length_cons, List.length_nil, Nat.zero_add, Nat.reduceAdd] at hst2
 clear hst1 hfr1 hk2
 refine hK3 _ _ ?_
 refine zK ?_
 repeat (with_reducible first | refine zI ?_ | refine zF ?_)
 exact zL hst2 hfr2 rfl (.cell rfl (zn (zl (hst2.loc.at_ (k := 0) rfl)) isAgg33 sizeOf33) <| .nil) (⟨TmY.zero none 0 none 0, rfl, TmR.build TmY.zero_one Sl.empty Sl.empty ⟨_, _, rfl, Sl.empty, inI0⟩⟩)
set_option maxHeartbeats 1600000 in
theorem shown_c {w : World} {m : Mem}  (hA : Agree w m) (hT : Tab w) : FnV Tryd.prog 9 #[] w m (fun _ _ v => v = .bool true) := by
 refine zX (vs := []) func9 rfl rfl rfl fun a0 hfr0 => ?_
 have hst0 := zW hA (zf [] _ w m)
 have hM : MLe m m := MLe.refl m
 refine zB fun _ hK1 => ?_
 refine rp0 hst0 hfr0 (.cons rfl (zC rfl) <| .nil) fun a1 w1 m1 hst1 hle1 hk1 => ?_
 have hfr1 := hk1.fr (.nil)
 clear hst0 hfr0 hk1
 refine hK1 _ _ ?_
 refine zB fun _ hK2 => ?_
 refine zu 6 (by kernel_rfl) ?_
 refine zm (tch := []) hst1 hfr1 (by kernel_rfl) (by kernel_rfl) (by kernel_rfl) (.cons rfl (zi (φ := MP.tm (Zb [102])) rfl (.cons rfl <| .nil) call29 (fun w m hK => by have hle_ := KC.le hK; have hA := KC.agree hK; exact FnG.mono (v_c (s := [102]) hA) fun _ _ _ _ h => h)) <| .cons rfl (zi (φ := MP.tm (Zb [103])) rfl (.cons rfl <| .nil) call29 (fun w m hK => by have hle_ := KC.le hK; have hA := KC.agree hK; exact FnG.mono (v_c (s := [103]) hA) fun _ _ _ _ h => h)) <| .cons rfl (zi (φ := MP.tm (intT 1)) rfl (.cons rfl <| .nil) call30 (fun w m hK => by have hle_ := KC.le hK; have hA := KC.agree hK; exact FnG.mono (whole_c (n := 1) hA) fun _ _ _ _ h => h)) <| .cons rfl (Z6 3 rfl rfl rfl fun y3 => Z6 4 rfl rfl rfl fun y4 => zi (φ := MP.tm (Zh (Zb [103]) (intT 1))) rfl (.cons rfl <| .cons rfl <| .nil) call28 (fun w m hK => by have hle_ := KC.le hK; have hA := KC.agree hK; have hr0_ := hK.2; have hr1_ := hK.1.2; exact FnG.mono (call_c (f := (Zb [103])) (a := (intT 1)) hA hr1_ hr0_) fun _ _ _ _ h => h)) <| .cons rfl (Z6 2 rfl rfl rfl fun y2 => Z6 5 rfl rfl rfl fun y5 => zi (φ := MP.tm (Zh (Zb [102]) (Zh (Zb [103]) (intT 1)))) rfl (.cons rfl <| .cons rfl <| .nil) call28 (fun w m hK => by have hle_ := KC.le hK; have hA := KC.agree hK; have hr0_ := hK.2; have hr1_ := hK.1.2; exact FnG.mono (call_c (f := (Zb [102])) (a := (Zh (Zb [103]) (intT 1))) hA hr1_ hr0_) fun _ _ _ _ h => h)) <| .cons rfl (zq (.cons rfl <| .nil) underlying38 zeroValue38 (.cons sizeOf4 <| .cons sizeOf4 <| .nil) rfl) <| .nil) fun a2 w2 m2 hst2 hle2 hk2 => ?_
 have hfr2 := hk2.fr (.n 7 <| .nil)
 obtain ⟨y6, e3, hs6⟩ := hk2.ex 6 rfl
 replace hfr2 := hfr2.cons e3
 clear hst1 hfr1 hk2
 replace hst2 := hst2.more (r := .free) trivial List.nodup_nil (by simp [Res.blocks])
 refine zm (tch := [(1, 0, (fun v => .blk v _)), (2, 0, (fun v => .blkx v _ _))]) hst2 hfr2 (by kernel_rfl) (by kernel_rfl) (by kernel_rfl) (.cons rfl (zi (φ := MP.cd (zCu true false shT)) rfl (.cons rfl <| .cons rfl <| .nil) call12 (fun w m hK => by have hle_ := KC.le hK; have hA := KC.agree hK; have hT := zBk hT hK.st.ext; have hs6 := hs6.mono hle_; exact FnG.mono (lower_c (t := shT) (sel := true) (tl := false) hA hs6 hT (zEC (zDP _) (zEC (zDP _) (low_int _))) (by decide) (by decide)) fun _ _ _ _ h => h)) <| .consT rfl rfl (fun _ => rfl) rfl (zQ zeroValue46 rfl) <| .consT rfl rfl (fun _ => rfl) rfl (zU 1 rfl rfl rfl fun y1 => ZJ 8 rfl rfl rfl fun y8 => Zj rfl rfl rfl rfl rfl sizeOf46 rfl rfl (fun w m hK => hK.2.one)) <| .nil) fun a3 w3 m3 hst3 hle3 hk3 => ?_
 have hfr3 := hk3.fr (.o 7 <| .o 6 <| .nil)
 obtain ⟨g4, e4, _⟩ := hk3.ex 1 rfl
 replace hfr3 := hfr3.cons e4
 replace hst3 := hst3.fin (L' := [_]) (.cons e4 <| .cons e4 <| .nil)
 try simp only [List.take_succ_cons, List.take_zero, List.drop_succ_cons, List.drop_zero, List.cons_append, List.nil_append, List.append_nil, List.length_cons, List.length_nil, Nat.zero_add, Nat.reduceAdd] at hst3
 obtain ⟨yl, hyl, hst3⟩ := hst3.unx (k := 0) rfl (fun _ => rfl)
 clear hst2 hfr2 hk3
 rw [lowT_sh] at hyl hst3
 obtain ⟨oK9, cK9, oA9, cA9⟩ := yl
 obtain ⟨hk9, -⟩ := hyl.at_y
 dsimp only at hk9
 refine hK2 _ _ ?_
 refine zB fun _ hK6 => ?_
 have hn1 := nameQ_1
 have hl8 : (cd2 8 (Zl 1) [] shA shB).kids.length = 2 := rfl
 have hl9 : ([shA, shB] : List Cd).length = 2 := rfl
 obtain ⟨p7, vs7, x7, ho7, hd7, hm_x7, ht7, hcv7, hl7, hv7⟩ := hk9.nth (k := 0) (by omega)
 cases ho7
 obtain ⟨⟨oK7, cK7, oA7, cA7⟩, rfl, ⟨hik7, hin7⟩, hkk7, haa7⟩ := hv7.open_
 dsimp only at hkk7 haa7
 have hbg7 := hkk7.big; have hcp7 := hkk7.cap; have hbh7 := haa7.big; have hcq7 := haa7.cap
 have hx0 : x7 = shA := zAi hd7 rfl
 obtain ⟨p8, vs8, x8, ho8, hd8, hm_x8, ht8, hcv8, hl8, hv8⟩ := hk9.nth (k := 1) (by omega)
 cases ho8
 obtain ⟨⟨oK8, cK8, oA8, cA8⟩, rfl, ⟨hik8, hin8⟩, hkk8, haa8⟩ := hv8.open_
 dsimp only at hkk8 haa8
 have hbg8 := hkk8.big; have hcp8 := hkk8.cap; have hbh8 := haa8.big; have hcq8 := haa8.cap
 have hx1 : x8 = shB := zAi hd8 rfl
 have hln9 : x8.kids.length = 2 := by rw [hx1]; rfl
 obtain ⟨p9, vs9, x9, ho9, hd9, hm_x9, ht9, hcv9, hl9, hv9⟩ := hkk8.nth (k := 1) (by omega)
 cases ho9
 obtain ⟨⟨oK9, cK9, oA9, cA9⟩, rfl, ⟨hik9, hin9⟩, hkk9, haa9⟩ := hv9.open_
 dsimp only at hkk9 haa9
 have hbg9 := hkk9.big; have hcp9 := hkk9.cap; have hbh9 := haa9.big; have hcq9 := haa9.cap
 have hx2 : x9 = zCE (Zl 1) := zAi hd9 (by rw [hx1]; rfl)
 refine rp0 hst3 hfr3 (.cons rfl (zA (off := 0) rfl underlying46 rfl rfl sizeOf3 rfl) <| .cons rfl (zM (j := 0) rfl rfl isAgg3 rfl) <| .cons rfl (zV rfl rfl) <| .cons rfl (zD rfl) <| .cons rfl (zA (off := 1) rfl underlying46 rfl rfl sizeOf9 rfl) <| .cons rfl (zM (j := 0) rfl rfl isAgg9 rfl) <| .cons rfl (z6 rfl rfl) <| .cons rfl (ZI rfl rfl rfl) <| .cons rfl (zD rfl) <| .cons rfl (zA (off := 4) rfl underlying46 rfl rfl sizeOf43 rfl) <| .cons rfl (zM (j := 0) rfl rfl isAgg43 rfl) <| .cons rfl (zY rfl underlying43) <| .cons rfl (zV rfl rfl) <| .cons rfl (ZI rfl rfl rfl) <| .cons rfl (zD rfl) <| .cons rfl (zA (off := 4) rfl underlying46 rfl rfl sizeOf43 rfl) <| .cons rfl (zM (j := 0) rfl rfl isAgg43 rfl) <| .cons rfl (zH (k := 0) rfl rfl underlying43 sizeOf46 rfl (by omega)) <| .cons rfl (zA (off := 0) rfl underlying46 rfl rfl sizeOf3 rfl) <| .cons rfl (zE rfl hcv7 isAgg3 rfl) <| .cons rfl (zV rfl rfl) <| .cons rfl (ZI rfl rfl rfl) <| .cons rfl (zD rfl) <| .cons rfl (zA (off := 4) rfl underlying46 rfl rfl sizeOf43 rfl) <| .cons rfl (zM (j := 0) rfl rfl isAgg43 rfl) <| .cons rfl (zH (k := 1) rfl rfl underlying43 sizeOf46 rfl (by omega)) <| .cons rfl (zA (off := 0) rfl underlying46 rfl rfl sizeOf3 rfl) <| .cons rfl (zE rfl hcv8 isAgg3 rfl) <| .cons rfl (zV rfl rfl) <| .cons rfl (ZI rfl rfl rfl) <| .cons rfl (zD rfl) <| .cons rfl (zA (off := 4) rfl underlying46 rfl rfl sizeOf43 rfl) <| .cons rfl (zM (j := 0) rfl rfl isAgg43 rfl) <| .cons rfl (zH (k := 1) rfl rfl underlying43 sizeOf46 rfl (by omega)) <| .cons rfl (zA (off := 4) rfl underlying46 rfl rfl sizeOf43 rfl) <| .cons rfl (zE rfl hcv8 isAgg43 rfl) <| .cons rfl (zY rfl underlying43) <| .cons rfl (zV rfl rfl) <| .cons rfl (ZI rfl rfl rfl) <| .cons rfl (zD rfl) <| .cons rfl (zA (off := 4) rfl underlying46 rfl rfl sizeOf43 rfl) <| .cons rfl (zM (j := 0) rfl rfl isAgg43 rfl) <| .cons rfl (zH (k := 1) rfl rfl underlying43 sizeOf46 rfl (by omega)) <| .cons rfl (zA (off := 4) rfl underlying46 rfl rfl sizeOf43 rfl) <| .cons rfl (zE rfl hcv8 isAgg43 rfl) <| .cons rfl (zH (k := 1) rfl rfl underlying43 sizeOf46 rfl (by omega)) <| .cons rfl (zA (off := 1) rfl underlying46 rfl rfl sizeOf9 rfl) <| .cons rfl (zE rfl hcv9 isAgg9 rfl) <| .cons rfl (z6 rfl rfl) <| .cons rfl (ZI rfl rfl rfl) <| .cons rfl (zD rfl) <| .cons rfl (zd (j := 0) rfl rfl isAgg46 sizeOf46 rfl) <| .cons rfl (zc rfl (.cons rfl <| .cons rfl <| .nil) call16 (fun w m hK => by have hle_ := KC.le hK; have hA := KC.agree hK; have hyl := hyl.mono hle_; exact lcount_c (cd2 8 (Zl 1) [] shA shB) (k := 6) hA hyl (by decide))) <| .cons rfl (zV rfl rfl) <| .cons rfl (ZI rfl rfl rfl) <| .cons rfl (zC rfl) <| .nil) fun a4 w4 m4 hst4 hle4 hk4 => ?_
 have hfr4 := hk4.fr (.n 0 <| .nil)
 clear hst3 hfr3 hk4
 refine hK6 _ _ ?_
 refine zK ?_
 repeat (with_reducible first | refine zI ?_ | refine zF ?_)
 exact zL hst4 hfr4 rfl (.tmp rfl <| .nil) (by refine congrArg Value.bool ?_; simp [hx0, hx1, hx2, hn1, shA, shB, zCE]; try decide)
end Go.Proofs.YtmdhhjmomilhjaaDoor
namespace Go.Proofs.YtmdhhjmomilhjaaDoor
set_option linter.all false
set_option maxRecDepth 4000
open Go.RowKit
end Go.Proofs.YtmdhhjmomilhjaaDoor
namespace Go.Proofs.YtmdhhjmomilhjaaDoor
set_option linter.all false
set_option maxRecDepth 4000
open Go.RowKit
theorem zCA {t : Tm} : ZU t = true ↔ 1 ≤ t.kind ∧ t.kind ≤ 5 := by unfold ZU; simp
theorem bindK_two (sel : Bool) (t : Tm) : Zz sel t = 7 ∨ Zz sel t = 8 := by unfold Zz; split <;> simp
-- what is in the rows that are made
theorem body_core {sel tl : Bool} {g : Gen} {t : Tm} {n : Nat} (hk : t.kind = 0 ∨ t.kind = 6 ∨ t.kind = 9 ∨ t.kind = 10 ∨ t.kind = 11 ∨ t.kind = 12 ∨ t.kind = 13) : ZS sel tl g t n = (Zd (zAe sel g (t.kids.take (zp t)) n) (zCX g t n), zEI g t.arms (zED g t n)) :=
 bodyC (by omega) (by omega) (by omega) (by omega) (fun h => by rw [zCA] at h; omega)
theorem body_light {sel tl : Bool} {g : Gen} {t : Tm} {n : Nat} (hk : t.kind = 1 ∨ t.kind = 2 ∨ t.kind = 3 ∨ t.kind = 4) : ZS sel tl g t n = (⟨t.kind, if t.kind = 1 then t.name else [], [], if t.kind = 2 ∨ t.kind = 3 then t.n else 0, [], []⟩, n) :=
 bodyA (by omega) (by omega) (by omega) (by omega) (by rw [zCA]; omega)
-- how large
-- what is counted
end Go.Proofs.YtmdhhjmomilhjaaDoor
namespace Go.Proofs.YtmdhhjmomilhjaaDoor
set_option linter.all false
set_option maxRecDepth 4000
open Go.RowKit
def zDm (t : Tm) : Tm := ⟨7, 0, [120], [], 0, [t, Zb [120]], [], ⟨[], 1⟩⟩
theorem letX_R {m : Mem} {t : Tm} {g : Nat} {vs us : List Value} (hc : CellsAt m ⟨g, 0, none⟩ (vs ++ us)) (h : TmR m t vs) (h2 : TmR m (Zb [120]) us) : TmR m (zDm t) (tmV (zDm t) (TmY.zero (some ⟨g, 0, none⟩) 2 none 0)) :=
 TmR.build TmY.zero_one (Sl.two (R := fun m vs t => TmR m t vs) hc h.len h2.len h h2) Sl.empty ⟨_, _, rfl, Sl.empty, inI1⟩
theorem low_letX {t : Tm} (h : LwT t) : LwT (zDm t) := .mk (.inl ⟨.inl rfl, fun _ _ => rfl⟩) (fun u hu => by
 rcases List.mem_cons.1 hu with rfl | hu
 ·exact h
 ·rw [List.mem_singleton] at hu; subst hu; exact zDP _) (fun a ha => by cases ha)
theorem zDk (t : Tm) : zP (zDm t) = zP t + 2 := by rw [zr]; show 1 + (zP t + (1 + 0)) + 0 = _; omega
theorem bulk_letX (t : Tm) : zt (zDm t) ≤ zt t + 10 := by
 have h1 : zt (Zb [120]) = 4 := by decide
 rw [Zi]
 show 3 + 1 + 0 + (zt t + (zt (Zb [120]) + 0)) + 0 ≤ _
 omega
theorem zBq (s : Str) (t : Tm) : zP (Zh (Zb s) t) = zP t + 2 := by rw [count_call]; show 1 + zP t + 1 = _; omega
def cxT (sel tl : Bool) (t : Tm) : Cd := (zT sel tl (zP t + 1) t 0).1
def cnT (sel tl : Bool) (t : Tm) : Nat := (zT sel tl (zP t + 1) t 0).2
def varF : Cd := ⟨1, [102], [], 0, [], []⟩
def rest7 (sel tl : Bool) (t : Tm) : Cd := (zT sel tl (zP t + 1) (Zb [120]) (cnT sel tl t)).1
theorem low_let (sel tl : Bool) (t : Tm) : zCu sel tl (zDm t) = cd2 (Zz sel t) [120] [] (cxT sel tl t) (rest7 sel tl t) := by
 unfold zCu
 rw [zDk, show zT sel tl (zP t + 2) (zDm t) 0 = ZS sel tl (zT sel tl (zP t + 1)) (zDm t) 0 from rfl, body7 rfl]; rfl
theorem g_var (sel tl : Bool) (f n : Nat) : zT sel tl (f + 1) (Zb [102]) n = (varF, n) := by
 rw [show zT sel tl (f + 1) (Zb [102]) n = ZS sel tl (zT sel tl f) (Zb [102]) n from rfl, body_light (.inl rfl)]; rfl
theorem zEB (sel tl : Bool) {t : Tm} (h : ZU t = true) : zCu sel tl (Zh (Zb [102]) t) = ⟨6, [], [], 0, [varF, cxT sel tl t], []⟩ := by
 unfold zCu
 rw [zBq, show zT sel tl (zP t + 2) (Zh (Zb [102]) t) 0 = ZS sel tl (zT sel tl (zP t + 1)) (Zh (Zb [102]) t) 0 from rfl, body_core (.inr (.inl rfl))]
 have e : (Zh (Zb [102]) t).kids.take (zp (Zh (Zb [102]) t)) = [Zb [102], t] := rfl
 have e2 : (Zh (Zb [102]) t).kids.drop (zp (Zh (Zb [102]) t)) = [] := rfl
 unfold zCX
 rw [e, e2]
 have hv : ZU (Zb [102]) = true := rfl
 simp only [zAe, Zu, kidB, kidA, zCs, hv, h, if_true, g_var, List.nil_append, seqA, List.append_nil, Zd]
 rfl
theorem zDn (sel tl : Bool) {t : Tm} (h : ZU t = false) : zCu sel tl (Zh (Zb [102]) t) = cd2 (Zz sel t) (Zl (cnT sel tl t + 1)) [] (cxT sel tl t) ⟨6, [], [], 0, [varF, zCE (Zl (cnT sel tl t + 1))], []⟩ := by
 unfold zCu
 rw [zBq, show zT sel tl (zP t + 2) (Zh (Zb [102]) t) 0 = ZS sel tl (zT sel tl (zP t + 1)) (Zh (Zb [102]) t) 0 from rfl, body_core (.inr (.inl rfl))]
 have e : (Zh (Zb [102]) t).kids.take (zp (Zh (Zb [102]) t)) = [Zb [102], t] := rfl
 have e2 : (Zh (Zb [102]) t).kids.drop (zp (Zh (Zb [102]) t)) = [] := rfl
 unfold zCX
 rw [e, e2]
 have hv : ZU (Zb [102]) = true := rfl
 simp only [zAe, Zu, kidB, kidA, zCs, hv, h, if_true, g_var, List.nil_append, seqA, List.append_nil, Zd]
 rfl
theorem bindK_light (sel : Bool) {t : Tm} (h : ZU t = true) : Zz sel t = 7 := by unfold Zz; rw [h]; rfl
theorem cd2_kind {k : Int} {s p : Str} {a b : Cd} : (cd2 k s p a b).kind = k := rfl
theorem cd2_kids {k : Int} {s p : Str} {a b : Cd} : (cd2 k s p a b).kids = [a, b] := rfl
end Go.Proofs.YtmdhhjmomilhjaaDoor
namespace Go.Proofs.YtmdhhjmomilhjaaDoor
open Go.Proofs.Tryd
set_option linter.all false
set_option maxRecDepth 4000
open Go.RowKit
set_option maxHeartbeats 1600000 in
theorem lowerLight_c {w : World} {m : Mem} {p : Pg} {vs_p : List Value} {n : Int} {sel tl : Bool} (hA : Agree w m) (h_p : PgR m p vs_p) (hT : Tab w) (hbo : zBA p.effects ≤ 1000000000) (hbc : consN p.datas ≤ 1000000000) (hbd : p.datas.length ≤ 1000000000) (hB : zt p.body ≤ 2100000) : FnV Tryd.prog 8 #[.agg vs_p.toArray, .int .i64 n, .agg #[.bool sel, .bool tl]] w m (fun _ _ v => v = .bool true) := by
 obtain ⟨oE_p, cE_p, oD_p, cD_p, bs_p, rfl, hef_p, hda_p, hpb_p⟩ := id h_p
 have hbe_p := hef_p.big; have hce_p := hef_p.cap; have hbda_p := hda_p.big; have hcd_p := hda_p.cap
 obtain ⟨⟨oK_pb, cK_pb, oA_pb, cA_pb, oR_pb, cR_pb, t0_pb, t1_pb, t2_pb, t3_pb, t4_pb, t5_pb, u0_pb, u1_pb, u2_pb, u3_pb, u4_pb, u5_pb⟩, rfl, hon_pb, hkk_pb, haa_pb, hrr_pb⟩ := hpb_p.open_
 dsimp only at hkk_pb haa_pb hrr_pb
 have hbg_pb := hkk_pb.big; have hcp_pb := hkk_pb.cap; have hbh_pb := haa_pb.big; have hcq_pb := haa_pb.cap
 refine zX (vs := [_, _, _]) func8 rfl rfl rfl fun a0 hfr0 => ?_
 have hst0 := zW hA (zf [] _ w m)
 have hM : MLe m m := MLe.refl m
 refine zB fun _ hK1 => ?_
 refine rp0 hst0 hfr0 (.cons rfl (zv rfl rfl) <| .cons rfl (zv rfl rfl) <| .cons rfl (zC rfl) <| .nil) fun a1 w1 m1 hst1 hle1 hk1 => ?_
 have hfr1 := hk1.fr (.o 1 <| .nil)
 obtain ⟨g2, e2, hc3⟩ := hk1.ex 3 rfl
 replace hfr1 := hfr1.cons e2
 obtain ⟨g3, e3, hc5⟩ := hk1.ex 5 rfl
 replace hfr1 := hfr1.cons e3
 replace h_p := h_p.mono hle1
 clear hst0 hfr0 hk1
 refine hK1 _ _ ?_
 refine zB fun _ hK4 => ?_
 refine rp0 hst1 hfr1 (.cons rfl (zc rfl (.nil) call9 (fun w m hK => by have hle_ := KC.le hK; have hA := KC.agree hK; have hT := zBk hT hK.st.ext; exact shown_c hA hT)) <| .cons rfl (zC rfl) <| .nil) fun a2 w2 m2 hst2 hle2 hk2 => ?_
 have hfr2 := hk2.fr (.o 1 <| .o 3 <| .o 5 <| .n 7 <| .nil)
 replace h_p := h_p.mono hle2
 replace hc3 := hc3.mono hle2
 replace hc5 := hc5.mono hle2
 clear hst1 hfr1 hk2
 refine hK4 _ _ ?_
 refine zB fun _ hK5 => ?_
 refine zu 3 (by kernel_rfl) ?_
 refine zm (tch := []) hst2 hfr2 (by kernel_rfl) (by kernel_rfl) (by kernel_rfl) (.cons rfl (zO rfl hc3 isAgg35 sizeOf35 rfl rfl) <| .cons rfl (zD rfl) <| .cons rfl (zi (φ := MP.partB 2100000) rfl (.cons rfl <| .cons rfl <| .nil) call20 (fun w m hK => by have hle_ := KC.le hK; have hA := KC.agree hK; have h_p := h_p.mono hle_; exact FnG.mono (part_c hA h_p hbo hbc hbd 2100000 hB (by omega)) fun _ _ _ _ h => h)) <| .nil) fun a3 w3 m3 hst3 hle3 hk3 => ?_
 have hfr3 := hk3.fr (.o 1 <| .o 3 <| .o 5 <| .o 7 <| .nil)
 obtain ⟨⟨⟨xt, yt⟩, bt⟩, e6, ht, hsh_, hct, hbt, hrt, hcl⟩ := hk3.ex 17 rfl
 replace hfr3 := hfr3.cons e6
 replace hc5 := hc5.mono hle3
 clear hst2 hfr2 hk3
 dsimp only at ht hsh_ hct hbt hrt hcl
 have hlw := low_of hrt
 replace hst3 := hst3.more (r := .free) trivial List.nodup_nil (by simp [Res.blocks])
 refine zm (tch := [(3, 0, (fun v => .blk v _)), (4, 0, (fun v => .blk v _))]) hst3 hfr3 (by kernel_rfl) (by kernel_rfl) (by kernel_rfl) (.cons rfl (zD rfl) <| .cons rfl (zS rfl rfl) <| .cons rfl (zS rfl rfl) <| .consT rfl rfl (fun _ => rfl) rfl (zQ zeroValue33 rfl) <| .consT rfl rfl (fun _ => rfl) rfl (zU 8 rfl rfl rfl fun y8 => zb rfl rfl rfl rfl rfl sizeOf33 rfl rfl ht.one) <| .cons rfl (zC rfl) <| .nil) fun a4 w4 m4 hst4 hle4 hk4 => ?_
 have hfr4 := hk4.fr (.o 1 <| .o 3 <| .o 5 <| .o 7 <| .o 17 <| .n 9 <| .nil)
 obtain ⟨g7, e7, _⟩ := hk4.ex 8 rfl
 replace hfr4 := hfr4.cons e7
 replace hst4 := hst4.fin (L' := [_]) (.cons e7 <| .cons e7 <| .nil)
 try simp only [List.take_succ_cons, List.take_zero, List.drop_succ_cons, List.drop_zero, List.cons_append, List.nil_append, List.append_nil, List.length_cons, List.length_nil, Nat.zero_add, Nat.reduceAdd] at hst4
 replace hc5 := hc5.mono hle4
 replace ht := ht.mono hle4
 clear hst3 hfr3 hk4
 refine hK5 _ _ ?_
 refine zB fun _ hK8 => ?_
 refine zB fun _ hK9 => ?_
 refine rp0 hst4 hfr4 (.cons rfl (zD rfl) <| .cons rfl (Zn rfl) <| .nil) fun a5 w5 m5 hst5 hle5 hk5 => ?_
 have hfr5 := hk5.fr (.o 5 <| .o 7 <| .o 8 <| .n 21 <| .nil)
 replace hc5 := hc5.mono hle5
 replace ht := ht.mono hle5
 clear hst4 hfr4 hk5
 refine hK9 _ _ ?_
 refine zG hfr5 rfl rfl (fun hb21 => ?_) (fun hb21 => ?_)
 ·try simp only [nqs] at hb21
  refine zB fun _ hK10 => ?_
  refine rp0 hst5 hfr5 (.cons rfl (zD rfl) <| .cons rfl (zC rfl) <| .nil) fun a6 w6 m6 hst6 hle6 hk6 => ?_
  have hfr6 := hk6.fr (.n 6 <| .nil)
  clear hst5 hfr5 hk6
  refine hK10 _ _ ?_
  refine zK ?_
  repeat (with_reducible first | refine zI ?_ | refine zF ?_)
  exact zL hst6 hfr6 rfl (.tmp rfl <| .nil) (rfl)
 ·try simp only [nqs] at hb21
  refine zJ ?_
  refine hK8 _ _ ?_
  refine zB fun _ hK12 => ?_
  refine rp0 hst5 hfr5 (.cons rfl (zA (off := 0) rfl underlying33 rfl rfl sizeOf3 rfl) <| .cons rfl (zM (j := 0) rfl rfl isAgg3 rfl) <| .cons rfl (zV rfl rfl) <| .cons rfl (zD rfl) <| .cons rfl (zA (off := 0) rfl underlying33 rfl rfl sizeOf3 rfl) <| .cons rfl (zM (j := 0) rfl rfl isAgg3 rfl) <| .cons rfl (zV rfl rfl) <| .cons rfl (zx rfl rfl rfl) <| .cons rfl (zD rfl) <| .cons rfl (zA (off := 0) rfl underlying33 rfl rfl sizeOf3 rfl) <| .cons rfl (zM (j := 0) rfl rfl isAgg3 rfl) <| .cons rfl (zV rfl rfl) <| .cons rfl (zx rfl rfl rfl) <| .cons rfl (zD rfl) <| .cons rfl (zA (off := 0) rfl underlying33 rfl rfl sizeOf3 rfl) <| .cons rfl (zM (j := 0) rfl rfl isAgg3 rfl) <| .cons rfl (zV rfl rfl) <| .cons rfl (zx rfl rfl rfl) <| .cons rfl (zD rfl) <| .cons rfl (zA (off := 0) rfl underlying33 rfl rfl sizeOf3 rfl) <| .cons rfl (zM (j := 0) rfl rfl isAgg3 rfl) <| .cons rfl (zV rfl rfl) <| .cons rfl (zx rfl rfl rfl) <| .cons rfl (zC rfl) <| .nil) fun a6 w6 m6 hst6 hle6 hk6 => ?_
  have hfr6 := hk6.fr (.o 5 <| .o 7 <| .o 8 <| .n 10 <| .nil)
  clear hst5 hfr5 hk6
  have hcc := zBq [102] xt; have hcl9 := zDk xt; have hbc9 := bulk_call (Zb [102]) xt; have hbl9 := bulk_letX xt; have hbv9 : zt (Zb [102]) = 4 := by decide
  have hl1 : LwT (Zh (Zb [102]) xt) := zEC (zDP _) hlw
  have hl2 : LwT (zDm xt) := low_letX hlw
  refine hK12 _ _ ?_
  refine zB fun _ hK13 => ?_
  replace hst6 := hst6.more (r := .free) trivial List.nodup_nil (by simp [Res.blocks])
  replace hc5 := hc5.mono hle6
  replace ht := ht.mono hle6
  refine zz (tch := [(5, 1, (fun v => .blk v _)), (6, 1, (fun v => .blkx v _ _))]) (fun _ => mixed) hst6 hfr6 (by kernel_rfl) (by kernel_rfl) (by kernel_rfl) (.cons rfl (zi (φ := MP.tm (Zb [102])) rfl (.cons rfl <| .nil) call29 (fun w m hK => by have hle_ := KC.le hK; have hA := KC.agree hK; exact FnG.mono (v_c (s := [102]) hA) fun _ _ _ _ h => h)) <| .cons rfl (zd (j := 0) rfl rfl isAgg33 sizeOf33 rfl) <| .cons rfl (Z6 46 rfl rfl rfl fun y46 => zi (φ := MP.tm (Zh (Zb [102]) xt)) rfl (.cons rfl <| .cons rfl <| .nil) call28 (fun w m hK => by have hle_ := KC.le hK; have hA := KC.agree hK; have hr0_ := hK.2; have ht := ht.mono hle_; exact FnG.mono (call_c (f := Zb [102]) (a := xt) hA hr0_ ht) fun _ _ _ _ h => h)) <| .cons rfl (zO rfl hc5 isAgg38 sizeOf38 rfl rfl) <| .cons rfl (Z6 48 rfl rfl rfl fun y48 => zi (φ := MP.cd (zCu sel tl (Zh (Zb [102]) xt))) rfl (.cons rfl <| .cons rfl <| .nil) call12 (fun w m hK => by have hle_ := KC.le hK; have hA := KC.agree hK; have hT := zBk hT hK.1.st.ext; have hr0_ := hK.2; exact FnG.mono (lower_c (t := (Zh (Zb [102]) xt)) (sel := sel) (tl := tl) hA hr0_ hT hl1 (by omega) (by omega)) fun _ _ _ _ h => h)) <| .consT rfl rfl (fun _ => rfl) rfl (zQ zeroValue46 rfl) <| .consT rfl rfl (fun _ => rfl) rfl (zU 11 rfl rfl rfl fun y11 => ZJ 50 rfl rfl rfl fun y50 => Zj rfl rfl rfl rfl rfl sizeOf46 rfl rfl (fun w m hK => hK.2.one)) <| .nil) fun a7 w7 m7 hst7 hle7 hk7 => ?_
  have hfr7 := hk7.fr (.o 5 <| .o 7 <| .o 8 <| .o 10 <| .nil)
  obtain ⟨g14, e14, _⟩ := hk7.ex 11 rfl
  replace hfr7 := hfr7.cons e14
  replace hst7 := hst7.fin (L' := [_, _]) (.cons e14 <| .cons e14 <| .nil)
  try simp only [List.take_succ_cons, List.take_zero, List.drop_succ_cons, List.drop_zero, List.cons_append, List.nil_append, List.append_nil, List.length_cons, List.length_nil, Nat.zero_add, Nat.reduceAdd] at hst7
  obtain ⟨yc9, hyc9, hst7⟩ := hst7.unx (k := 1) rfl (fun _ => rfl)
  clear hst6 hfr6 hk7
  refine hK13 _ _ ?_
  refine zB fun _ hK16 => ?_
  replace hst7 := hst7.more (r := .free) trivial List.nodup_nil (by simp [Res.blocks])
  replace hc5 := hc5.mono hle7
  replace ht := ht.mono hle7
  refine zz (tch := [(7, 2, (fun v => .blk v _)), (8, 2, (fun v => .blkx v _ _))]) (fun _ => mixed) hst7 hfr7 (by kernel_rfl) (by kernel_rfl) (by kernel_rfl) (.cons rfl (zd (j := 0) rfl rfl isAgg33 sizeOf33 rfl) <| .cons rfl (zi (φ := MP.tm (Zb [120])) rfl (.cons rfl <| .nil) call29 (fun w m hK => by have hle_ := KC.le hK; have hA := KC.agree hK; exact FnG.mono (v_c (s := [120]) hA) fun _ _ _ _ h => h)) <| .cons rfl (zBx 52 rfl rfl rfl fun y52 => Z4 rfl rfl underlying24 sizeOf33 zeroValue33 rfl rfl rfl rfl rfl) <| .cons rfl (zq (.cons rfl <| .nil) underlying29 zeroValue29 (.cons sizeOf27 <| .cons sizeOf3 <| .nil) rfl) <| .cons rfl (zh 53 rfl rfl rfl fun y53 => zq (.cons rfl <| .cons rfl <| .cons rfl <| .cons rfl <| .nil) underlying33 zeroValue33 (.cons sizeOf3 <| .cons sizeOf3 <| .cons sizeOf9 <| .cons sizeOf9 <| .cons sizeOf3 <| .cons sizeOf24 <| .cons sizeOf25 <| .cons sizeOf31 <| .cons sizeOf29 <| .cons sizeOf31 <| .nil) rfl) <| .cons rfl (zO rfl hc5 isAgg38 sizeOf38 rfl rfl) <| .cons rfl (Z6 55 rfl rfl rfl fun y55 => zi (φ := MP.cd (zCu sel tl (zDm xt))) rfl (.cons rfl <| .cons rfl <| .nil) call12 (fun w m hK => by have hle_ := KC.le hK; have hA := KC.agree hK; have hT := zBk hT hK.1.st.ext; have hr0_ := hK.2; have ht := ht.mono hle_; exact FnG.mono (lower_c (t := (zDm xt)) (sel := sel) (tl := tl) hA (letX_R (by exact hr0_.2) ht (by exact hr0_.1)) hT hl2 (by omega) (by omega)) fun _ _ _ _ h => h)) <| .consT rfl rfl (fun _ => rfl) rfl (zQ zeroValue46 rfl) <| .consT rfl rfl (fun _ => rfl) rfl (zU 12 rfl rfl rfl fun y12 => ZJ 57 rfl rfl rfl fun y57 => Zj rfl rfl rfl rfl rfl sizeOf46 rfl rfl (fun w m hK => hK.2.one)) <| .nil) fun a8 w8 m8 hst8 hle8 hk8 => ?_
  have hfr8 := hk8.fr (.o 7 <| .o 10 <| .o 11 <| .nil)
  obtain ⟨g17, e17, _⟩ := hk8.ex 12 rfl
  replace hfr8 := hfr8.cons e17
  replace hst8 := hst8.fin (L' := [_, _, _]) (.cons e17 <| .cons e17 <| .nil)
  try simp only [List.take_succ_cons, List.take_zero, List.drop_succ_cons, List.drop_zero, List.cons_append, List.nil_append, List.append_nil, List.length_cons, List.length_nil, Nat.zero_add, Nat.reduceAdd] at hst8
  obtain ⟨yd9, hyd9, hst8⟩ := hst8.unx (k := 2) rfl (fun _ => rfl)
  clear hst7 hfr7 hk8
  refine hK16 _ _ ?_
  refine zB fun _ hK19 => ?_
  refine zB fun _ hK20 => ?_
  refine rp0 hst8 hfr8 (.cons rfl (zD rfl) <| .nil) fun a9 w9 m9 hst9 hle9 hk9 => ?_
  have hfr9 := hk9.fr (.o 7 <| .o 11 <| .o 12 <| .n 58 <| .nil)
  clear hst8 hfr8 hk9
  refine hK20 _ _ ?_
  refine zG hfr9 rfl rfl (fun hb58 => ?_) (fun hb58 => ?_)
  ·try simp only [nqs] at hb58
   have hlx : ZU xt = true := by rw [zCA]; first | omega | (simp at hb58; omega)
   have zq1 := hle8.trans hle9
   replace hyc9 := hyc9.mono zq1
   rw [zEB sel tl hlx] at hyc9 hst9
   replace hyd9 := hyd9.mono hle9
   rw [low_let] at hyd9 hst9
   have hbk := bindK_light sel hlx
   obtain ⟨oKC, cKC, oAC, cAC⟩ := yc9
   obtain ⟨hkC, -⟩ := hyc9.at_y
   dsimp only at hkC
   obtain ⟨oKD, cKD, oAD, cAD⟩ := yd9
   obtain ⟨hkD, -⟩ := hyd9.at_y
   dsimp only at hkD
   refine zB fun _ hK21 => ?_
   have hn9 : (⟨6, [], [], 0, [varF, cxT sel tl xt], []⟩ : Cd).kids.length = 2 := rfl
   have hn8 : (cd2 (Zz sel xt) [120] [] (cxT sel tl xt) (rest7 sel tl xt) : Cd).kids.length = 2 := rfl
   obtain ⟨p22, vs22, x22, ho22, hd22, hm_x22, ht22, hcv22, hl22, hv22⟩ := hkC.nth (k := 1) (by omega)
   cases ho22
   obtain ⟨⟨oK22, cK22, oA22, cA22⟩, rfl, ⟨hik22, hin22⟩, hkk22, haa22⟩ := hv22.open_
   dsimp only at hkk22 haa22
   have hbg22 := hkk22.big; have hcp22 := hkk22.cap; have hbh22 := haa22.big; have hcq22 := haa22.cap
   have hxa : x22 = cxT sel tl xt := zAi hd22 rfl
   obtain ⟨p23, vs23, x23, ho23, hd23, hm_x23, ht23, hcv23, hl23, hv23⟩ := hkD.nth (k := 0) (by omega)
   cases ho23
   obtain ⟨⟨oK23, cK23, oA23, cA23⟩, rfl, ⟨hik23, hin23⟩, hkk23, haa23⟩ := hv23.open_
   dsimp only at hkk23 haa23
   have hbg23 := hkk23.big; have hcp23 := hkk23.cap; have hbh23 := haa23.big; have hcq23 := haa23.cap
   have hxb : x23 = cxT sel tl xt := zAi hd23 rfl
   refine ZC (fun _ => mixed) hst9 hfr9 (by kernel_rfl) (by kernel_rfl) (.cons rfl (zD rfl) <| .cons rfl (zD rfl) <| .cons rfl (zA (off := 0) rfl underlying46 rfl rfl sizeOf3 rfl) <| .cons rfl (zM (j := 1) rfl rfl isAgg3 rfl) <| .cons rfl (zV rfl rfl) <| .cons rfl (ZI rfl rfl rfl) <| .cons rfl (zD rfl) <| .cons rfl (zA (off := 0) rfl underlying46 rfl rfl sizeOf3 rfl) <| .cons rfl (zM (j := 2) rfl rfl isAgg3 rfl) <| .cons rfl (zV rfl rfl) <| .cons rfl (ZI rfl rfl rfl) <| .cons rfl (zD rfl) <| .cons rfl (zA (off := 4) rfl underlying46 rfl rfl sizeOf43 rfl) <| .cons rfl (zM (j := 1) rfl rfl isAgg43 rfl) <| .cons rfl (zH (k := 1) rfl rfl underlying43 sizeOf46 rfl (by omega)) <| .cons rfl (zO rfl hcv22 isAgg46 sizeOf46 rfl rfl) <| .cons rfl (zA (off := 4) rfl underlying46 rfl rfl sizeOf43 rfl) <| .cons rfl (zM (j := 2) rfl rfl isAgg43 rfl) <| .cons rfl (zH (k := 0) rfl rfl underlying43 sizeOf46 rfl (by omega)) <| .cons rfl (zO rfl hcv23 isAgg46 sizeOf46 rfl rfl) <| .cons rfl (zc rfl (.cons rfl <| .cons rfl <| .nil) call13 (fun w m hK => by have hle_ := KC.le hK; have hA := KC.agree hK; have hv22 := hv22.mono hle_; have hv23 := hv23.mono hle_; exact csame_c (cxT sel tl xt) hA (by rw [← hxa]; exact hv22) (by rw [← hxb]; exact hv23))) <| .cons rfl (ZI rfl rfl rfl) <| .cons rfl (zC rfl) <| .nil) fun a10 w10 m10 hst10 hle10 hk10 => ?_
   have hfr10 := hk10.fr (.n 6 <| .nil)
   clear hst9 hfr9 hk10
   refine hK21 _ _ ?_
   refine zK ?_
   repeat (with_reducible first | refine zI ?_ | refine zF ?_)
   exact zL hst10 hfr10 rfl (.tmp rfl <| .nil) (by refine congrArg Value.bool ?_; simp [hbk, cd2, Cd.kind])
  ·try simp only [nqs] at hb58
   have hlx : ZU xt = false := by cases hq : ZU xt with | false => rfl | true => (rw [zCA] at hq; first | omega | (simp at hb58; omega))
   have zq2 := hle8.trans hle9
   replace hyc9 := hyc9.mono zq2
   rw [zDn sel tl hlx] at hyc9 hst9
   replace hyd9 := hyd9.mono hle9
   rw [low_let] at hyd9 hst9
   have hbk := bindK_two sel xt
   obtain ⟨oKC, cKC, oAC, cAC⟩ := yc9
   obtain ⟨hkC, -⟩ := hyc9.at_y
   dsimp only at hkC
   obtain ⟨oKD, cKD, oAD, cAD⟩ := yd9
   obtain ⟨hkD, -⟩ := hyd9.at_y
   dsimp only at hkD
   refine zJ ?_
   refine hK19 _ _ ?_
   refine zB fun _ hK25 => ?_
   have hn9 : (cd2 (Zz sel xt) (Zl (cnT sel tl xt + 1)) [] (cxT sel tl xt) ⟨6, [], [], 0, [varF, zCE (Zl (cnT sel tl xt + 1))], []⟩ : Cd).kids.length = 2 := rfl
   have hn8 : (cd2 (Zz sel xt) [120] [] (cxT sel tl xt) (rest7 sel tl xt) : Cd).kids.length = 2 := rfl
   obtain ⟨p26, vs26, x26, ho26, hd26, hm_x26, ht26, hcv26, hl26, hv26⟩ := hkC.nth (k := 0) (by omega)
   cases ho26
   obtain ⟨⟨oK26, cK26, oA26, cA26⟩, rfl, ⟨hik26, hin26⟩, hkk26, haa26⟩ := hv26.open_
   dsimp only at hkk26 haa26
   have hbg26 := hkk26.big; have hcp26 := hkk26.cap; have hbh26 := haa26.big; have hcq26 := haa26.cap
   have hxa : x26 = cxT sel tl xt := zAi hd26 rfl
   obtain ⟨p27, vs27, x27, ho27, hd27, hm_x27, ht27, hcv27, hl27, hv27⟩ := hkD.nth (k := 0) (by omega)
   cases ho27
   obtain ⟨⟨oK27, cK27, oA27, cA27⟩, rfl, ⟨hik27, hin27⟩, hkk27, haa27⟩ := hv27.open_
   dsimp only at hkk27 haa27
   have hbg27 := hkk27.big; have hcp27 := hkk27.cap; have hbh27 := haa27.big; have hcq27 := haa27.cap
   have hxb : x27 = cxT sel tl xt := zAi hd27 rfl
   obtain ⟨p28, vs28, x28, ho28, hd28, hm_x28, ht28, hcv28, hl28, hv28⟩ := hkC.nth (k := 1) (by omega)
   cases ho28
   obtain ⟨⟨oK28, cK28, oA28, cA28⟩, rfl, ⟨hik28, hin28⟩, hkk28, haa28⟩ := hv28.open_
   dsimp only at hkk28 haa28
   have hbg28 := hkk28.big; have hcp28 := hkk28.cap; have hbh28 := haa28.big; have hcq28 := haa28.cap
   have hx1 : x28.kind = 6 := by rw [zAi hd28 rfl]; rfl
   refine ZC (fun _ => mixed) hst9 hfr9 (by kernel_rfl) (by kernel_rfl) (.cons rfl (zD rfl) <| .cons rfl (zD rfl) <| .cons rfl (zA (off := 0) rfl underlying46 rfl rfl sizeOf3 rfl) <| .cons rfl (zM (j := 1) rfl rfl isAgg3 rfl) <| .cons rfl (zV rfl rfl) <| .cons rfl (zD rfl) <| .cons rfl (zA (off := 0) rfl underlying46 rfl rfl sizeOf3 rfl) <| .cons rfl (zM (j := 1) rfl rfl isAgg3 rfl) <| .cons rfl (zV rfl rfl) <| .cons rfl (zx rfl rfl rfl) <| .cons rfl (ZI rfl rfl rfl) <| .cons rfl (zD rfl) <| .cons rfl (zA (off := 4) rfl underlying46 rfl rfl sizeOf43 rfl) <| .cons rfl (zM (j := 1) rfl rfl isAgg43 rfl) <| .cons rfl (zY rfl underlying43) <| .cons rfl (zV rfl rfl) <| .cons rfl (ZI rfl rfl rfl) <| .cons rfl (zD rfl) <| .cons rfl (zA (off := 4) rfl underlying46 rfl rfl sizeOf43 rfl) <| .cons rfl (zM (j := 1) rfl rfl isAgg43 rfl) <| .cons rfl (zH (k := 1) rfl rfl underlying43 sizeOf46 rfl (by omega)) <| .cons rfl (zA (off := 0) rfl underlying46 rfl rfl sizeOf3 rfl) <| .cons rfl (zE rfl hcv28 isAgg3 rfl) <| .cons rfl (zV rfl rfl) <| .cons rfl (ZI rfl rfl rfl) <| .cons rfl (zD rfl) <| .cons rfl (zA (off := 4) rfl underlying46 rfl rfl sizeOf43 rfl) <| .cons rfl (zM (j := 1) rfl rfl isAgg43 rfl) <| .cons rfl (zH (k := 0) rfl rfl underlying43 sizeOf46 rfl (by omega)) <| .cons rfl (zO rfl hcv26 isAgg46 sizeOf46 rfl rfl) <| .cons rfl (zA (off := 4) rfl underlying46 rfl rfl sizeOf43 rfl) <| .cons rfl (zM (j := 2) rfl rfl isAgg43 rfl) <| .cons rfl (zH (k := 0) rfl rfl underlying43 sizeOf46 rfl (by omega)) <| .cons rfl (zO rfl hcv27 isAgg46 sizeOf46 rfl rfl) <| .cons rfl (zc rfl (.cons rfl <| .cons rfl <| .nil) call13 (fun w m hK => by have hle_ := KC.le hK; have hA := KC.agree hK; have hv26 := hv26.mono hle_; have hv27 := hv27.mono hle_; exact csame_c (cxT sel tl xt) hA (by rw [← hxa]; exact hv26) (by rw [← hxb]; exact hv27))) <| .cons rfl (ZI rfl rfl rfl) <| .cons rfl (zD rfl) <| .cons rfl (zA (off := 0) rfl underlying46 rfl rfl sizeOf3 rfl) <| .cons rfl (zM (j := 1) rfl rfl isAgg3 rfl) <| .cons rfl (zA (off := 0) rfl underlying46 rfl rfl sizeOf3 rfl) <| .cons rfl (zM (j := 2) rfl rfl isAgg3 rfl) <| .cons rfl (zV rfl rfl) <| .cons rfl (ZI rfl rfl rfl) <| .cons rfl (zC rfl) <| .nil) fun a10 w10 m10 hst10 hle10 hk10 => ?_
   have hfr10 := hk10.fr (.n 6 <| .nil)
   clear hst9 hfr9 hk10
   refine hK25 _ _ ?_
   refine zK ?_
   repeat (with_reducible first | refine zI ?_ | refine zF ?_)
   exact zL hst10 hfr10 rfl (.tmp rfl <| .nil) (by refine congrArg Value.bool ?_; rcases hbk with hbk | hbk <;> simp [hbk, hx1, cd2_kind, cd2_kids])
end Go.Proofs.YtmdhhjmomilhjaaDoor
namespace Go.Proofs.YtmdhhjmomilhjaaDoor
set_option linter.all false
open Go.RowKit Go.WideShapes Go.ChangeShapes Go.Deep Go.WideElems Go.ChangeAt Go.ChangeMaps
def zBB (W : World) : Mem := ⟨fun b o => W.cell? ⟨b, o, none⟩, fun b => match W.heap[b]? with | some (.map es cl) => some (es, cl) | _ => none⟩
theorem agree_snap (W : World) : Agree W (zBB W) := ⟨fun _ _ _ h => h, fun b es h => by
 change (match W.heap[b]? with | some (.map es cl) => some (es, cl) | _ => none) = some es at h
 split at h
 ·rename_i ents cl he
  injection h with h
  subst h; exact he
 ·cases h⟩
theorem cell_spot {W : World} {a : Addr} {v : Value} (h : W.cell? a = some v) : a.spot = none := by
 unfold World.cell? at h
 split at h
 ·split at h
  ·cases h
  ·rename_i hs; cases e : a.spot with
   | none => rfl
   | some x => rw [e] at hs; exact absurd rfl hs
 ·cases h
theorem snap_of {W : World} {a : Addr} {v : Value} (h : W.cell? a = some v) : zBB W a.block a.off = some v := by
 have := cell_spot h
 show W.cell? ⟨a.block, a.off, none⟩ = some v
 rw [← h]; congr 1
 cases a; simp only at this; subst this; rfl
theorem cellsAt_snap {W : World} {base : Nat} {a : Addr} {n : Nat} {cs : List Value} (h : W.cells? base a n = some cs) (hn : 0 < n) : CellsAt (zBB W) a cs ∧ cs.length = n := by
 obtain ⟨_, hl, hat⟩ := World.cells?_some h
 have h0 := hat 0 hn
 have e0 : a.add 0 = a := by unfold Addr.add; rfl
 rw [e0, List.getElem?_eq_getElem (by omega)] at h0
 refine ⟨⟨cell_spot h0, fun i v e => ?_⟩, hl⟩
 have hi : i < n := by have := (List.getElem?_eq_some_iff.1 e).1; omega
 have := hat i hi
 rw [e] at this
 have := snap_of this
 rwa [zCC, zDW] at this
section
variable {H : Type} {enc : TypeId × Value → H} {P : Program} {W : World} {base : Nat} {spare : Nat → Bool} {held : Bool}
theorem open_I {r : Reach} {b0 : Nat} {t : TypeId} {v : Value} {d : DataW H} {ps : List MemPlace} (ht : P.underlying t = some (.int .i64)) (hval : Value.okWide P W r b0 t v) (hd : DataW.Trod enc P W base spare held t v d ps) :
  ∃ n : Int, v = .int .i64 n ∧ Z8 n := by
 obtain ⟨n, rfl, _, _, hs⟩ := open_int ht hval hd
 simp only [Lit.wf, Bool.and_eq_true, decide_eq_true_eq] at hs
 have h1 : IntKind.i64.min = -9223372036854775808 := by decide
 have h2 : IntKind.i64.max = 9223372036854775807 := by decide
 exact ⟨n, rfl, by omega, by omega⟩
theorem zCK (hl : laidOutB P = true) {W' : World} {sp : Nat → Bool} : ∀ {ts : List TypeId} {vs : List Value} {ds : List (DataW H)} {ps : List MemPlace}, (ts.all fun t => P.readableRec t && decide (t < P.types.size)) = true →
  DataW.TrodAll enc P W base (fun _ => true) true ts vs ds ps → (∀ p ∈ ps, W.sameAt W' p) → (∀ p ∈ ps, sp p.block = true) → DataW.TrodAll enc P W' base sp true ts vs ds ps
 | [], vs, ds, ps, _, h, _, _ => by
  obtain ⟨rfl, rfl, rfl⟩ := trodAll_nil h
  exact rfl
 | t :: ts, vs, ds, ps, hts, h, h1, h2 => by
  obtain ⟨v, vs', d, ds', p, q, rfl, rfl, rfl, hd, hr⟩ := trodAll_cons h
  simp only [List.all_cons, Bool.and_eq_true, decide_eq_true_eq] at hts
  obtain ⟨⟨hr1, hr2⟩, hts'⟩ := hts
  exact ⟨p, q, Trod_stays hl hr1 hr2 hd (fun x hx => h1 x (List.mem_append_left _ hx)) (fun x hx => h2 x (List.mem_append_left _ hx)),
   zCK hl hts' hr (fun x hx => h1 x (List.mem_append_right _ hx)) (fun x hx => h2 x (List.mem_append_right _ hx)), rfl⟩
theorem post_law {f : Func} {s : ChangeSpec} {W' : World} {m' : Mem} {args : Array Value} {ds : List (DataW H)} {gs : List (DataW H)} {before : List MemPlace} {t : TypeId}
  (hl : laidOutB P = true) (hts : (f.params.toList.all fun t => P.readableRec t && decide (t < P.types.size)) = true) (hvs : s.vars = []) (hres : f.resultTypes = #[t]) (ht : P.underlying t = some .bool)
  (hfn : s.fn H (ds ++ gs) = { results := [.lit (.bool true)], args := ds }) (hW : DataW.Whole enc P f.params.toList s.vars false W args.toList ds gs before) (hx : ExtG [] W (zBB W) W' m') :
  s.post enc P f false true false false W args (.bool true) W' := by
 have hb := hx.below
 have hlt : ∀ p ∈ before, p.block < W.heap.size := fun p hp => hW.lt p hp
 have hold : ∀ p ∈ before, (fun b => decide (b < W.heap.size)) p.block = true := fun p hp => by simpa using hlt p hp
 have hsame : ∀ p ∈ before, W.sameAt W' p := fun p hp => hb.same (hlt p hp)
 have hW0 := hW
 obtain ⟨pa, pv, hA, hV, hps, hz, hn⟩ := hW
 rw [hvs] at hV
 obtain ⟨rfl, rfl⟩ := trodVars_none hV
 rw [List.append_nil] at hps
 subst hps
 have hres' : ∀ (b : Nat) (sp : Nat → Bool) (hd : Bool), DataW.TrodAll enc P W' b sp hd f.resultTypes.toList ((Value.bool true).resultList f.resultTypes.size) (s.fn H (ds ++ [])).results [] := fun b sp hd => by
  rw [hfn, hres]
  exact trodAll_mk1 ⟨1, by simp [DataW.trod, Value.cells, ht]⟩
 have hargs : ∀ sp : Nat → Bool, (∀ p ∈ before, sp p.block = true) → DataW.TrodAll enc P W' 0 sp true f.params.toList args.toList (s.fn H (ds ++ [])).args before := fun sp hsp => by
  rw [hfn]; exact zCK hl hts hA hsame hsp
 have hvars : ∀ sp : Nat → Bool, DataW.TrodVars enc P W' sp s.vars (s.fn H (ds ++ [])).vars [] := fun sp => by
  rw [hvs, hfn]; exact rfl
 refine ⟨ds, [], before, [], before, [], hW0, hres' _ _ _, hargs _ hold, hvars _, World.keptBut_mono (fun p hp => ⟨hp, ?_⟩) (hb.frame (· ∈ before)), fun _ => ?_⟩
 ·exact Or.inr (Or.inl hp)
 ·refine ⟨ok_one hres rfl (okWide_bool_mk ht true), _, _, ([] ++ before) ++ [], ⟨[] ++ before, [], trodAll_append (hargs _ (fun _ _ => rfl)) (hres' _ _ _), hvars _, rfl, ?_, ?_⟩, ?_⟩
  ·intro b off hp
   have hin : MemPlace.cell b off ∈ before := by simpa using hp
   rw [hb.frozen (hlt _ hin)]
   exact hz b off hin
  ·intro ha
   have := hn ha
   simpa using this
  ·intro p hp _
   simpa using hp
end
end Go.Proofs.YtmdhhjmomilhjaaDoor
namespace Go.Proofs.YtmdhhjmomilhjaaDoor
set_option linter.all false
open Go.RowKit Go.WideShapes Go.ChangeShapes Go.Deep Go.WideElems Go.ChangeAt Go.ChangeMaps
section
variable {H : Type} {enc : TypeId × Value → H} {P : Program} {W : World} {base : Nat} {spare : Nat → Bool} {held : Bool}
theorem bulk_mem {d : DataW H} : ∀ {l : List (DataW H)}, d ∈ l → Rows.uptoBulk d ≤ Rows.uptoBulkAll l
 | x :: l, h => by
  rw [Rows.uptoBulkAll]
  rcases List.mem_cons.1 h with rfl | h
  ·omega
  ·have := bulk_mem h; omega
theorem zAf (d : DataW H) : 1 ≤ Rows.uptoBulk d := by
 cases d with
 | lit l => cases l <;> simp [Rows.uptoBulk]
 | _ => simp [Rows.uptoBulk]
theorem bulk_app : ∀ (l r : List (DataW H)), Rows.uptoBulkAll (l ++ r) = Rows.uptoBulkAll l + Rows.uptoBulkAll r
 | [], r => by simp [Rows.uptoBulkAll]
 | x :: l, r => by simp only [List.cons_append, Rows.uptoBulkAll, bulk_app l r]; omega
theorem zAM {α : Type} {R : Mem → List Value → α → Prop} {β : α → Nat} {t e : TypeId} {sz fuel : Nat} {cs : List Value} {x : DataW H × List MemPlace} (B : Nat) (ht : P.underlying t = some (.slice e)) (hc : P.cellsOf e = sz) (hsz : 0 < sz)
  (hR : ∀ n cs (x : DataW H × List MemPlace), Rows.uptoBulk x.1 < B → DataW.trod enc P W base spare held n e cs = some x → cs.length = sz → ∃ a : α, R (zBB W) cs a ∧ β a ≤ Rows.uptoBulk x.1)
  (h : DataW.trod enc P W base spare held fuel t cs = some x) (hB : Rows.uptoBulk x.1 ≤ B) :
  ∃ o n c l, cs = [.slice o n c] ∧ Sl R sz (zBB W) o n c l ∧ c ≤ maxLen ∧ (l.map β).sum + 1 ≤ Rows.uptoBulk x.1 := by
 rcases open_slice ht h with ⟨rfl, rfl⟩ | ⟨a, len, cap, m, n, D, Pl, rfl, hb, hl, hm, hmm, rfl, hi⟩
 ·exact ⟨none, 0, 0, [], rfl, ⟨rfl, Nat.le_refl _, Nat.zero_le _, fun i x hx => by simp at hx⟩, Nat.zero_le _, by simp [Rows.uptoBulk]⟩
 ·have hlm : len ≤ m := by rw [hmm]; split <;> omega
  simp only [Rows.uptoBulk] at hB ⊢
  have key : ∀ k, k ≤ len → ∃ l : List α, l.length = k ∧ (l.map β).sum ≤ Rows.uptoBulkAll ((List.range k).map D) ∧ ∀ i x, l[i]? = some x → ∃ vs, CellsAt (zBB W) (a.add (i * sz)) vs ∧ vs.length = sz ∧ R (zBB W) vs x := by
   intro k
   induction k with
   | zero => intro _; exact ⟨[], rfl, by simp, fun i x hx => by simp at hx⟩
   | succ k ih =>
    intro hk
    obtain ⟨l, hl1, hl0, hl2⟩ := ih (by omega)
    obtain ⟨cs', hcs, htr⟩ := hi k (by omega)
    rw [hc] at hcs
    obtain ⟨h1, h2⟩ := cellsAt_snap hcs hsz
    have hD : Rows.uptoBulk (D k) ≤ Rows.uptoBulkAll ((List.range len).map D) := bulk_mem (List.mem_map.2 ⟨k, List.mem_range.2 (by omega), rfl⟩)
    obtain ⟨y, hy, hβ⟩ := hR n cs' _ (by simp only; omega) htr h2
    refine ⟨l ++ [y], by simp [hl1], ?_, fun i x hx => ?_⟩
    ·simp only [List.range_succ, List.map_append, bulk_app, List.sum_append, List.map_cons, List.map_nil, List.sum_cons, List.sum_nil, Rows.uptoBulkAll] at hβ ⊢; omega
    rw [List.getElem?_append] at hx
    split at hx
    ·exact hl2 i x hx
    ·have hik : i = k := by
      have := (List.getElem?_eq_some_iff.1 hx).1
      simp at this; omega
     subst hik
     rw [hl1, Nat.sub_self] at hx
     simp only [List.getElem?_cons_zero, Option.some.injEq] at hx
     subst hx
     exact ⟨cs', h1, h2, hy⟩
  obtain ⟨l, hl1, hl0, hl2⟩ := key len (Nat.le_refl _)
  refine ⟨some a, len, cap, l, rfl, ⟨hl1, hl, ?_, fun i x hx => ?_⟩, hm, by omega⟩
  ·simp only [maxLen] at hm; omega
  ·obtain ⟨vs, h1, h2, h3⟩ := hl2 i x hx
   exact ⟨a, vs, rfl, h1, h2, h3⟩
theorem ZW {e : TypeId} {fs : Array Field} {fuel : Nat} {cs : List Value} {x : DataW H × List MemPlace} (he : P.underlying e = some (.struct fs)) (h : DataW.trod enc P W base spare held fuel e cs = some x) :
  ∃ (n : Nat) (ys : List (DataW H × List MemPlace)), ys.length = fs.size ∧ Rows.uptoBulk x.1 = Rows.uptoBulkAll (ys.map (·.1)) + 1 ∧ cs.length = P.cellsOf e ∧
   ∀ (i : Nat) (f : Field), fs[i]? = some f → ∃ y, ys[i]? = some y ∧ DataW.trod enc P W base spare held n f.type ((cs.drop f.offset).take (P.cellsOf f.type)) = some y := by
 obtain ⟨xs, n, rfl, rfl, hl, hx, hf⟩ := DataW.trod_struct he h
 refine ⟨n, xs, hx, by simp [Rows.uptoBulk], hl, fun i f hi => ?_⟩
 have h1 : i < fs.size := (Array.getElem?_eq_some_iff.1 hi).1
 have h2 : xs[i]? = some (xs[i]'(by omega)) := List.getElem?_eq_getElem (by omega)
 exact ⟨_, h2, (hf i f hi).trans h2⟩
theorem zAx {t : TypeId} {n : Nat} {cs : List Value} {x : DataW H × List MemPlace} (ht : P.underlying t = some (.int .i64)) (h : DataW.trod enc P W base spare held n t cs = some x) : ∃ k : Int, cs = [.int .i64 k] ∧ Z8 k ∧ Rows.uptoBulk x.1 = 1 := by
 obtain ⟨k, e, rfl, hs⟩ := DataW.trod_int ht h
 simp only [Lit.wf, Bool.and_eq_true, decide_eq_true_eq] at hs
 have h1 : IntKind.i64.min = -9223372036854775808 := by decide
 have h2 : IntKind.i64.max = 9223372036854775807 := by decide
 exact ⟨k, e, ⟨by omega, by omega⟩, by simp [Rows.uptoBulk]⟩
theorem zAQ {t : TypeId} {n : Nat} {cs : List Value} {x : DataW H × List MemPlace} (ht : P.underlying t = some .string) (h : DataW.trod enc P W base spare held n t cs = some x) : ∃ l : Str, cs = [S l] ∧ l.length ≤ maxLen ∧ Rows.uptoBulk x.1 = l.length + 1 := by
 obtain ⟨s, e, rfl, hs⟩ := DataW.trod_string ht h
 obtain ⟨⟨l⟩⟩ := s
 exact ⟨l, e, by rw [S_size] at hs; exact hs, by simp [Rows.uptoBulk]⟩
end
end Go.Proofs.YtmdhhjmomilhjaaDoor
namespace Go.Proofs.YtmdhhjmomilhjaaDoor
open Go.Proofs.Tryd
set_option linter.all false
set_option maxRecDepth 4000
open Go.RowKit Go.WideShapes Go.ChangeShapes Go.Deep Go.WideElems Go.ChangeAt Go.ChangeMaps
theorem sum_two (l : List Str) : (l.map fun x => x.length + 2).sum ≤ 2 * (l.map fun s => s.length + 1).sum := by
 induction l with
 | nil => simp
 | cons x xs ih => simp only [List.map_cons, List.sum_cons]; omega
theorem zCq {H : Type} {enc : TypeId × Value → H} {W : World} {base : Nat} {spare : Nat → Bool} {held : Bool} {n : Nat} {cs : List Value} {x : DataW H × List MemPlace} (h : DataW.trod enc Tryd.prog W base spare held n 27 cs = some x) :
  ∃ o c l, cs = [.slice o l.length c] ∧ Strs (zBB W) o l.length c l ∧ (l.map fun x => x.length + 2).sum ≤ 2 * Rows.uptoBulk x.1 := by
 obtain ⟨o, q, c, l, el, hsl, hc, bl⟩ := zAM (R := fun _ vs (x : Str) => vs = [S x]) (β := fun s => s.length + 1) (sz := 1) (Rows.uptoBulk x.1) underlying27 (by kernel_rfl) (by omega)
  (fun n cs x _ ht _ => by obtain ⟨s, es, _, bs⟩ := zAQ underlying9 ht; exact ⟨s, es, by omega⟩) h (Nat.le_refl _)
 obtain rfl := hsl.len
 exact ⟨o, c, l, el, hsl, by have := sum_two l; omega⟩
theorem bulkAs_c (a : Ar) (ts : List Ar) : Zy (a :: ts) = a.name.length + (a.vars.map fun x => x.length + 2).sum + zt a.body + Zy ts := by obtain ⟨s, l, b⟩ := a; rw [Zy]; rfl
theorem zCk {α : Type} (l : List α) : (l.map fun _ => 1).sum = l.length := by induction l with | nil => rfl | cons x xs ih => rw [List.map_cons, List.sum_cons, ih, List.length_cons, Nat.add_comm]
theorem rw_open {H : Type} {enc : TypeId × Value → H} {W : World} {base : Nat} {spare : Nat → Bool} {held : Bool} {n : Nat} {cs : List Value} {x : DataW H × List MemPlace} (h : DataW.trod enc Tryd.prog W base spare held n 29 cs = some x) : ∃ r : Rw, RwR (zBB W) r cs := by
 obtain ⟨rn, rys, rhl, hx, rhcl, rhf⟩ := ZW underlying29 h
 obtain ⟨ry0, re0, rh0⟩ := rhf 0 _ rfl
 obtain ⟨ry1, re1, rh1⟩ := rhf 1 _ rfl
 have rhcl2 : (cs : List Value).length = 2 := rhcl.trans (by kernel_rfl)
 obtain ⟨rc0, rc1, rfl⟩ : ∃ rc0 rc1, cs = [rc0, rc1] := by match cs, rhcl2 with | [a0, a1], _ => exact ⟨_, _, rfl⟩
 change DataW.trod enc Tryd.prog W base spare held rn 27 (([rc0, rc1].drop 0).take (Tryd.prog.cellsOf 27)) = some ry0 at rh0
 rw [show Tryd.prog.cellsOf 27 = 1 by kernel_rfl] at rh0
 change DataW.trod enc Tryd.prog W base spare held rn 27 [rc0] = some ry0 at rh0
 change DataW.trod enc Tryd.prog W base spare held rn 3 (([rc0, rc1].drop 1).take (Tryd.prog.cellsOf 3)) = some ry1 at rh1
 rw [show Tryd.prog.cellsOf 3 = 1 by kernel_rfl] at rh1
 change DataW.trod enc Tryd.prog W base spare held rn 3 [rc1] = some ry1 at rh1
 have rhys : rys = [ry0, ry1] := by
  match rys, rhl with
  | [q0, q1], _ => simp at re0 re1; subst re0 re1; rfl
 subst rhys; simp only [List.map_cons, List.map_nil, Rows.uptoBulkAll] at hx
 obtain ⟨o, c, ls, e1, hs, _⟩ := zCq rh0; injection e1 with e1; subst e1
 obtain ⟨v, e_v, h_v, b_v⟩ := zAx underlying3 rh1; injection e_v with e_v; subst e_v
 exact ⟨⟨ls, v⟩, _, _, rfl, hs, h_v⟩
theorem zCe {H : Type} {enc : TypeId × Value → H} {W : World} {base : Nat} {spare : Nat → Bool} {held : Bool} : ∀ (B n : Nat) (cs : List Value) (x : DataW H × List MemPlace), Rows.uptoBulk x.1 ≤ B → DataW.trod enc Tryd.prog W base spare held n 31 cs = some x → ∃ t : Ty, TyR (zBB W) t cs := by
 intro B
 induction B with
 | zero => intro n cs x hB h; exact absurd (zAf x.1) (by omega)
 | succ B ih =>
  intro n cs x hB h
  obtain ⟨tn, tys, thl, hx, thcl, thf⟩ := ZW underlying31 h
  obtain ⟨ty0, te0, th0⟩ := thf 0 _ rfl
  obtain ⟨ty1, te1, th1⟩ := thf 1 _ rfl
  obtain ⟨ty2, te2, th2⟩ := thf 2 _ rfl
  obtain ⟨ty3, te3, th3⟩ := thf 3 _ rfl
  obtain ⟨ty4, te4, th4⟩ := thf 4 _ rfl
  have thcl2 : (cs : List Value).length = 6 := thcl.trans (by kernel_rfl)
  obtain ⟨tc0, tc1, tc2, tc3, tc4, tc5, rfl⟩ : ∃ tc0 tc1 tc2 tc3 tc4 tc5, cs = [tc0, tc1, tc2, tc3, tc4, tc5] := by match cs, thcl2 with | [a0, a1, a2, a3, a4, a5], _ => exact ⟨_, _, _, _, _, _, rfl⟩
  change DataW.trod enc Tryd.prog W base spare held tn 3 (([tc0, tc1, tc2, tc3, tc4, tc5].drop 0).take (Tryd.prog.cellsOf 3)) = some ty0 at th0
  rw [show Tryd.prog.cellsOf 3 = 1 by kernel_rfl] at th0
  change DataW.trod enc Tryd.prog W base spare held tn 3 [tc0] = some ty0 at th0
  change DataW.trod enc Tryd.prog W base spare held tn 9 (([tc0, tc1, tc2, tc3, tc4, tc5].drop 1).take (Tryd.prog.cellsOf 9)) = some ty1 at th1
  rw [show Tryd.prog.cellsOf 9 = 1 by kernel_rfl] at th1
  change DataW.trod enc Tryd.prog W base spare held tn 9 [tc1] = some ty1 at th1
  change DataW.trod enc Tryd.prog W base spare held tn 3 (([tc0, tc1, tc2, tc3, tc4, tc5].drop 2).take (Tryd.prog.cellsOf 3)) = some ty2 at th2
  rw [show Tryd.prog.cellsOf 3 = 1 by kernel_rfl] at th2
  change DataW.trod enc Tryd.prog W base spare held tn 3 [tc2] = some ty2 at th2
  change DataW.trod enc Tryd.prog W base spare held tn 26 (([tc0, tc1, tc2, tc3, tc4, tc5].drop 3).take (Tryd.prog.cellsOf 26)) = some ty3 at th3
  rw [show Tryd.prog.cellsOf 26 = 1 by kernel_rfl] at th3
  change DataW.trod enc Tryd.prog W base spare held tn 26 [tc3] = some ty3 at th3
  change DataW.trod enc Tryd.prog W base spare held tn 29 (([tc0, tc1, tc2, tc3, tc4, tc5].drop 4).take (Tryd.prog.cellsOf 29)) = some ty4 at th4
  rw [show Tryd.prog.cellsOf 29 = 2 by kernel_rfl] at th4
  change DataW.trod enc Tryd.prog W base spare held tn 29 [tc4, tc5] = some ty4 at th4
  have thys : tys = [ty0, ty1, ty2, ty3, ty4] := by
   match tys, thl with
   | [q0, q1, q2, q3, q4], _ => simp at te0 te1 te2 te3 te4; subst te0 te1 te2 te3 te4; rfl
  subst thys; simp only [List.map_cons, List.map_nil, Rows.uptoBulkAll] at hx
  obtain ⟨k, e_k, h_k, b_k⟩ := zAx underlying3 th0; injection e_k with e_k; subst e_k
  obtain ⟨s, e_s, h_s, b_s⟩ := zAQ underlying9 th1; injection e_s with e_s; subst e_s
  obtain ⟨v, e_v, h_v, b_v⟩ := zAx underlying3 th2; injection e_v with e_v; subst e_v
  obtain ⟨rn, rys, rhl, hx2, rhcl, rhf⟩ := ZW underlying29 th4
  obtain ⟨ry0, re0, rh0⟩ := rhf 0 _ rfl
  obtain ⟨ry1, re1, rh1⟩ := rhf 1 _ rfl
  have rhcl2 : ([tc4, tc5] : List Value).length = 2 := rhcl.trans (by kernel_rfl)
  change DataW.trod enc Tryd.prog W base spare held rn 27 (([tc4, tc5].drop 0).take (Tryd.prog.cellsOf 27)) = some ry0 at rh0
  rw [show Tryd.prog.cellsOf 27 = 1 by kernel_rfl] at rh0
  change DataW.trod enc Tryd.prog W base spare held rn 27 [tc4] = some ry0 at rh0
  change DataW.trod enc Tryd.prog W base spare held rn 3 (([tc4, tc5].drop 1).take (Tryd.prog.cellsOf 3)) = some ry1 at rh1
  rw [show Tryd.prog.cellsOf 3 = 1 by kernel_rfl] at rh1
  change DataW.trod enc Tryd.prog W base spare held rn 3 [tc5] = some ry1 at rh1
  have rhys : rys = [ry0, ry1] := by
   match rys, rhl with
   | [q0, q1], _ => simp at re0 re1; subst re0 re1; rfl
  subst rhys; simp only [List.map_cons, List.map_nil, Rows.uptoBulkAll] at hx2
  obtain ⟨ol, cl, ls, el, hls, _⟩ := zCq rh0; injection el with el; subst el
  obtain ⟨rv, e_rv, h_rv, b_rv⟩ := zAx underlying3 rh1; injection e_rv with e_rv; subst e_rv
  obtain ⟨o, q, c, l, el2, hsl, hc, bl⟩ := zAM (R := fun m vs t => TyR m t vs) (β := fun _ => 0) (sz := 6) (Rows.uptoBulk ty3.1) underlying26 (by kernel_rfl) (by omega)
   (fun n cs x hx9 ht _ => by obtain ⟨t, h1⟩ := ih n cs x (by omega) ht; exact ⟨t, h1, Nat.zero_le _⟩) th3 (Nat.le_refl _)
  obtain rfl := hsl.len
  injection el2 with el2; subst el2
  exact ⟨⟨k, s, v, l, ls, rv⟩, TyR.build hsl hls h_k h_v h_rv⟩
theorem os_open {H : Type} {enc : TypeId × Value → H} {W : World} {base : Nat} {spare : Nat → Bool} {held : Bool} {n : Nat} {cs : List Value} {x : DataW H × List MemPlace} (h : DataW.trod enc Tryd.prog W base spare held n 118 cs = some x) : ∃ r : Os, OsR (zBB W) r cs := by
 obtain ⟨sn, sys, shl, hx, shcl, shf⟩ := ZW underlying118 h
 obtain ⟨sy0, se0, sh0⟩ := shf 0 _ rfl
 obtain ⟨sy1, se1, sh1⟩ := shf 1 _ rfl
 obtain ⟨sy2, se2, sh2⟩ := shf 2 _ rfl
 have shcl2 : (cs : List Value).length = 13 := shcl.trans (by kernel_rfl)
 obtain ⟨sc0, sc1, sc2, sc3, sc4, sc5, sc6, sc7, sc8, sc9, sc10, sc11, sc12, rfl⟩ : ∃ sc0 sc1 sc2 sc3 sc4 sc5 sc6 sc7 sc8 sc9 sc10 sc11 sc12, cs = [sc0, sc1, sc2, sc3, sc4, sc5, sc6, sc7, sc8, sc9, sc10, sc11, sc12] := by match cs, shcl2 with | [a0, a1, a2, a3, a4, a5, a6, a7, a8, a9, a10, a11, a12], _ => exact ⟨_, _, _, _, _, _, _, _, _, _, _, _, _, rfl⟩
 change DataW.trod enc Tryd.prog W base spare held sn 9 (([sc0, sc1, sc2, sc3, sc4, sc5, sc6, sc7, sc8, sc9, sc10, sc11, sc12].drop 0).take (Tryd.prog.cellsOf 9)) = some sy0 at sh0
 rw [show Tryd.prog.cellsOf 9 = 1 by kernel_rfl] at sh0
 change DataW.trod enc Tryd.prog W base spare held sn 9 [sc0] = some sy0 at sh0
 change DataW.trod enc Tryd.prog W base spare held sn 31 (([sc0, sc1, sc2, sc3, sc4, sc5, sc6, sc7, sc8, sc9, sc10, sc11, sc12].drop 1).take (Tryd.prog.cellsOf 31)) = some sy1 at sh1
 rw [show Tryd.prog.cellsOf 31 = 6 by kernel_rfl] at sh1
 change DataW.trod enc Tryd.prog W base spare held sn 31 [sc1, sc2, sc3, sc4, sc5, sc6] = some sy1 at sh1
 change DataW.trod enc Tryd.prog W base spare held sn 31 (([sc0, sc1, sc2, sc3, sc4, sc5, sc6, sc7, sc8, sc9, sc10, sc11, sc12].drop 7).take (Tryd.prog.cellsOf 31)) = some sy2 at sh2
 rw [show Tryd.prog.cellsOf 31 = 6 by kernel_rfl] at sh2
 change DataW.trod enc Tryd.prog W base spare held sn 31 [sc7, sc8, sc9, sc10, sc11, sc12] = some sy2 at sh2
 have shys : sys = [sy0, sy1, sy2] := by
  match sys, shl with
  | [q0, q1, q2], _ => simp at se0 se1 se2; subst se0 se1 se2; rfl
 subst shys; simp only [List.map_cons, List.map_nil, Rows.uptoBulkAll] at hx
 obtain ⟨s, e_s, h_s, b_s⟩ := zAQ underlying9 sh0; injection e_s with e_s; subst e_s
 obtain ⟨a, ha⟩ := (zCe _ _ _ _ (Nat.le_refl _) sh1)
 obtain ⟨r, hr⟩ := (zCe _ _ _ _ (Nat.le_refl _) sh2)
 exact ⟨⟨s, a, r⟩, _, _, rfl, ha, hr⟩
theorem ef_open {H : Type} {enc : TypeId × Value → H} {W : World} {base : Nat} {spare : Nat → Bool} {held : Bool} {n : Nat} {cs : List Value} {x : DataW H × List MemPlace} (h : DataW.trod enc Tryd.prog W base spare held n 115 cs = some x) : ∃ r : Ef, EfR (zBB W) r cs ∧ r.ops.length ≤ Rows.uptoBulk x.1 := by
 obtain ⟨sn, sys, shl, hx, shcl, shf⟩ := ZW underlying115 h
 obtain ⟨sy0, se0, sh0⟩ := shf 0 _ rfl
 obtain ⟨sy1, se1, sh1⟩ := shf 1 _ rfl
 have shcl2 : (cs : List Value).length = 2 := shcl.trans (by kernel_rfl)
 obtain ⟨sc0, sc1, rfl⟩ : ∃ sc0 sc1, cs = [sc0, sc1] := by match cs, shcl2 with | [a0, a1], _ => exact ⟨_, _, rfl⟩
 change DataW.trod enc Tryd.prog W base spare held sn 9 (([sc0, sc1].drop 0).take (Tryd.prog.cellsOf 9)) = some sy0 at sh0
 rw [show Tryd.prog.cellsOf 9 = 1 by kernel_rfl] at sh0
 change DataW.trod enc Tryd.prog W base spare held sn 9 [sc0] = some sy0 at sh0
 change DataW.trod enc Tryd.prog W base spare held sn 113 (([sc0, sc1].drop 1).take (Tryd.prog.cellsOf 113)) = some sy1 at sh1
 rw [show Tryd.prog.cellsOf 113 = 1 by kernel_rfl] at sh1
 change DataW.trod enc Tryd.prog W base spare held sn 113 [sc1] = some sy1 at sh1
 have shys : sys = [sy0, sy1] := by
  match sys, shl with
  | [q0, q1], _ => simp at se0 se1; subst se0 se1; rfl
 subst shys; simp only [List.map_cons, List.map_nil, Rows.uptoBulkAll] at hx
 obtain ⟨s, e_s, h_s, b_s⟩ := zAQ underlying9 sh0; injection e_s with e_s; subst e_s
 obtain ⟨o, q, c, l, el2, hsl, hc, bl⟩ := zAM (R := fun m vs t => OsR m t vs) (β := fun _ => 1) (sz := 13) (Rows.uptoBulk sy1.1) underlying113 (by kernel_rfl) (by omega)
  (fun n cs x hx9 ht _ => by obtain ⟨t, h1⟩ := os_open ht; exact ⟨t, h1, zAf _⟩) sh1 (Nat.le_refl _)
 obtain rfl := hsl.len
 injection el2 with el2; subst el2
 have h1 := zCk l
 exact ⟨⟨s, l⟩, ⟨_, _, rfl, hsl⟩, by show l.length ≤ _; omega⟩
theorem cs_open {H : Type} {enc : TypeId × Value → H} {W : World} {base : Nat} {spare : Nat → Bool} {held : Bool} {n : Nat} {cs : List Value} {x : DataW H × List MemPlace} (h : DataW.trod enc Tryd.prog W base spare held n 124 cs = some x) : ∃ r : Cs, CsR (zBB W) r cs ∧ r.fields.length ≤ Rows.uptoBulk x.1 := by
 obtain ⟨sn, sys, shl, hx, shcl, shf⟩ := ZW underlying124 h
 obtain ⟨sy0, se0, sh0⟩ := shf 0 _ rfl
 obtain ⟨sy1, se1, sh1⟩ := shf 1 _ rfl
 have shcl2 : (cs : List Value).length = 2 := shcl.trans (by kernel_rfl)
 obtain ⟨sc0, sc1, rfl⟩ : ∃ sc0 sc1, cs = [sc0, sc1] := by match cs, shcl2 with | [a0, a1], _ => exact ⟨_, _, rfl⟩
 change DataW.trod enc Tryd.prog W base spare held sn 9 (([sc0, sc1].drop 0).take (Tryd.prog.cellsOf 9)) = some sy0 at sh0
 rw [show Tryd.prog.cellsOf 9 = 1 by kernel_rfl] at sh0
 change DataW.trod enc Tryd.prog W base spare held sn 9 [sc0] = some sy0 at sh0
 change DataW.trod enc Tryd.prog W base spare held sn 26 (([sc0, sc1].drop 1).take (Tryd.prog.cellsOf 26)) = some sy1 at sh1
 rw [show Tryd.prog.cellsOf 26 = 1 by kernel_rfl] at sh1
 change DataW.trod enc Tryd.prog W base spare held sn 26 [sc1] = some sy1 at sh1
 have shys : sys = [sy0, sy1] := by
  match sys, shl with
  | [q0, q1], _ => simp at se0 se1; subst se0 se1; rfl
 subst shys; simp only [List.map_cons, List.map_nil, Rows.uptoBulkAll] at hx
 obtain ⟨s, e_s, h_s, b_s⟩ := zAQ underlying9 sh0; injection e_s with e_s; subst e_s
 obtain ⟨o, q, c, l, el2, hsl, hc, bl⟩ := zAM (R := fun m vs t => TyR m t vs) (β := fun _ => 1) (sz := 6) (Rows.uptoBulk sy1.1) underlying26 (by kernel_rfl) (by omega)
  (fun n cs x hx9 ht _ => by obtain ⟨t, h1⟩ := (zCe _ _ _ _ (Nat.le_refl _) ht); exact ⟨t, h1, zAf _⟩) sh1 (Nat.le_refl _)
 obtain rfl := hsl.len
 injection el2 with el2; subst el2
 have h1 := zCk l
 exact ⟨⟨s, l⟩, ⟨_, _, rfl, hsl⟩, by show l.length ≤ _; omega⟩
theorem da_open {H : Type} {enc : TypeId × Value → H} {W : World} {base : Nat} {spare : Nat → Bool} {held : Bool} {n : Nat} {cs : List Value} {x : DataW H × List MemPlace} (h : DataW.trod enc Tryd.prog W base spare held n 122 cs = some x) : ∃ r : Da, DaR (zBB W) r cs ∧ r.cons.length ≤ Rows.uptoBulk x.1 := by
 obtain ⟨sn, sys, shl, hx, shcl, shf⟩ := ZW underlying122 h
 obtain ⟨sy0, se0, sh0⟩ := shf 0 _ rfl
 obtain ⟨sy1, se1, sh1⟩ := shf 1 _ rfl
 have shcl2 : (cs : List Value).length = 2 := shcl.trans (by kernel_rfl)
 obtain ⟨sc0, sc1, rfl⟩ : ∃ sc0 sc1, cs = [sc0, sc1] := by match cs, shcl2 with | [a0, a1], _ => exact ⟨_, _, rfl⟩
 change DataW.trod enc Tryd.prog W base spare held sn 9 (([sc0, sc1].drop 0).take (Tryd.prog.cellsOf 9)) = some sy0 at sh0
 rw [show Tryd.prog.cellsOf 9 = 1 by kernel_rfl] at sh0
 change DataW.trod enc Tryd.prog W base spare held sn 9 [sc0] = some sy0 at sh0
 change DataW.trod enc Tryd.prog W base spare held sn 120 (([sc0, sc1].drop 1).take (Tryd.prog.cellsOf 120)) = some sy1 at sh1
 rw [show Tryd.prog.cellsOf 120 = 1 by kernel_rfl] at sh1
 change DataW.trod enc Tryd.prog W base spare held sn 120 [sc1] = some sy1 at sh1
 have shys : sys = [sy0, sy1] := by
  match sys, shl with
  | [q0, q1], _ => simp at se0 se1; subst se0 se1; rfl
 subst shys; simp only [List.map_cons, List.map_nil, Rows.uptoBulkAll] at hx
 obtain ⟨s, e_s, h_s, b_s⟩ := zAQ underlying9 sh0; injection e_s with e_s; subst e_s
 obtain ⟨o, q, c, l, el2, hsl, hc, bl⟩ := zAM (R := fun m vs t => CsR m t vs) (β := fun _ => 1) (sz := 2) (Rows.uptoBulk sy1.1) underlying120 (by kernel_rfl) (by omega)
  (fun n cs x hx9 ht _ => by obtain ⟨t, h1, _⟩ := cs_open ht; exact ⟨t, h1, zAf _⟩) sh1 (Nat.le_refl _)
 obtain rfl := hsl.len
 injection el2 with el2; subst el2
 have h1 := zCk l
 exact ⟨⟨s, l⟩, ⟨_, _, rfl, hsl⟩, by show l.length ≤ _; omega⟩
theorem tm_open {H : Type} {enc : TypeId × Value → H} {W : World} {base : Nat} {spare : Nat → Bool} {held : Bool} : ∀ (B : Nat), (∀ (n : Nat) (cs : List Value) (x : DataW H × List MemPlace), Rows.uptoBulk x.1 ≤ B → DataW.trod enc Tryd.prog W base spare held n 33 cs = some x → ∃ t : Tm, TmR (zBB W) t cs ∧ zt t ≤ 2 * Rows.uptoBulk x.1) ∧ (∀ (n : Nat) (cs : List Value) (x : DataW H × List MemPlace), Rows.uptoBulk x.1 ≤ B → DataW.trod enc Tryd.prog W base spare held n 72 cs = some x → ∃ a : Ar, ArR (zBB W) a cs ∧ a.name.length + (a.vars.map fun x => x.length + 2).sum + zt a.body ≤ 2 * Rows.uptoBulk x.1) := by
 intro B
 induction B with
 | zero => exact ⟨fun n cs x hB h => absurd (zAf x.1) (by omega), fun n cs x hB h => absurd (zAf x.1) (by omega)⟩
 | succ B ih =>
  refine ⟨fun n cs x hB h => ?_, fun n cs x hB h => ?_⟩
  ·obtain ⟨tn, tys, thl, hx, thcl, thf⟩ := ZW underlying33 h
   obtain ⟨ty0, te0, th0⟩ := thf 0 _ rfl
   obtain ⟨ty1, te1, th1⟩ := thf 1 _ rfl
   obtain ⟨ty2, te2, th2⟩ := thf 2 _ rfl
   obtain ⟨ty3, te3, th3⟩ := thf 3 _ rfl
   obtain ⟨ty4, te4, th4⟩ := thf 4 _ rfl
   obtain ⟨ty5, te5, th5⟩ := thf 5 _ rfl
   obtain ⟨ty6, te6, th6⟩ := thf 6 _ rfl
   obtain ⟨ty7, te7, th7⟩ := thf 7 _ rfl
   obtain ⟨ty8, te8, th8⟩ := thf 8 _ rfl
   obtain ⟨ty9, te9, th9⟩ := thf 9 _ rfl
   have thcl2 : (cs : List Value).length = 21 := thcl.trans (by kernel_rfl)
   obtain ⟨tc0, tc1, tc2, tc3, tc4, tc5, tc6, tc7, tc8, tc9, tc10, tc11, tc12, tc13, tc14, tc15, tc16, tc17, tc18, tc19, tc20, rfl⟩ : ∃ tc0 tc1 tc2 tc3 tc4 tc5 tc6 tc7 tc8 tc9 tc10 tc11 tc12 tc13 tc14 tc15 tc16 tc17 tc18 tc19 tc20, cs = [tc0, tc1, tc2, tc3, tc4, tc5, tc6, tc7, tc8, tc9, tc10, tc11, tc12, tc13, tc14, tc15, tc16, tc17, tc18, tc19, tc20] := by match cs, thcl2 with | [a0, a1, a2, a3, a4, a5, a6, a7, a8, a9, a10, a11, a12, a13, a14, a15, a16, a17, a18, a19, a20], _ => exact ⟨_, _, _, _, _, _, _, _, _, _, _, _, _, _, _, _, _, _, _, _, _, rfl⟩
   change DataW.trod enc Tryd.prog W base spare held tn 3 (([tc0, tc1, tc2, tc3, tc4, tc5, tc6, tc7, tc8, tc9, tc10, tc11, tc12, tc13, tc14, tc15, tc16, tc17, tc18, tc19, tc20].drop 0).take (Tryd.prog.cellsOf 3)) = some ty0 at th0
   rw [show Tryd.prog.cellsOf 3 = 1 by kernel_rfl] at th0
   change DataW.trod enc Tryd.prog W base spare held tn 3 [tc0] = some ty0 at th0
   change DataW.trod enc Tryd.prog W base spare held tn 3 (([tc0, tc1, tc2, tc3, tc4, tc5, tc6, tc7, tc8, tc9, tc10, tc11, tc12, tc13, tc14, tc15, tc16, tc17, tc18, tc19, tc20].drop 1).take (Tryd.prog.cellsOf 3)) = some ty1 at th1
   rw [show Tryd.prog.cellsOf 3 = 1 by kernel_rfl] at th1
   change DataW.trod enc Tryd.prog W base spare held tn 3 [tc1] = some ty1 at th1
   change DataW.trod enc Tryd.prog W base spare held tn 9 (([tc0, tc1, tc2, tc3, tc4, tc5, tc6, tc7, tc8, tc9, tc10, tc11, tc12, tc13, tc14, tc15, tc16, tc17, tc18, tc19, tc20].drop 2).take (Tryd.prog.cellsOf 9)) = some ty2 at th2
   rw [show Tryd.prog.cellsOf 9 = 1 by kernel_rfl] at th2
   change DataW.trod enc Tryd.prog W base spare held tn 9 [tc2] = some ty2 at th2
   change DataW.trod enc Tryd.prog W base spare held tn 9 (([tc0, tc1, tc2, tc3, tc4, tc5, tc6, tc7, tc8, tc9, tc10, tc11, tc12, tc13, tc14, tc15, tc16, tc17, tc18, tc19, tc20].drop 3).take (Tryd.prog.cellsOf 9)) = some ty3 at th3
   rw [show Tryd.prog.cellsOf 9 = 1 by kernel_rfl] at th3
   change DataW.trod enc Tryd.prog W base spare held tn 9 [tc3] = some ty3 at th3
   change DataW.trod enc Tryd.prog W base spare held tn 3 (([tc0, tc1, tc2, tc3, tc4, tc5, tc6, tc7, tc8, tc9, tc10, tc11, tc12, tc13, tc14, tc15, tc16, tc17, tc18, tc19, tc20].drop 4).take (Tryd.prog.cellsOf 3)) = some ty4 at th4
   rw [show Tryd.prog.cellsOf 3 = 1 by kernel_rfl] at th4
   change DataW.trod enc Tryd.prog W base spare held tn 3 [tc4] = some ty4 at th4
   change DataW.trod enc Tryd.prog W base spare held tn 24 (([tc0, tc1, tc2, tc3, tc4, tc5, tc6, tc7, tc8, tc9, tc10, tc11, tc12, tc13, tc14, tc15, tc16, tc17, tc18, tc19, tc20].drop 5).take (Tryd.prog.cellsOf 24)) = some ty5 at th5
   rw [show Tryd.prog.cellsOf 24 = 1 by kernel_rfl] at th5
   change DataW.trod enc Tryd.prog W base spare held tn 24 [tc5] = some ty5 at th5
   change DataW.trod enc Tryd.prog W base spare held tn 25 (([tc0, tc1, tc2, tc3, tc4, tc5, tc6, tc7, tc8, tc9, tc10, tc11, tc12, tc13, tc14, tc15, tc16, tc17, tc18, tc19, tc20].drop 6).take (Tryd.prog.cellsOf 25)) = some ty6 at th6
   rw [show Tryd.prog.cellsOf 25 = 1 by kernel_rfl] at th6
   change DataW.trod enc Tryd.prog W base spare held tn 25 [tc6] = some ty6 at th6
   change DataW.trod enc Tryd.prog W base spare held tn 31 (([tc0, tc1, tc2, tc3, tc4, tc5, tc6, tc7, tc8, tc9, tc10, tc11, tc12, tc13, tc14, tc15, tc16, tc17, tc18, tc19, tc20].drop 7).take (Tryd.prog.cellsOf 31)) = some ty7 at th7
   rw [show Tryd.prog.cellsOf 31 = 6 by kernel_rfl] at th7
   change DataW.trod enc Tryd.prog W base spare held tn 31 [tc7, tc8, tc9, tc10, tc11, tc12] = some ty7 at th7
   change DataW.trod enc Tryd.prog W base spare held tn 29 (([tc0, tc1, tc2, tc3, tc4, tc5, tc6, tc7, tc8, tc9, tc10, tc11, tc12, tc13, tc14, tc15, tc16, tc17, tc18, tc19, tc20].drop 13).take (Tryd.prog.cellsOf 29)) = some ty8 at th8
   rw [show Tryd.prog.cellsOf 29 = 2 by kernel_rfl] at th8
   change DataW.trod enc Tryd.prog W base spare held tn 29 [tc13, tc14] = some ty8 at th8
   change DataW.trod enc Tryd.prog W base spare held tn 31 (([tc0, tc1, tc2, tc3, tc4, tc5, tc6, tc7, tc8, tc9, tc10, tc11, tc12, tc13, tc14, tc15, tc16, tc17, tc18, tc19, tc20].drop 15).take (Tryd.prog.cellsOf 31)) = some ty9 at th9
   rw [show Tryd.prog.cellsOf 31 = 6 by kernel_rfl] at th9
   change DataW.trod enc Tryd.prog W base spare held tn 31 [tc15, tc16, tc17, tc18, tc19, tc20] = some ty9 at th9
   have thys : tys = [ty0, ty1, ty2, ty3, ty4, ty5, ty6, ty7, ty8, ty9] := by
    match tys, thl with
    | [q0, q1, q2, q3, q4, q5, q6, q7, q8, q9], _ => simp at te0 te1 te2 te3 te4 te5 te6 te7 te8 te9; subst te0 te1 te2 te3 te4 te5 te6 te7 te8 te9; rfl
   subst thys; simp only [List.map_cons, List.map_nil, Rows.uptoBulkAll] at hx
   obtain ⟨k, e_k, h_k, b_k⟩ := zAx underlying3 th0; injection e_k with e_k; subst e_k
   obtain ⟨a, e_a, h_a, b_a⟩ := zAx underlying3 th1; injection e_a with e_a; subst e_a
   obtain ⟨s, e_s, h_s, b_s⟩ := zAQ underlying9 th2; injection e_s with e_s; subst e_s
   obtain ⟨p, e_p, h_p, b_p⟩ := zAQ underlying9 th3; injection e_p with e_p; subst e_p
   obtain ⟨nn, e_nn, h_nn, b_nn⟩ := zAx underlying3 th4; injection e_nn with e_nn; subst e_nn
   obtain ⟨ty, hty⟩ := (zCe _ _ _ _ (Nat.le_refl _) th7)
   obtain ⟨rr, hrr⟩ := rw_open th8
   obtain ⟨tz, htz⟩ := (zCe _ _ _ _ (Nat.le_refl _) th9)
   obtain ⟨o, q, cc, l, el2, hsl, hc, bl⟩ := zAM (R := fun m vs t => TmR m t vs ∧ zt t ≤ 2 * Rows.uptoBulk ty5.1) (β := fun t => (zt t + 1) / 2) (sz := 21) (Rows.uptoBulk ty5.1) underlying24 (by kernel_rfl) (by omega)
    (fun n cs x hx9 ht _ => by obtain ⟨t, h1, h2⟩ := ih.1 n cs x (by omega) ht; exact ⟨t, ⟨h1, by omega⟩, by omega⟩) th5 (Nat.le_refl _)
   obtain rfl := hsl.len
   injection el2 with el2; subst el2
   have hsl2 : Tms (zBB W) o l.length cc l := ⟨rfl, hsl.cap, hsl.big, fun i x hx => by obtain ⟨p, vs, a1, a2, a3, a4⟩ := hsl.at_ i x hx; exact ⟨p, vs, a1, a2, a3, a4.1⟩⟩
   obtain ⟨o4, q4, c4, l4, el4, hsl4, hc4, bl4⟩ := zAM (R := fun m vs a => ArR m a vs ∧ a.name.length + (a.vars.map fun x => x.length + 2).sum + zt a.body ≤ 2 * Rows.uptoBulk ty6.1) (β := fun a => (a.name.length + (a.vars.map fun x => x.length + 2).sum + zt a.body + 1) / 2) (sz := 23) (Rows.uptoBulk ty6.1) underlying25 (by kernel_rfl) (by omega)
    (fun n cs x hx9 ht _ => by obtain ⟨t, h1, h2⟩ := ih.2 n cs x (by omega) ht; exact ⟨t, ⟨h1, by omega⟩, by omega⟩) th6 (Nat.le_refl _)
   obtain rfl := hsl4.len
   injection el4 with el4; subst el4
   have hsl5 : Ars (zBB W) o4 l4.length c4 l4 := ⟨rfl, hsl4.cap, hsl4.big, fun i x hx => by obtain ⟨p, vs, a1, a2, a3, a4⟩ := hsl4.at_ i x hx; exact ⟨p, vs, a1, a2, a3, a4.1⟩⟩
   have key : ∀ l : List Tm, zAG l ≤ 2 * (l.map fun t => (zt t + 1) / 2).sum := by
    intro l
    induction l with
    | nil => simp [zAG]
    | cons x xs ih => simp only [zAG, List.map_cons, List.sum_cons]; omega
   have key2 : ∀ l : List Ar, Zy l ≤ 2 * (l.map fun a => (a.name.length + (a.vars.map fun x => x.length + 2).sum + zt a.body + 1) / 2).sum := by
    intro l
    induction l with
    | nil => simp [Zy]
    | cons x xs ih => rw [bulkAs_c, List.map_cons, List.sum_cons]; omega
   have hk := key l; have hk2 := key2 l4
   obtain ⟨o3, c3, e3, hs3, hv3⟩ := hrr
   simp only [List.cons.injEq, and_true] at e3
   obtain ⟨e3a, e3b⟩ := e3; subst e3a e3b
   have hone1 := RepR.one (R := fun m vs t => TyR m t vs) hty; have hone2 := RepR.one (R := fun m vs t => TyR m t vs) htz
   refine ⟨⟨k, a, s, p, nn, l, l4, rr⟩, TmR.build (y := ⟨o, cc, o4, c4, o3, c3, tc7, tc8, tc9, tc10, tc11, tc12, tc15, tc16, tc17, tc18, tc19, tc20⟩) ?_ hsl2 hsl5 ⟨_, _, rfl, hs3, hv3⟩, ?_⟩
   ·unfold TmY.one
    simp only [List.all_cons, List.all_nil, Bool.and_true, Bool.and_eq_true] at hone1 hone2 ⊢
    exact ⟨hone1.1, hone1.2.1, hone1.2.2.1, hone1.2.2.2.1, hone1.2.2.2.2.1, hone1.2.2.2.2.2, hone2.1, hone2.2.1, hone2.2.2.1, hone2.2.2.2.1, hone2.2.2.2.2.1, hone2.2.2.2.2.2⟩
   ·have e1 := zAf (H := H) ty0.1; rw [zt]; omega
  ·obtain ⟨tn, tys, thl, hx, thcl, thf⟩ := ZW underlying72 h
   obtain ⟨ty0, te0, th0⟩ := thf 0 _ rfl
   obtain ⟨ty1, te1, th1⟩ := thf 1 _ rfl
   obtain ⟨ty2, te2, th2⟩ := thf 2 _ rfl
   have thcl2 : (cs : List Value).length = 23 := thcl.trans (by kernel_rfl)
   obtain ⟨tc0, tc1, tc2, tc3, tc4, tc5, tc6, tc7, tc8, tc9, tc10, tc11, tc12, tc13, tc14, tc15, tc16, tc17, tc18, tc19, tc20, tc21, tc22, rfl⟩ : ∃ tc0 tc1 tc2 tc3 tc4 tc5 tc6 tc7 tc8 tc9 tc10 tc11 tc12 tc13 tc14 tc15 tc16 tc17 tc18 tc19 tc20 tc21 tc22, cs = [tc0, tc1, tc2, tc3, tc4, tc5, tc6, tc7, tc8, tc9, tc10, tc11, tc12, tc13, tc14, tc15, tc16, tc17, tc18, tc19, tc20, tc21, tc22] := by match cs, thcl2 with | [a0, a1, a2, a3, a4, a5, a6, a7, a8, a9, a10, a11, a12, a13, a14, a15, a16, a17, a18, a19, a20, a21, a22], _ => exact ⟨_, _, _, _, _, _, _, _, _, _, _, _, _, _, _, _, _, _, _, _, _, _, _, rfl⟩
   change DataW.trod enc Tryd.prog W base spare held tn 9 (([tc0, tc1, tc2, tc3, tc4, tc5, tc6, tc7, tc8, tc9, tc10, tc11, tc12, tc13, tc14, tc15, tc16, tc17, tc18, tc19, tc20, tc21, tc22].drop 0).take (Tryd.prog.cellsOf 9)) = some ty0 at th0
   rw [show Tryd.prog.cellsOf 9 = 1 by kernel_rfl] at th0
   change DataW.trod enc Tryd.prog W base spare held tn 9 [tc0] = some ty0 at th0
   change DataW.trod enc Tryd.prog W base spare held tn 27 (([tc0, tc1, tc2, tc3, tc4, tc5, tc6, tc7, tc8, tc9, tc10, tc11, tc12, tc13, tc14, tc15, tc16, tc17, tc18, tc19, tc20, tc21, tc22].drop 1).take (Tryd.prog.cellsOf 27)) = some ty1 at th1
   rw [show Tryd.prog.cellsOf 27 = 1 by kernel_rfl] at th1
   change DataW.trod enc Tryd.prog W base spare held tn 27 [tc1] = some ty1 at th1
   change DataW.trod enc Tryd.prog W base spare held tn 33 (([tc0, tc1, tc2, tc3, tc4, tc5, tc6, tc7, tc8, tc9, tc10, tc11, tc12, tc13, tc14, tc15, tc16, tc17, tc18, tc19, tc20, tc21, tc22].drop 2).take (Tryd.prog.cellsOf 33)) = some ty2 at th2
   rw [show Tryd.prog.cellsOf 33 = 21 by kernel_rfl] at th2
   change DataW.trod enc Tryd.prog W base spare held tn 33 [tc2, tc3, tc4, tc5, tc6, tc7, tc8, tc9, tc10, tc11, tc12, tc13, tc14, tc15, tc16, tc17, tc18, tc19, tc20, tc21, tc22] = some ty2 at th2
   have thys : tys = [ty0, ty1, ty2] := by
    match tys, thl with
    | [q0, q1, q2], _ => simp at te0 te1 te2; subst te0 te1 te2; rfl
   subst thys; simp only [List.map_cons, List.map_nil, Rows.uptoBulkAll] at hx
   obtain ⟨s, e_s, h_s, b_s⟩ := zAQ underlying9 th0; injection e_s with e_s; subst e_s
   obtain ⟨o, c, l, e1, hs, hb⟩ := zCq th1; injection e1 with e1; subst e1
   obtain ⟨b, hbt, hbb⟩ := ih.1 _ _ _ (by omega) th2
   exact ⟨⟨s, l, b⟩, ⟨_, _, _, rfl, hs, hbt⟩, by simp only [Ar.name, Ar.vars, Ar.body]; omega⟩
theorem pg_open {H : Type} {enc : TypeId × Value → H} {W : World} {base : Nat} {spare : Nat → Bool} {held : Bool} {n : Nat} {cs : List Value} {x : DataW H × List MemPlace} (h : DataW.trod enc Tryd.prog W base spare held n 35 cs = some x) : ∃ p : Pg, PgR (zBB W) p cs ∧ zBA p.effects ≤ Rows.uptoBulk x.1 ∧ consN p.datas ≤ Rows.uptoBulk x.1 ∧ p.datas.length ≤ Rows.uptoBulk x.1 ∧ zt p.body ≤ 2 * Rows.uptoBulk x.1 := by
 obtain ⟨tn, tys, thl, hx, thcl, thf⟩ := ZW underlying35 h
 obtain ⟨ty0, te0, th0⟩ := thf 0 _ rfl
 obtain ⟨ty1, te1, th1⟩ := thf 1 _ rfl
 obtain ⟨ty2, te2, th2⟩ := thf 2 _ rfl
 have thcl2 : (cs : List Value).length = 23 := thcl.trans (by kernel_rfl)
 obtain ⟨tc0, tc1, tc2, tc3, tc4, tc5, tc6, tc7, tc8, tc9, tc10, tc11, tc12, tc13, tc14, tc15, tc16, tc17, tc18, tc19, tc20, tc21, tc22, rfl⟩ : ∃ tc0 tc1 tc2 tc3 tc4 tc5 tc6 tc7 tc8 tc9 tc10 tc11 tc12 tc13 tc14 tc15 tc16 tc17 tc18 tc19 tc20 tc21 tc22, cs = [tc0, tc1, tc2, tc3, tc4, tc5, tc6, tc7, tc8, tc9, tc10, tc11, tc12, tc13, tc14, tc15, tc16, tc17, tc18, tc19, tc20, tc21, tc22] := by match cs, thcl2 with | [a0, a1, a2, a3, a4, a5, a6, a7, a8, a9, a10, a11, a12, a13, a14, a15, a16, a17, a18, a19, a20, a21, a22], _ => exact ⟨_, _, _, _, _, _, _, _, _, _, _, _, _, _, _, _, _, _, _, _, _, _, _, rfl⟩
 change DataW.trod enc Tryd.prog W base spare held tn 22 (([tc0, tc1, tc2, tc3, tc4, tc5, tc6, tc7, tc8, tc9, tc10, tc11, tc12, tc13, tc14, tc15, tc16, tc17, tc18, tc19, tc20, tc21, tc22].drop 0).take (Tryd.prog.cellsOf 22)) = some ty0 at th0
 rw [show Tryd.prog.cellsOf 22 = 1 by kernel_rfl] at th0
 change DataW.trod enc Tryd.prog W base spare held tn 22 [tc0] = some ty0 at th0
 change DataW.trod enc Tryd.prog W base spare held tn 23 (([tc0, tc1, tc2, tc3, tc4, tc5, tc6, tc7, tc8, tc9, tc10, tc11, tc12, tc13, tc14, tc15, tc16, tc17, tc18, tc19, tc20, tc21, tc22].drop 1).take (Tryd.prog.cellsOf 23)) = some ty1 at th1
 rw [show Tryd.prog.cellsOf 23 = 1 by kernel_rfl] at th1
 change DataW.trod enc Tryd.prog W base spare held tn 23 [tc1] = some ty1 at th1
 change DataW.trod enc Tryd.prog W base spare held tn 33 (([tc0, tc1, tc2, tc3, tc4, tc5, tc6, tc7, tc8, tc9, tc10, tc11, tc12, tc13, tc14, tc15, tc16, tc17, tc18, tc19, tc20, tc21, tc22].drop 2).take (Tryd.prog.cellsOf 33)) = some ty2 at th2
 rw [show Tryd.prog.cellsOf 33 = 21 by kernel_rfl] at th2
 change DataW.trod enc Tryd.prog W base spare held tn 33 [tc2, tc3, tc4, tc5, tc6, tc7, tc8, tc9, tc10, tc11, tc12, tc13, tc14, tc15, tc16, tc17, tc18, tc19, tc20, tc21, tc22] = some ty2 at th2
 have thys : tys = [ty0, ty1, ty2] := by
  match tys, thl with
  | [q0, q1, q2], _ => simp at te0 te1 te2; subst te0 te1 te2; rfl
 subst thys; simp only [List.map_cons, List.map_nil, Rows.uptoBulkAll] at hx
 obtain ⟨o, q, cc, l, el2, hsl, hc, bl⟩ := zAM (R := fun m vs t => EfR m t vs) (β := fun e => e.ops.length) (sz := 2) (Rows.uptoBulk ty0.1) underlying22 (by kernel_rfl) (by omega) (fun n cs x hx9 ht _ => ef_open ht) th0 (Nat.le_refl _)
 obtain rfl := hsl.len
 injection el2 with el2; subst el2
 obtain ⟨o4, q4, c4, l4, el4, hsl4, hc4, bl4⟩ := zAM (R := fun m vs t => DaR m t vs) (β := fun e => e.cons.length) (sz := 2) (Rows.uptoBulk ty1.1) underlying23 (by kernel_rfl) (by omega) (fun n cs x hx9 ht _ => da_open ht) th1 (Nat.le_refl _)
 obtain rfl := hsl4.len
 injection el4 with el4; subst el4
 obtain ⟨o5, q5, c5, l5, el5, hsl5, hc5, bl5⟩ := zAM (R := fun m vs (t : Unit) => True) (β := fun _ => 1) (sz := 2) (Rows.uptoBulk ty1.1) underlying23 (by kernel_rfl) (by omega) (fun n cs x hx9 ht _ => ⟨(), trivial, zAf _⟩) th1 (Nat.le_refl _)
 have h5 := zCk l5
 have h6 : l5.length = l4.length := by have e := hsl5.len; injection el5 with el5 _; injection el5 with _ e2 _; omega
 obtain ⟨b, hbt, hbb⟩ := (tm_open _).1 _ _ _ (Nat.le_refl _) th2
 exact ⟨⟨l, l4, b⟩, ⟨_, _, _, _, _, rfl, hsl, hsl4, hbt⟩, by show (l.map fun e => e.ops.length).sum ≤ _; omega, by show (l4.map fun e => e.cons.length).sum ≤ _; omega, by show l4.length ≤ _; omega, by show zt b ≤ _; omega⟩
theorem open_Pg {H : Type} {enc : TypeId × Value → H} {W : World} {base : Nat} {spare : Nat → Bool} {held : Bool} {r : Reach} {b0 : Nat} {v : Value} {d : DataW H} {ps : List MemPlace} (hval : Value.okWide Tryd.prog W r b0 35 v) (hd : DataW.Trod enc Tryd.prog W base spare held 35 v d ps) :
  ∃ vs p, v = .agg vs.toArray ∧ PgR (zBB W) p vs ∧ zBA p.effects ≤ Rows.uptoBulk d ∧ consN p.datas ≤ Rows.uptoBulk d ∧ p.datas.length ≤ Rows.uptoBulk d ∧ zt p.body ≤ 2 * Rows.uptoBulk d := by
 obtain ⟨cs, rfl, _⟩ := okWide_struct underlying35 hval
 obtain ⟨fuel, hf⟩ := hd
 obtain ⟨p, h1, h2⟩ := pg_open hf
 exact ⟨cs.toList, p, rfl, h1, h2⟩
end Go.Proofs.YtmdhhjmomilhjaaDoor
namespace Go.Proofs.YtmdhhjmomilhjaaDoor
open Go.Proofs.Tryd
set_option linter.all false
set_option maxRecDepth 4000
open Go.RowKit
abbrev theLaid : List (String × DataW Unit) := Rows.lowerTellsRow.laid
theorem table {W : World} (h : laidMetH Tryd.prog theLaid W) : Tab W := by
 rw [Go.MakeChecks.laidMetH_plain _ _ _ (by kernel_rfl)] at h
 have h2 := h.filter (fun x => x.1 == "internal/strconv.uint64pow10")
 have e : (theLaid.filter fun x => x.1 == "internal/strconv.uint64pow10") = [("internal/strconv.uint64pow10", Go.Lib.tabData .u64 Go.Lib.pow10Tab)] := by kernel_rfl
 rw [e] at h2
 exact Go.Lib.tabIs_of_head (g := 0) (rest := []) (by kernel_rfl) (by kernel_rfl) underlying162 underlying153 (by kernel_rfl) (by kernel_rfl) h2
def litV : DataW Unit → Value
 | .lit (.int k n) => .int k n
 | _ => undef
def zDy : DataW Unit → Array Value
 | .agg l => (l.map litV).toArray
 | _ => #[]
def layTab (h : Array Obj) (g : Nat) (cs : Array Value) : Array Obj := h.modify g fun
 | .cells _ t f => .cells cs t f
 | o => o
noncomputable def zCp (os : Go.Os) : World :=
 { World.holding Tryd.prog os ⟨#[], #[], []⟩ with heap := layTab (layTab (layTab ((World.holding Tryd.prog os ⟨#[], #[], []⟩).heap) 1 (zDy (Rows.laid_math_bits_deBruijn32tab (H := Unit)))) 2 (zDy (Rows.laid_math_bits_deBruijn64tab (H := Unit)))) 0 (zDy (Rows.laid_internal_strconv_uint64pow10 (H := Unit))) }
end Go.Proofs.YtmdhhjmomilhjaaDoor
namespace Go.Proofs.YtmdhhjmomilhjaaDoor
open Go.Proofs.Tryd
set_option linter.all false
set_option maxRecDepth 4000
open Go.ChangeShapes Go.WideShapes Go.ChangeAt Go.RowKit Go.Deep
open Go.WideElems Go.ChangeMaps
theorem rws_arg {H : Type} {enc : TypeId × Value → H} {W : World} {base : Nat} {spare : Nat → Bool} {held : Bool} {r : Reach} {b0 : Nat} {v : Value} {d : DataW H} {ps : List MemPlace} (hval : Value.okWide Tryd.prog W r b0 36 v) (hd : DataW.Trod enc Tryd.prog W base spare held 36 v d ps) :
  ∃ o c l, v = .slice o l.length c ∧ Rws (zBB W) o l.length c l := by
 obtain ⟨o, n, c, rfl⟩ := okWide_slice underlying36 hval
 obtain ⟨fuel, hf⟩ := hd
 obtain ⟨o', q, c', l, e1, hsl, hc, bl⟩ := zAM (R := fun m vs r => RwR m r vs) (β := fun _ => 0) (sz := 2) (Rows.uptoBulk d) underlying36 (by kernel_rfl) (by omega)
  (fun n cs x _ ht _ => by obtain ⟨q, h1⟩ := rw_open ht; exact ⟨q, h1, Nat.zero_le _⟩) hf (Nat.le_refl _)
 simp only [Value.cells, List.cons.injEq, and_true] at e1
 obtain rfl := hsl.len
 rw [e1]
 exact ⟨o', c', l, rfl, hsl⟩
theorem op_arg {H : Type} {enc : TypeId × Value → H} {W : World} {base : Nat} {spare : Nat → Bool} {held : Bool} {r : Reach} {b0 : Nat} {v : Value} {d : DataW H} {ps : List MemPlace} (hval : Value.okWide Tryd.prog W r b0 38 v) (hd : DataW.Trod enc Tryd.prog W base spare held 38 v d ps) : ∃ a b : Bool, v = .agg #[.bool a, .bool b] := by
 obtain ⟨cs, rfl, _⟩ := okWide_struct underlying38 hval
 obtain ⟨fuel, hf⟩ := hd
 obtain ⟨cs9, rfl⟩ : ∃ l : List Value, cs = l.toArray := ⟨cs.toList, by simp⟩
 have hx9 : True := trivial
 obtain ⟨fuel, hf⟩ : ∃ n, DataW.trod enc Tryd.prog W base spare held n 38 cs9 = some (d, ps) := ⟨fuel, by simpa [Value.cells] using hf⟩
 obtain ⟨sn, sys, shl, hx9, shcl, shf⟩ := ZW underlying38 hf
 obtain ⟨sy0, se0, sh0⟩ := shf 0 _ rfl
 obtain ⟨sy1, se1, sh1⟩ := shf 1 _ rfl
 have shcl2 : (cs9 : List Value).length = 2 := shcl.trans (by kernel_rfl)
 obtain ⟨sc0, sc1, rfl⟩ : ∃ sc0 sc1, cs9 = [sc0, sc1] := by match cs9, shcl2 with | [a0, a1], _ => exact ⟨_, _, rfl⟩
 change DataW.trod enc Tryd.prog W base spare held sn 4 (([sc0, sc1].drop 0).take (Tryd.prog.cellsOf 4)) = some sy0 at sh0
 rw [show Tryd.prog.cellsOf 4 = 1 by kernel_rfl] at sh0
 change DataW.trod enc Tryd.prog W base spare held sn 4 [sc0] = some sy0 at sh0
 change DataW.trod enc Tryd.prog W base spare held sn 4 (([sc0, sc1].drop 1).take (Tryd.prog.cellsOf 4)) = some sy1 at sh1
 rw [show Tryd.prog.cellsOf 4 = 1 by kernel_rfl] at sh1
 change DataW.trod enc Tryd.prog W base spare held sn 4 [sc1] = some sy1 at sh1
 have shys : sys = [sy0, sy1] := by
  match sys, shl with
  | [q0, q1], _ => simp at se0 se1; subst se0 se1; rfl
 subst shys; simp only [List.map_cons, List.map_nil, Rows.uptoBulkAll] at hx9
 obtain ⟨a, e0, _⟩ := DataW.trod_bool underlying4 sh0; injection e0 with e0; subst e0
 obtain ⟨b, e1, _⟩ := DataW.trod_bool underlying4 sh1; injection e1 with e1; subst e1
 exact ⟨a, b, rfl⟩
theorem lowerLight_own : ownKnob Tryd.prog.godebug = none := by kernel_rfl
theorem lowerLight_laid : laidOutB Tryd.prog = true := by kernel_rfl
set_option maxRecDepth 100000 in
theorem lowerLight_contract (H : Type) (enc : TypeId × Value → H) (W : World) (base : Nat) (args : Array Value) (ds gs : List (DataW H)) (before : List MemPlace)
  (hval : ∀ (j : Nat) t v, Tryd.f8.params[j]? = some t → args[j]? = some v → Value.okWide Tryd.prog W .any base t v)
  (hW : DataW.Whole enc Tryd.prog Tryd.f8.params.toList Rows.lowerLightSpec.vars false W args.toList ds gs before) (hc : ∀ k, (Rows.OpenSpec.upto Rows.lowerLightSpec).cond = some k → k H (ds ++ gs) = true) (hL : laidMetH Tryd.prog Rows.lowerLightUptoRow.laid W) :
  Calls Tryd.prog 8 args W fun e W' => ∃ v, e = .returned v ∧ Rows.lowerLightSpec.post enc Tryd.prog Tryd.f8 false true false false W args v W' := by
 have hW' := hW
 obtain ⟨p, q, hA0, hV, rfl, hfz, hnd⟩ := hW
 have hA : DataW.TrodAll enc Tryd.prog W 0 (fun _ => true) true Tryd.f8.params.toList args.toList ds p := hA0
 rw [Tryd.params8] at hA hval
 obtain ⟨v0, vs0, d0, ds0, p0, q0, e0, rfl, rfl, h0, hA0⟩ := trodAll_cons hA
 obtain ⟨v1, vs1, d1, ds1, p1, q1, e1, rfl, rfl, h1, hA1⟩ := trodAll_cons hA0
 obtain ⟨v2, vs2, d2, ds2, p2, q2, e2, rfl, rfl, h2, hA2⟩ := trodAll_cons hA1
 obtain ⟨e3, rfl, rfl⟩ := trodAll_nil hA2
 subst e3 e2 e1
 obtain rfl : args = #[v0, v1, v2] := Array.toList_inj.1 e0
 obtain ⟨rfl, rfl⟩ := trodVars_none hV
 have hbulk : Rows.uptoBulkAll [d0, d1, d2] ≤ 1048576 := by have := hc _ rfl; simpa [Rows.uptoSmall] using this
 obtain ⟨vs_p, p, rfl, hv_p, hq1_p, hq2_p, hq3_p, hq4_p⟩ := open_Pg (hval 0 35 v0 rfl rfl) h0
 obtain ⟨n, rfl, hn_⟩ := open_I underlying3 (hval 1 3 v1 rfl rfl) h1
 obtain ⟨sel, tl, rfl⟩ := op_arg (hval 2 38 v2 rfl rfl) h2
 have hA0 := agree_snap W
 have hT : Tab W := table hL
 simp only [Rows.uptoBulkAll] at hbulk
 refine Calls.mono (lowerLight_c (n := n) (sel := sel) (tl := tl) hA0 hv_p hT (by omega) (by omega) (by omega) (by omega)) fun e W' ⟨v, m', he, hx, hv⟩ => ?_
 subst hv
 exact ⟨_, he, post_law lowerLight_laid (by kernel_rfl) rfl rfl underlying4 rfl hW' hx⟩
theorem lowerLight_laidmet (os : Go.Os) : laidMetH Tryd.prog Rows.lowerLightUptoRow.laid ((zCp os).forCall (fun _ _ => 0) ⟨#[], #[.agg #[.slice none 0 0, .slice none 0 0, .int .i64 0, .int .i64 0, .string ⟨#[]⟩, .string ⟨#[]⟩, .int .i64 0, .slice none 0 0, .slice none 0 0, .int .i64 0, .string ⟨#[]⟩, .int .i64 0, .slice none 0 0, .slice none 0 0, .int .i64 0, .slice none 0 0, .int .i64 0, .int .i64 0, .string ⟨#[]⟩, .int .i64 0, .slice none 0 0, .slice none 0 0, .int .i64 0], .int .i64 0, .agg #[.bool false, .bool false]], []⟩).memory :=
 laidMet_of_run' 8 (by kernel_rfl) (by kernel_rfl)
theorem lowerLight_reads (os : Go.Os) {H : Type} (enc : TypeId × Value → H) : ∃ places, DataW.whole enc Tryd.prog ((zCp os).forCall (fun _ _ => 0) ⟨#[], #[.agg #[.slice none 0 0, .slice none 0 0, .int .i64 0, .int .i64 0, .string ⟨#[]⟩, .string ⟨#[]⟩, .int .i64 0, .slice none 0 0, .slice none 0 0, .int .i64 0, .string ⟨#[]⟩, .int .i64 0, .slice none 0 0, .slice none 0 0, .int .i64 0, .slice none 0 0, .int .i64 0, .int .i64 0, .string ⟨#[]⟩, .int .i64 0, .slice none 0 0, .slice none 0 0, .int .i64 0], .int .i64 0, .agg #[.bool false, .bool false]], []⟩).memory Tryd.f8.params.toList Rows.lowerLightSpec.vars false #[.agg #[.slice none 0 0, .slice none 0 0, .int .i64 0, .int .i64 0, .string ⟨#[]⟩, .string ⟨#[]⟩, .int .i64 0, .slice none 0 0, .slice none 0 0, .int .i64 0, .string ⟨#[]⟩, .int .i64 0, .slice none 0 0, .slice none 0 0, .int .i64 0, .slice none 0 0, .int .i64 0, .int .i64 0, .string ⟨#[]⟩, .int .i64 0, .slice none 0 0, .slice none 0 0, .int .i64 0], .int .i64 0, .agg #[.bool false, .bool false]].toList 30 = some ([.agg [.nil, .nil, .agg [.lit (.int .i64 0), .lit (.int .i64 0), .lit (.string []), .lit (.string []), .lit (.int .i64 0), .nil, .nil, .agg [.lit (.int .i64 0), .lit (.string []), .lit (.int .i64 0), .nil, .agg [.nil, .lit (.int .i64 0)]], .agg [.nil, .lit (.int .i64 0)], .agg [.lit (.int .i64 0), .lit (.string []), .lit (.int .i64 0), .nil, .agg [.nil, .lit (.int .i64 0)]]]], .lit (.int .i64 0), .agg [.lit (.bool false), .lit (.bool false)]], [], places) :=
 ⟨[], by kernel_rfl⟩
set_option maxRecDepth 100000 in
theorem lowerLight_lifted (os : Go.Os) (started : os.Started) (H : Type) (enc : TypeId × Value → H) (F : Stop.Interp) :
  ReturnsInHanded {} Tryd.checked os 8 .any ((Rows.OpenSpec.upto Rows.lowerLightSpec).preRow enc Tryd.prog Tryd.f8 Rows.lowerLightUptoRow.domain false Rows.lowerLightUptoRow.laid) (((Rows.OpenSpec.upto Rows.lowerLightSpec).at F).post enc Tryd.prog Tryd.f8 false true false false) := by
 obtain ⟨places, hx⟩ := lowerLight_reads os enc
 refine returnsInHanded_of_row (C := Tryd.checked) (s := (Rows.OpenSpec.upto Rows.lowerLightSpec)) lowerLight_own started (by kernel_rfl) func8
  (witness_row_at (enc := enc) (C := Tryd.checked) false (zCp os) #[.agg #[.slice none 0 0, .slice none 0 0, .int .i64 0, .int .i64 0, .string ⟨#[]⟩, .string ⟨#[]⟩, .int .i64 0, .slice none 0 0, .slice none 0 0, .int .i64 0, .string ⟨#[]⟩, .int .i64 0, .slice none 0 0, .slice none 0 0, .int .i64 0, .slice none 0 0, .int .i64 0, .int .i64 0, .string ⟨#[]⟩, .int .i64 0, .slice none 0 0, .slice none 0 0, .int .i64 0], .int .i64 0, .agg #[.bool false, .bool false]] rfl (by kernel_rfl) (by kernel_rfl) (by kernel_rfl)
   (OpenSpec.preRow_of_cond 30 hx (by kernel_rfl) (fun k hk => by cases hk; kernel_rfl) (by kernel_rfl) (lowerLight_laidmet os))) ?_
 intro W base args ds gs before hval hW _ hc _ hL _ _
 exact lowerLight_contract H enc W base args ds gs before hval hW hc hL
theorem lowerLight_said : Rows.LowerLightUptoSaid :=
 OpenClaim.holds_of_cond 8 Tryd.f8 rfl rfl rfl rfl rfl rfl rfl ⟨rfl, rfl, rfl, rfl, rfl⟩ rfl rfl rfl rfl rfl (by kernel_rfl) func8 (by kernel_rfl)
  (of_decide_eq_true (by kernel_rfl)) (by unfold Func.isWrapper; first | (rw [if_pos (by decide +kernel)]; kernel_rfl) | (rw [if_neg (by decide +kernel)]; exact ⟨rfl, rfl⟩))
  (fun os started H enc _ F => by rw [OpenClaim.pre_eq_preRow]; exact lowerLight_lifted os started H enc F)
theorem lowerLight_plain (f : FuncId) (fn : Func) (hf : Tryd.pinned.checked.prog.funcNamed "brocade/brocadelaw17.LowerLight" = some f) (hfn : Tryd.pinned.checked.prog.funcs[f]? = some fn) :
  false = Tryd.pinned.checked.prog.looks [] ∧ ∀ (j : Nat) t, fn.params[j]? = some t → Tryd.pinned.checked.prog.wantsStandIn t = false := by
 obtain rfl : f = 8 := Option.some.inj ((show Tryd.prog.funcNamed "brocade/brocadelaw17.LowerLight" = some 8 by kernel_rfl).symm.trans hf) |>.symm
 obtain rfl : fn = Tryd.f8 := (Option.some.inj (func8.symm.trans hfn)).symm
 refine ⟨by kernel_rfl, fun j t ht => ?_⟩
 rw [Tryd.params8] at ht
 have hm : t ∈ [35, 3, 38] := by simpa using Array.mem_of_getElem? ht
 have hall : ([35, 3, 38].all fun u => !Tryd.prog.wantsStandIn u) = true := by kernel_rfl
 exact (show Tryd.prog.wantsStandIn t = false by simpa using List.all_eq_true.1 hall t hm)
theorem lowerLight_holds : Rows.LowerLightUptoCardSaid :=
 Claim7.holds_tied_plain_at .later [] _ _ _ _ lowerLight_said (fun _ h => by cases h) (by kernel_rfl) (fun _ h => by cases h) lowerLightUpto_row_tie rfl ⟨rfl, rfl⟩ (by kernel_rfl) rfl lowerLight_plain (by kernel_rfl)
end Go.Proofs.YtmdhhjmomilhjaaDoor
