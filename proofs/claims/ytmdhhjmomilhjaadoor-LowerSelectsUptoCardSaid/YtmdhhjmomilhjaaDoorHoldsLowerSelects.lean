/-
  The law's proof, whole. Conditions: those of each theorem.
-/
import Derived.Test.YtmdhhjmomilhjaaDoorSqD
import Derived.ProofKit
import Derived.Carry
import Derived.ChangeSame
import Derived.ShutString
import Derived.Deep.Slices
import Derived.Deep.Fields
import Derived.LaidSub
import Derived.MakeChecks
import Derived.LaidLaws
import Derived.Lib.LaidTab
import Derived.OpenShut
import Derived.Deep.DeepHandedRow
import Derived.Test.YtmdhhjmomilhjaaDoorRows
import Derived.Test.YtmdhhjmomilhjaaDoorCards
import Derived.Test.YtmdhhjmomilhjaaDoorTie
namespace Go.Proofs.YtmdhhjmomilhjaaDoor
open Go.Proofs.Tryd
set_option linter.all false
set_option maxRecDepth 4000
open Go.RowKit
abbrev Rws (m : Mem) (o : Option Addr) (n c : Nat) (l : List Rw) : Prop := Sl (fun m vs r => RwR m r vs) 2 m o n c l
theorem Rws.mono {m m' : Mem} {o : Option Addr} {n c : Nat} {l : List Rw} (h : Rws m o n c l) (hm : MLe m m') : Rws m' o n c l := Sl.mono h (fun _ _ e => e.mono hm) hm
def zAq (l : List Rw) (n : Nat) (r : Rw) : Rw := if l = [] then r else l.getD (n % l.length) r
mutual
def ZG (l : List Rw) : Tm → Nat → Tm
 | ⟨k, a, s, p, v, ks, az, r⟩, n => ⟨k, a, s, p, v, Zm l ks (n + 1), Zw l az (n + 1 + zQ ks), zAq l n r⟩
def Zm (l : List Rw) : List Tm → Nat → List Tm
 | [], _ => []
 | t :: ts, n => ZG l t n :: Zm l ts (n + zP t)
def Zw (l : List Rw) : List Ar → Nat → List Ar
 | [], _ => []
 | ⟨s, v, b⟩ :: ts, n => ⟨s, v, ZG l b n⟩ :: Zw l ts (n + zP b)
end
def zDm (l : List Rw) (a : Ar) (n : Nat) : Ar := ⟨a.name, a.vars, ZG l a.body n⟩
theorem zCJ (l : List Rw) (t : Tm) (n : Nat) : ZG l t n = ⟨t.kind, t.at_, t.name, t.param, t.n, Zm l t.kids (n + 1), Zw l t.arms (n + 1 + zQ t.kids), zAq l n t.row⟩ := by obtain ⟨k, a, s, p, v, ks, az, r⟩ := t; rw [ZG]; rfl
theorem zBQ (l : List Rw) (a : Ar) (ts : List Ar) (n : Nat) : Zw l (a :: ts) n = zDm l a n :: Zw l ts (n + zP a.body) := by obtain ⟨s, v, b⟩ := a; rw [Zw]; rfl
def MP.rowsV (l : List Rw) (t : Tm) (n : Nat) : MP := MP.mem (fun y : TmY => .tuple #[.agg (tmV (ZG l t n) y).toArray, .int .i64 ((n + zP t : Nat) : Int)]) (fun y m => TmR m (ZG l t n) (tmV (ZG l t n) y)) fun hm h => h.mono hm
-- what is so of a term is so of it with other rows
theorem zCm {l : List Rw} : ∀ {ks : List Tm} {n : Nat} {u : Tm}, u ∈ Zm l ks n → ∃ v ∈ ks, ∃ k, u = ZG l v k
 | [], _, _, h => by simp [Zm] at h
 | t :: ts, n, u, h => by
  rw [Zm] at h
  rcases List.mem_cons.1 h with rfl | h
  ·exact ⟨t, .head _, n, rfl⟩
  ·obtain ⟨v, hv, k, e⟩ := zCm h; exact ⟨v, .tail _ hv, k, e⟩
theorem zCn {l : List Rw} : ∀ {az : List Ar} {n : Nat} {a : Ar}, a ∈ Zw l az n → ∃ b ∈ az, ∃ k, a = zDm l b k
 | [], _, _, h => by simp [Zw] at h
 | t :: ts, n, u, h => by
  rw [zBQ] at h
  rcases List.mem_cons.1 h with rfl | h
  ·exact ⟨t, .head _, n, rfl⟩
  ·obtain ⟨v, hv, k, e⟩ := zCn h; exact ⟨v, .tail _ hv, k, e⟩
theorem zEL (l : List Rw) : ∀ (ks : List Tm) (n : Nat), (Zm l ks n).length = ks.length
 | [], _ => by simp [Zm]
 | t :: ts, n => by rw [Zm, List.length_cons, zEL l ts]; rfl
theorem LwT.rows {t : Tm} (l : List Rw) (h : LwT t) : ∀ n, LwT (ZG l t n) := by
 induction t using Tm.rec_ with
 | h t ihk iha =>
  intro n
  rw [zCJ]
  refine .mk ?_ (fun u hu => ?_) (fun a ha => ?_)
  ·rcases h.here with ⟨h1, h2⟩ | ⟨h1, h2, h3, h4⟩
   ·refine .inl ⟨?_, fun a b => ?_⟩
    ·have e := zEL l t.kids (n + 1); have h1' := h1; rw [← e] at h1'; exact h1'
    ·show Zw l t.arms _ = []; rw [h2 a b]; simp [Zw]
   ·exact .inr ⟨h1, h2, by show Zm l t.kids _ = []; rw [h3]; simp [Zm], by show Zw l t.arms _ = []; rw [h4]; simp [Zw]⟩
  ·obtain ⟨v, hv, k, rfl⟩ := zCm hu; exact ihk v hv (h.kid hv) k
  ·obtain ⟨v, hv, k, rfl⟩ := zCn ha; exact iha v hv (h.arm hv) k
theorem rows_count (l : List Rw) (t : Tm) : ∀ n, zP (ZG l t n) = zP t := by
 induction t using Tm.rec_ with
 | h t ihk iha =>
  intro n
  have hk : ∀ (ks : List Tm), (∀ u ∈ ks, u ∈ t.kids) → ∀ n, zQ (Zm l ks n) = zQ ks := by
   intro ks
   induction ks with
   | nil => intro _ n; simp [Zm]
   | cons u ks ih => intro hl n; rw [Zm, zQ, zQ, ihk u (hl u (.head _)), ih (fun u hu => hl u (.tail _ hu))]
  have ha : ∀ (az : List Ar), (∀ u ∈ az, u ∈ t.arms) → ∀ n, zp (Zw l az n) = zp az := by
   intro az
   induction az with
   | nil => intro _ n; simp [Zw]
   | cons u az ih => intro hl n; rw [zBQ, zy, zy, ih (fun u hu => hl u (.tail _ hu)), show (zDm l u n).body = ZG l u.body n from rfl, iha u (hl u (.head _))]
  rw [zk, zk t, zCJ]
  show 1 + zQ (Zm l t.kids (n + 1)) + zp (Zw l t.arms (n + 1 + zQ t.kids)) = _
  rw [hk _ (fun _ h => h), ha _ (fun _ h => h)]
theorem rows_bulk (l : List Rw) (t : Tm) : ∀ n, ZE (ZG l t n) = ZE t := by
 induction t using Tm.rec_ with
 | h t ihk iha =>
  intro n
  have hk : ∀ (ks : List Tm), (∀ u ∈ ks, u ∈ t.kids) → ∀ n, Z2 (Zm l ks n) = Z2 ks := by
   intro ks
   induction ks with
   | nil => intro _ n; simp [Zm]
   | cons u ks ih => intro hl n; rw [Zm, Z2, Z2, ihk u (hl u (.head _)), ih (fun u hu => hl u (.tail _ hu))]
  have ha : ∀ (az : List Ar), (∀ u ∈ az, u ∈ t.arms) → ∀ n, Zq (Zw l az n) = Zq az := by
   intro az
   induction az with
   | nil => intro _ n; simp [Zw]
   | cons u az ih =>
    intro hl n
    have := iha u (hl u (.head _)) n
    have := ih (fun u hu => hl u (.tail _ hu)) (n + zP u.body)
    rw [zBQ]; obtain ⟨s, v, b⟩ := u
    simp only [zDm, Ar.name, Ar.vars, Ar.body, Zq] at *; omega
  rw [Zp, Zp t, zCJ]
  have h1 := hk t.kids (fun _ h => h) (n + 1); have h2 := ha t.arms (fun _ h => h) (n + 1 + zQ t.kids)
  simp only [Tm.name, Tm.param, Tm.kids, Tm.arms]; simp only [Tm.name, Tm.param, Tm.kids, Tm.arms] at h1 h2; omega
theorem low_of {t : Tm} (h : RtT t ∨ t = Z0) : LwT t := h.elim (·.low) (fun e => e ▸ zero_low)
def intT (n : Int) : Tm := ⟨2, 0, [], [], n, [], [], ⟨[], 0⟩⟩
def shT : Tm := zDl (zDx [102]) (zDl (zDx [103]) (intT 1))
def intC (n : Int) : Cd := ⟨2, [], [], n, [], []⟩
def shA : Cd := ⟨6, [], [], 0, [zCc [103], intC 1], []⟩
def shB : Cd := ⟨6, [], [], 0, [zCc [102], zCc (Z1 1)], []⟩
theorem low_var (s : Str) : LwT (zDx s) := .mk (.inl ⟨.inl rfl, fun _ _ => rfl⟩) (fun _ h => nomatch h) (fun _ h => nomatch h)
theorem low_int (n : Int) : LwT (intT n) := .mk (.inl ⟨.inl rfl, fun _ _ => rfl⟩) (fun _ h => nomatch h) (fun _ h => nomatch h)
theorem low_call {f a : Tm} (h : LwT f) (h2 : LwT a) : LwT (zDl f a) := .mk (.inl ⟨.inl rfl, fun _ _ => rfl⟩) (fun u hu => by
 rcases List.mem_cons.1 hu with rfl | hu
 ·exact h
 ·rw [List.mem_singleton] at hu; subst hu; exact h2) (fun a ha => by cases ha)
theorem nameQ_1 : Z1 1 = [39, 49] := by unfold Z1; rw [dec_eq, if_pos (by omega)]; rfl
theorem lowT_sh : zAR true false shT = cd2 8 (Z1 1) [] shA shB := by
 have h1 : zP shT = 5 := by decide
 unfold zAR; rw [h1]; rfl
theorem CdR.at_y {m : Mem} {t : Cd} {y : CdY} (h : CdR m t (cdV t y)) : Cds m y.o1 t.kids.length y.c1 t.kids ∧ Cas m y.o2 t.arms.length y.c2 t.arms := by
 obtain ⟨⟨a, b, c, d⟩, e, _, h1, h2⟩ := h.open_
 obtain ⟨a', b', c', d'⟩ := y
 simp only [cdV, List.cons.injEq, Value.slice.injEq, true_and, and_true] at e
 obtain ⟨⟨rfl, rfl⟩, rfl, rfl⟩ := e
 exact ⟨h1, h2⟩
theorem zDF {α : Type} {l r : List α} {k : Nat} {x c : α} (h : l.drop k = x :: r) (hc : l[k]? = some c) : x = c := by
 have := zBB h; rw [hc] at this; injection this with e; exact e.symm
abbrev rows_G (t : Tm) : Prop := ∀ {w : World} {m : Mem} {vs_t : List Value} {o_rl : Option Addr} {c_rl : Nat} {rl : List Rw} {n : Nat} (hA : Agree w m) (h_t : TmR m t vs_t) (h_rl : Rws m o_rl rl.length c_rl rl) (hb : n + zP t ≤ 1000000000), FnV Tryd.prog 21 #[.agg vs_t.toArray, .slice o_rl rl.length c_rl, .int .i64 (n : Int)] w m (fun _ m v => (MP.rowsV rl t n).p m v)
set_option maxHeartbeats 3200000 in
theorem rows_s {t : Tm} (ihk : ∀ u ∈ t.kids, rows_G u) (iha : ∀ a ∈ t.arms, rows_G a.body) {w : World} {m : Mem} {vs_t : List Value} {o_rl : Option Addr} {c_rl : Nat} {rl : List Rw} {n : Nat} (hA : Agree w m) (h_t : TmR m t vs_t) (h_rl : Rws m o_rl rl.length c_rl rl) (hb : n + zP t ≤ 1000000000) : FnV Tryd.prog 21 #[.agg vs_t.toArray, .slice o_rl rl.length c_rl, .int .i64 (n : Int)] w m (fun _ m v => (MP.rowsV rl t n).p m v) := by
 obtain ⟨⟨oK_t, cK_t, oA_t, cA_t, oR_t, cR_t, t0_t, t1_t, t2_t, t3_t, t4_t, t5_t, u0_t, u1_t, u2_t, u3_t, u4_t, u5_t⟩, rfl, hon_t, hkk_t, haa_t, hrr_t⟩ := h_t.open_
 dsimp only at hkk_t haa_t hrr_t
 have hbg_t := hkk_t.big; have hcp_t := hkk_t.cap; have hbh_t := haa_t.big; have hcq_t := haa_t.cap
 have hb_rl := h_rl.big; have hc_rl := h_rl.cap
 refine zW (vs := [_, _, _]) func21 rfl rfl rfl fun a0 hfr0 => ?_
 have hst0 := zV hA (zh [] _ w m)
 have hM : MLe m m := MLe.refl m
 have hce := zk t
 have hkl_ := Z9 t.kids
 have hal_ := zAP t.arms
 have htm : (n : Int).tmod (rl.length : Int) = ((n % rl.length : Nat) : Int) := rfl
 refine zB fun _ hK1 => ?_
 replace hst0 := hst0.more (r := .free) trivial List.nodup_nil (by simp [Res.blocks])
 refine ra0 (tch := [(1, 0, (fun v => .blk v _))]) hst0 hfr0 (.cons rfl (z1 rfl rfl) <| .consT rfl rfl (fun _ => rfl) rfl (zR zeroValue33 rfl) <| .cons rfl (zC rfl) <| .nil) fun a1 w1 m1 hst1 hle1 hk1 => ?_
 have hfr1 := hk1.fr (.o 1 <| .o 2 <| .nil)
 obtain ⟨g2, e2, hc3⟩ := hk1.ex 3 rfl
 replace hfr1 := hfr1.cons e2
 obtain ⟨g3, e3, _⟩ := hk1.ex 6 rfl
 replace hfr1 := hfr1.cons e3
 replace hst1 := hst1.fin (L' := [_]) (.cons e3 <| .nil)
 replace h_t := h_t.mono hle1
 replace hkk_t := hkk_t.mono hle1
 replace haa_t := haa_t.mono hle1
 replace hrr_t := hrr_t.mono hle1
 replace h_rl := h_rl.mono hle1
 clear hst0 hfr0 hk1
 refine hK1 _ _ ?_
 refine zB fun _ hK4 => ?_
 replace hst1 := hst1.more (r := .free) trivial List.nodup_nil (by simp [Res.blocks])
 refine ra0 (tch := [(1, 1, (fun v => .blk v _)), (2, 1, (fun v => .blk v _))]) hst1 hfr1 (.cons rfl (zN rfl hc3 isAgg33 sizeOf33 rfl rfl) <| .consT rfl rfl (fun _ => rfl) rfl (zR zeroValue33 rfl) <| .consT rfl rfl (fun _ => rfl) rfl (zT 8 rfl rfl rfl fun y8 => zb rfl rfl rfl rfl rfl sizeOf33 rfl rfl h_t.one) <| .nil) fun a2 w2 m2 hst2 hle2 hk2 => ?_
 have hfr2 := hk2.fr (.o 1 <| .o 2 <| .o 3 <| .o 6 <| .nil)
 obtain ⟨gB, e5, _⟩ := hk2.ex 8 rfl
 replace hfr2 := hfr2.cons e5
 replace hst2 := hst2.fin (L' := [_, _]) (.cons e5 <| .cons e5 <| .nil)
 try simp only [List.take_succ_cons, List.take_zero, List.drop_succ_cons, List.drop_zero, List.cons_append, List.nil_append, List.append_nil, List.length_cons, List.length_nil, Nat.zero_add, Nat.reduceAdd] at hst2
 replace hkk_t := hkk_t.mono hle2
 replace haa_t := haa_t.mono hle2
 replace hrr_t := hrr_t.mono hle2
 replace h_rl := h_rl.mono hle2
 replace hc3 := hc3.mono hle2
 clear hst1 hfr1 hk2
 refine hK4 _ _ ?_
 refine zB fun _ hK6 => ?_
 refine ra0 (tch := [(1, 1, (fun _ => .blk _ _))]) hst2 hfr2 (.cons rfl (zA (off := 5) rfl underlying33 rfl rfl sizeOf24 rfl) <| .consT rfl rfl (fun _ => rfl) rfl (z8 rfl rfl rfl sizeOf24 rfl rfl rfl) <| .nil) fun a3 w3 m3 hst3 hle3 hk3 => ?_
 have hfr3 := hk3.fr (.o 1 <| .o 2 <| .o 3 <| .o 6 <| .o 8 <| .nil)
 replace hst3 := hst3.fin (L' := [_, _]) (.cons rfl <| .nil)
 try simp only [List.take_succ_cons, List.take_zero, List.drop_succ_cons, List.drop_zero, List.cons_append, List.nil_append, List.append_nil, List.length_cons, List.length_nil, Nat.zero_add, Nat.reduceAdd] at hst3
 replace hkk_t := hkk_t.mono hle3
 replace haa_t := haa_t.mono hle3
 replace hrr_t := hrr_t.mono hle3
 replace h_rl := h_rl.mono hle3
 replace hc3 := hc3.mono hle3
 clear hst2 hfr2 hk3
 refine hK6 _ _ ?_
 refine zB fun _ hK7 => ?_
 refine ra0 (tch := [(1, 1, (fun _ => .blk _ _))]) hst3 hfr3 (.cons rfl (zA (off := 6) rfl underlying33 rfl rfl sizeOf25 rfl) <| .consT rfl rfl (fun _ => rfl) rfl (z8 rfl rfl rfl sizeOf25 rfl rfl rfl) <| .nil) fun a4 w4 m4 hst4 hle4 hk4 => ?_
 have hfr4 := hk4.fr (.o 1 <| .o 2 <| .o 3 <| .o 6 <| .o 8 <| .nil)
 replace hst4 := hst4.fin (L' := [_, _]) (.cons rfl <| .nil)
 try simp only [List.take_succ_cons, List.take_zero, List.drop_succ_cons, List.drop_zero, List.cons_append, List.nil_append, List.append_nil, List.length_cons, List.length_nil, Nat.zero_add, Nat.reduceAdd] at hst4
 replace hkk_t := hkk_t.mono hle4
 replace haa_t := haa_t.mono hle4
 replace hrr_t := hrr_t.mono hle4
 replace h_rl := h_rl.mono hle4
 replace hc3 := hc3.mono hle4
 clear hst3 hfr3 hk4
 have hst4 := hst4.more (r := .rowx (.slice none 0 0) 0 21 33 (MP.reads (fun m vs t => TmR m t vs) 21 [])) Z7 List.nodup_nil (by simp [Res.blocks, zz])
 have hsl_K : Tms m4 none ([] : List Tm).length 0 ([] : List Tm) := Sl.empty
 have hst4 := hst4.more (r := .rowx (.slice none 0 0) 0 23 72 (MP.reads (fun m vs t => ArR m t vs) 23 [])) Z7 List.nodup_nil (by simp [Res.blocks, zz])
 have hsl_A : Ars m4 none ([] : List Ar).length 0 ([] : List Ar) := Sl.empty
 refine hK7 _ _ ?_
 refine zAo (T := [(1, _), (2, _), (3, _), (6, _), (8, _)]) (fun (y : Rw × Option Addr × Nat) => ([] : List (Nat × Value))) (fun y => [_, .blk (.pointer (some ⟨gB, 0, none⟩)) (.cells (tmV ⟨t.kind, t.at_, t.name, t.param, t.n, [], [], y.1⟩ (⟨none, 0, none, 0, y.2.1, y.2.2, t0_t, t1_t, t2_t, t3_t, t4_t, t5_t, u0_t, u1_t, u2_t, u3_t, u4_t, u5_t⟩ : TmY)).toArray 33), _, _]) (fun (y : Rw × Option Addr × Nat) m => (fun (rr : Rw) (orr : Option Addr) (crr : Nat) => (rr = zAq rl n t.row) ∧ (RwR m rr [.slice orr rr.labels.length crr, .int .i64 rr.var])) y.1 y.2.1 y.2.2) ((t.row, oR_t, cR_t)) ⟨hst4, MLe.refl _, hfr4.sub (.c <| .c <| .c <| .c <| .c <| .nil), trivial⟩ (fun y a5 w5 m5 hh5 => ?_) (fun K8 hj8 => ?_)
 ·have hst5 := hh5.st; have hle5 := hh5.le; have hfr5 := hh5.fr; have hrel := hh5.rel; clear hh5
  clear hst4 hfr4
  obtain ⟨rr, orr, crr⟩ := y
  dsimp only at hrel hfr5 hst5
  obtain ⟨hrr9, hrw9⟩ := hrel
  subst hrr9
  refine zB fun _ hK9 => ?_
  refine rp0 hst5 hfr5 (.cons rfl (zD rfl) <| .cons rfl (zi rfl rfl ⟨by omega, by omega⟩) <| .cons rfl (zC rfl) <| .nil) fun a6 w6 m6 hst6 hle6 hk6 => ?_
  have hfr6 := hk6.fr (.o 1 <| .o 3 <| .o 6 <| .o 8 <| .n 2 <| .nil)
  clear hst5 hfr5 hk6
  rw [show (n : Int) + 1 = ((n + 1 : Nat) : Int) by omega] at hfr6
  refine hK9 _ _ ?_
  refine zB fun _ hK10 => ?_
  refine zB fun _ hK11 => ?_
  refine rp0 hst6 hfr6 (.cons rfl (zC rfl) <| .nil) fun a7 w7 m7 hst7 hle7 hk7 => ?_
  have hfr7 := hk7.fr (.o 1 <| .o 3 <| .o 6 <| .o 8 <| .o 2 <| .n 9 <| .nil)
  clear hst6 hfr6 hk7
  refine hK11 _ _ ?_
  refine zK ?_
  have zq1 := hle6.trans hle7
  have zq2 := hle5.trans zq1
  replace hsl_K := hsl_K.mono zq2
  refine ze (T := [(1, _), (3, _), (6, _), (8, _)]) (fun (y : Nat × Nat × Option Addr × Nat × List Tm) => ([(2, .int .i64 (y.2.1 : Int)), (9, .int .i64 (y.1 : Int))] : List (Nat × Value))) (fun y => [_, .blk (.pointer (some ⟨gB, 0, none⟩)) (.cells (tmV ⟨t.kind, t.at_, t.name, t.param, t.n, y.2.2.2.2, [], (zAq rl n t.row)⟩ (⟨y.2.2.1, y.2.2.2.1, none, 0, orr, crr, t0_t, t1_t, t2_t, t3_t, t4_t, t5_t, u0_t, u1_t, u2_t, u3_t, u4_t, u5_t⟩ : TmY)).toArray 33), .rowx (nz (.slice y.2.2.1 y.2.2.2.2.length y.2.2.2.1)) y.2.2.2.2.length 21 33 (MP.reads (fun m vs t => TmR m t vs) 21 y.2.2.2.2), _]) (fun (y : Nat × Nat × Option Addr × Nat × List Tm) m => (fun (y : Nat) (v : Nat) (klo : Option Addr) (klp : Nat) (kl : List Tm) => (y ≤ t.kids.length) ∧ (Tms m klo kl.length klp kl) ∧ (Zm rl t.kids (n + 1) = kl ++ Zm rl (t.kids.drop y) v ∧ kl.length = y) ∧ (v + zQ (t.kids.drop y) = n + 1 + zQ t.kids)) y.1 y.2.1 y.2.2.1 y.2.2.2.1 y.2.2.2.2) (fun y => t.kids.length - y.1) ((0, (n + 1), none, 0, ([] : List Tm))) ⟨hst7, MLe.refl _, hfr7.sub (.c <| .c <| .c <| .c <| .c <| .c <| .nil), ⟨Nat.zero_le _, hsl_K, ⟨rfl, rfl⟩, rfl⟩⟩ fun y a8 w8 m8 hh8 => ?_
  have hst8 := hh8.st; have hle8 := hh8.le; have hfr8 := hh8.fr; have hrel := hh8.rel; clear hh8
  clear hst7 hfr7
  obtain ⟨y, v, klo, klp, kl⟩ := y
  dsimp only at hrel hfr8 hst8
  obtain ⟨hyn, hsl_kl, hlen_kl, hck⟩ := hrel
  have hlh8 := hle8
  refine zB fun _ hK13 => ?_
  refine zB fun _ hK14 => ?_
  have zq3 := zq2.trans hle8
  replace hc3 := hc3.mono zq3
  refine rp0 hst8 hfr8 (.cons rfl (zD rfl) <| .cons rfl (zA (off := 5) rfl underlying33 rfl rfl sizeOf24 rfl) <| .cons rfl (zE rfl hc3 isAgg24 rfl) <| .cons rfl (zY rfl underlying24) <| .cons rfl (zw rfl rfl) <| .nil) fun a9 w9 m9 hst9 hle9 hk9 => ?_
  have hfr9 := hk9.fr (.o 2 <| .o 9 <| .o 1 <| .o 3 <| .o 6 <| .o 8 <| .n 36 <| .nil)
  clear hst8 hfr8 hk9
  refine hK14 _ _ ?_
  refine zF hfr9 rfl rfl (fun hb36 => ?_) (fun hb36 => ?_)
  ·try simp only [nqs] at hb36
   refine zJ ?_
   refine hK13 _ _ ?_
   refine zB fun _ hK15 => ?_
   refine zK ?_
   refine zB fun _ hK16 => ?_
   refine zu 8 (by kernel_rfl) ?_
   have zq4 := zq3.trans hle9
   replace hkk_t := hkk_t.mono zq4
   obtain ⟨p17, vs17, x17, ho17, hd17, hm_x17, ht17, hcv17, hl17, hv17⟩ := hkk_t.nth (k := y) (by omega)
   cases ho17
   obtain ⟨⟨oK17, cK17, oA17, cA17, oR17, cR17, t017, t117, t217, t317, t417, t517, u017, u117, u217, u317, u417, u517⟩, rfl, hon17, hkk17, haa17, hrr17⟩ := hv17.open_
   dsimp only at hkk17 haa17 hrr17
   have hbg17 := hkk17.big; have hcp17 := hkk17.cap; have hbh17 := haa17.big; have hcq17 := haa17.cap
   rw [hd17] at hlen_kl hck
   rw [Zm] at hlen_kl; rw [zQ] at hck
   replace h_rl := h_rl.mono zq4
   replace hc3 := hc3.mono hle9
   refine zg (tch := []) hst9 hfr9 (by kernel_rfl) (by kernel_rfl) (by kernel_rfl) (.cons rfl (zA (off := 5) rfl underlying33 rfl rfl sizeOf24 rfl) <| .cons rfl (zE rfl hc3 isAgg24 rfl) <| .cons rfl (zD rfl) <| .cons rfl (zH (k := y) rfl rfl underlying24 sizeOf33 rfl (by omega)) <| .cons rfl (zN rfl hcv17 isAgg33 sizeOf33 rfl rfl) <| .cons rfl (zD rfl) <| .cons rfl (zD rfl) <| .cons rfl (zj (φ := MP.rowsV rl x17 v) rfl (.cons rfl <| .cons rfl <| .cons rfl <| .nil) call21 (fun w m hK => by have hle_ := KC.le hK; have hA := KC.agree hK; have h_rl := h_rl.mono hle_; have hv17 := hv17.mono hle_; exact FnG.mono (ihk _ hm_x17 hA hv17 h_rl (by omega)) fun _ _ _ _ h => h)) <| .nil) fun a10 w10 m10 hst10 hle10 hk10 => ?_
   have hfr10 := hk10.fr (.o 2 <| .o 9 <| .o 1 <| .o 3 <| .o 6 <| .o 8 <| .nil)
   obtain ⟨yr, e18, hyr⟩ := hk10.ex 47 rfl
   replace hfr10 := hfr10.cons e18
   clear hst9 hfr9 hk10
   replace hst10 := hst10.more (r := .free) trivial List.nodup_nil (by simp [Res.blocks])
   refine zg (tch := [(3, 4, (fun v => .blk v _)), (4, 4, (fun v => .blk v _))]) hst10 hfr10 (by kernel_rfl) (by kernel_rfl) (by kernel_rfl) (.cons rfl (zD rfl) <| .cons rfl (zU rfl rfl) <| .cons rfl (zU rfl rfl) <| .consT rfl rfl (fun _ => rfl) rfl (zR zeroValue33 rfl) <| .consT rfl rfl (fun _ => rfl) rfl (zT 10 rfl rfl rfl fun y10 => zb rfl rfl rfl rfl rfl sizeOf33 rfl rfl hyr.one) <| .cons rfl (zC rfl) <| .nil) fun a11 w11 m11 hst11 hle11 hk11 => ?_
   have hfr11 := hk11.fr (.o 2 <| .o 9 <| .o 1 <| .o 3 <| .o 6 <| .o 8 <| .o 47 <| .n 11 <| .nil)
   obtain ⟨g19, e19, _⟩ := hk11.ex 10 rfl
   replace hfr11 := hfr11.cons e19
   replace hst11 := hst11.fin (L' := [_, _, _, _, _]) (.cons e19 <| .cons e19 <| .nil)
   try simp only [List.take_succ_cons, List.take_zero, List.drop_succ_cons, List.drop_zero, List.cons_append, List.nil_append, List.append_nil, List.length_cons, List.length_nil, Nat.zero_add, Nat.reduceAdd] at hst11
   clear hst10 hfr10 hk11
   refine hK16 _ _ ?_
   refine zB fun _ hK20 => ?_
   refine rp0 hst11 hfr11 (.cons rfl (zD rfl) <| .cons rfl (zC rfl) <| .nil) fun a12 w12 m12 hst12 hle12 hk12 => ?_
   have hfr12 := hk12.fr (.o 9 <| .o 1 <| .o 3 <| .o 6 <| .o 8 <| .o 10 <| .n 2 <| .nil)
   clear hst11 hfr11 hk12
   refine hK20 _ _ ?_
   have zq5 := hle11.trans hle12
   replace hyr := hyr.mono zq5
   refine ra0 (tch := [(4, 2, (fun v => .rowx (nz v) _ _ _ _)), (6, 1, (fun u => .blk _ (.cells (_ ++ [u] ++ _).toArray _)))]) hst12 hfr12 (.cons rfl (zA (off := 5) rfl underlying33 rfl rfl sizeOf24 rfl) <| .cons rfl (zO (j := 1) rfl rfl isAgg24 rfl) <| .cons rfl (zX (j := 4) rfl rfl isAgg33 sizeOf33 rfl) <| .cons rfl (zx rfl underlying24 sizeOf33 zeroValue33 rfl rfl rfl rfl) <| .consT rfl rfl (fun _ => rfl) rfl (zT 54 rfl rfl rfl fun y54 => ZY (size := 21) (bytes := 312) (l := kl) (l' := [ZG rl x17 v]) rfl rfl (fun _ => by first | exact .inl rfl | exact .inr (.inl rfl)) underlying24 type33 rfl rfl rfl rfl (fun w m hK => Sl.one (R := fun m vs t => TmR m t vs) hK.2 hyr.len (hyr.mono (KC.le hK))) rfl (by decide) (by simp only [maxLen]; omega) (by omega)) <| .cons rfl (zA (off := 5) rfl underlying33 rfl rfl sizeOf24 rfl) <| .consT rfl rfl (fun _ => rfl) rfl (zT 55 rfl rfl rfl fun y55 => Z4 rfl rfl rfl rfl rfl sizeOf24 rfl rfl rfl) <| .nil) fun a13 w13 m13 hst13 hle13 hk13 => ?_
   have hfr13 := hk13.fr (.o 9 <| .o 1 <| .o 3 <| .o 6 <| .o 8 <| .o 2 <| .nil)
   obtain ⟨⟨K_21o, K_21p⟩, e22, hsl_K_21⟩ := hk13.ex 55 rfl
   replace hst13 := hst13.fin (L' := [_, _, _, _, _]) (.cons e22 <| .cons e22 <| .nil)
   try simp only [List.take_succ_cons, List.take_zero, List.drop_succ_cons, List.drop_zero, List.cons_append, List.nil_append, List.append_nil, List.length_cons, List.length_nil, Nat.zero_add, Nat.reduceAdd] at hst13
   clear hst12 hfr12 hk13
   replace hsl_K_21 : Tms m13 K_21o (kl ++ [ZG rl x17 v]).length K_21p (kl ++ [ZG rl x17 v]) := hsl_K_21
   refine hK15 _ _ ?_
   refine rp0 hst13 hfr13 (.cons rfl (zD rfl) <| .cons rfl (zi rfl rfl ⟨by omega, by omega⟩) <| .cons rfl (zC rfl) <| .nil) fun a14 w14 m14 hst14 hle14 hk14 => ?_
   have hfr14 := hk14.fr (.o 1 <| .o 3 <| .o 6 <| .o 8 <| .o 2 <| .n 9 <| .nil)
   clear hst13 hfr13 hk14
   have hst14 := hst14.take 4
   replace hsl_K_21 := hsl_K_21.mono hle14
   have zq6 := hle13.trans hle14
   have zq7 := zq5.trans zq6
   have zq8 := hle10.trans zq7
   have zq9 := hle9.trans zq8
   have hlh14 := hlh8.trans zq9
   exact ⟨(y + 1, (v + zP x17), K_21o, K_21p, (kl ++ [ZG rl x17 v])), m14, by show t.kids.length - (y + 1) < t.kids.length - y; omega, ⟨hst14, hlh14, hfr14.sub (.c <| .c <| .c <| .c <| .c <| .c <| .nil), ⟨by show y + 1 ≤ t.kids.length; omega, hsl_K_21, ⟨by rw [hlen_kl.1]; simp, by show (kl ++ [_]).length = y + 1; simp; exact hlen_kl.2⟩, by show v + zP x17 + zQ (t.kids.drop (y + 1)) = _; omega⟩⟩⟩
  ·try simp only [nqs] at hb36
   have hge : y = t.kids.length := by omega
   rw [List.drop_of_length_le (by omega)] at hlen_kl hck
   rw [Zm, List.append_nil] at hlen_kl
   rw [zQ] at hck
   refine zf ?_
   refine hK10 _ _ ?_
   refine zB fun _ hK23 => ?_
   refine zB fun _ hK24 => ?_
   refine rp0 hst9 hfr9 (.cons rfl (zC rfl) <| .nil) fun a10 w10 m10 hst10 hle10 hk10 => ?_
   have hfr10 := hk10.fr (.o 2 <| .o 9 <| .o 1 <| .o 3 <| .o 6 <| .o 8 <| .n 12 <| .nil)
   clear hst9 hfr9 hk10
   refine hK24 _ _ ?_
   refine zK ?_
   have zq10 := hle9.trans hle10
   have hlh10 := hlh8.trans zq10
   have hlq25 := hlh10
   have zq11 := zq3.trans zq10
   replace hsl_A := hsl_A.mono zq11
   refine ze (T := [(9, _), (1, _), (3, _), (6, _), (8, _)]) (fun (y : Nat × Nat × Option Addr × Nat × List Ar) => ([(2, .int .i64 (y.2.1 : Int)), (12, .int .i64 (y.1 : Int))] : List (Nat × Value))) (fun y => [_, .blk (.pointer (some ⟨gB, 0, none⟩)) (.cells (tmV ⟨t.kind, t.at_, t.name, t.param, t.n, kl, y.2.2.2.2, (zAq rl n t.row)⟩ (⟨klo, klp, y.2.2.1, y.2.2.2.1, orr, crr, t0_t, t1_t, t2_t, t3_t, t4_t, t5_t, u0_t, u1_t, u2_t, u3_t, u4_t, u5_t⟩ : TmY)).toArray 33), _, .rowx (nz (.slice y.2.2.1 y.2.2.2.2.length y.2.2.2.1)) y.2.2.2.2.length 23 72 (MP.reads (fun m vs t => ArR m t vs) 23 y.2.2.2.2)]) (fun (y : Nat × Nat × Option Addr × Nat × List Ar) m => (fun (y : Nat) (u : Nat) (alo : Option Addr) (alp : Nat) (al : List Ar) => (y ≤ t.arms.length) ∧ (Ars m alo al.length alp al) ∧ (Zw rl t.arms v = al ++ Zw rl (t.arms.drop y) u ∧ al.length = y) ∧ (u + zp (t.arms.drop y) = v + zp t.arms)) y.1 y.2.1 y.2.2.1 y.2.2.2.1 y.2.2.2.2) (fun y => t.arms.length - y.1) ((0, v, none, 0, ([] : List Ar))) ⟨hst10, MLe.refl _, hfr10.sub (.c <| .c <| .c <| .c <| .c <| .c <| .c <| .nil), ⟨Nat.zero_le _, hsl_A, ⟨rfl, rfl⟩, rfl⟩⟩ fun y a11 w11 m11 hh11 => ?_
   have hst11 := hh11.st; have hle11 := hh11.le; have hfr11 := hh11.fr; have hrel := hh11.rel; clear hh11
   clear hst10 hfr10
   obtain ⟨y, u, alo, alp, al⟩ := y
   dsimp only at hrel hfr11 hst11
   obtain ⟨hyn, hsl_al, hlen_al, hcu⟩ := hrel
   have hlh11 := hle11
   refine zB fun _ hK26 => ?_
   refine zB fun _ hK27 => ?_
   have zq12 := zq10.trans hle11
   replace hc3 := hc3.mono zq12
   refine rp0 hst11 hfr11 (.cons rfl (zD rfl) <| .cons rfl (zA (off := 6) rfl underlying33 rfl rfl sizeOf25 rfl) <| .cons rfl (zE rfl hc3 isAgg25 rfl) <| .cons rfl (zY rfl underlying25) <| .cons rfl (zw rfl rfl) <| .nil) fun a12 w12 m12 hst12 hle12 hk12 => ?_
   have hfr12 := hk12.fr (.o 2 <| .o 12 <| .o 9 <| .o 1 <| .o 3 <| .o 6 <| .o 8 <| .n 61 <| .nil)
   clear hst11 hfr11 hk12
   refine hK27 _ _ ?_
   refine zF hfr12 rfl rfl (fun hb61 => ?_) (fun hb61 => ?_)
   ·try simp only [nqs] at hb61
    refine zJ ?_
    refine hK26 _ _ ?_
    refine zB fun _ hK28 => ?_
    refine zK ?_
    refine zB fun _ hK29 => ?_
    have zq13 := hle11.trans hle12
    have zq14 := zq11.trans zq13
    replace haa_t := haa_t.mono zq14
    obtain ⟨p30, vs30, x30, ho30, hd30, hm_x30, ht30, hcv30, hl30, hv30⟩ := haa_t.nth (k := y) (by omega)
    cases ho30
    obtain ⟨oV30, cV30, bs30, rfl, hva30, hbd30⟩ := hv30.open_
    have hbv30 := hva30.big; have hcv30_ := hva30.cap
    obtain ⟨⟨oK30b, cK30b, oA30b, cA30b, oR30b, cR30b, t030b, t130b, t230b, t330b, t430b, t530b, u030b, u130b, u230b, u330b, u430b, u530b⟩, rfl, hon30b, hkk30b, haa30b, hrr30b⟩ := hbd30.open_
    dsimp only at hkk30b haa30b hrr30b
    have hbg30b := hkk30b.big; have hcp30b := hkk30b.cap; have hbh30b := haa30b.big; have hcq30b := haa30b.cap
    rw [hd30] at hlen_al hcu
    rw [zBQ] at hlen_al; rw [zy] at hcu
    replace hst12 := hst12.more (r := .free) trivial List.nodup_nil (by simp [Res.blocks])
    replace hc3 := hc3.mono hle12
    refine ra0 (tch := [(5, 4, (fun v => .blk v _)), (6, 4, (fun v => .blk v _))]) hst12 hfr12 (.cons rfl (zA (off := 6) rfl underlying33 rfl rfl sizeOf25 rfl) <| .cons rfl (zE rfl hc3 isAgg25 rfl) <| .cons rfl (zD rfl) <| .cons rfl (zH (k := y) rfl rfl underlying25 sizeOf72 rfl (by omega)) <| .cons rfl (zN rfl hcv30 isAgg72 sizeOf72 rfl rfl) <| .consT rfl rfl (fun _ => rfl) rfl (zR zeroValue72 rfl) <| .consT rfl rfl (fun _ => rfl) rfl (zT 13 rfl rfl rfl fun y13 => zb rfl rfl rfl rfl rfl sizeOf72 rfl rfl hv30.one) <| .nil) fun a13 w13 m13 hst13 hle13 hk13 => ?_
    have hfr13 := hk13.fr (.o 2 <| .o 12 <| .o 9 <| .o 1 <| .o 3 <| .o 6 <| .o 8 <| .nil)
    obtain ⟨g31, e31, _⟩ := hk13.ex 13 rfl
    replace hfr13 := hfr13.cons e31
    replace hst13 := hst13.fin (L' := [_, _, _, _, _]) (.cons e31 <| .cons e31 <| .nil)
    try simp only [List.take_succ_cons, List.take_zero, List.drop_succ_cons, List.drop_zero, List.cons_append, List.nil_append, List.append_nil, List.length_cons, List.length_nil, Nat.zero_add, Nat.reduceAdd] at hst13
    clear hst12 hfr12 hk13
    refine hK29 _ _ ?_
    refine zB fun _ hK32 => ?_
    refine zu 5 (by kernel_rfl) ?_
    have zq15 := zq14.trans hle13
    replace h_rl := h_rl.mono zq15
    replace hbd30 := hbd30.mono hle13
    refine zg (tch := []) hst13 hfr13 (by kernel_rfl) (by kernel_rfl) (by kernel_rfl) (.cons rfl (zA (off := 2) rfl underlying72 rfl rfl sizeOf33 rfl) <| .cons rfl (Zo (j := 4) rfl rfl isAgg33 sizeOf33 rfl rfl) <| .cons rfl (zD rfl) <| .cons rfl (zD rfl) <| .cons rfl (zj (φ := MP.rowsV rl x30.body u) rfl (.cons rfl <| .cons rfl <| .cons rfl <| .nil) call21 (fun w m hK => by have hle_ := KC.le hK; have hA := KC.agree hK; have h_rl := h_rl.mono hle_; have hbd30 := hbd30.mono hle_; exact FnG.mono (iha _ hm_x30 hA hbd30 h_rl (by omega)) fun _ _ _ _ h => h)) <| .nil) fun a14 w14 m14 hst14 hle14 hk14 => ?_
    have hfr14 := hk14.fr (.o 2 <| .o 12 <| .o 9 <| .o 1 <| .o 3 <| .o 6 <| .o 8 <| .o 13 <| .nil)
    obtain ⟨yr, e33, hyr⟩ := hk14.ex 74 rfl
    replace hfr14 := hfr14.cons e33
    clear hst13 hfr13 hk14
    replace hst14 := hst14.more (r := .free) trivial List.nodup_nil (by simp [Res.blocks])
    refine zg (tch := [(3, 5, (fun v => .blk v _)), (4, 5, (fun v => .blk v _))]) hst14 hfr14 (by kernel_rfl) (by kernel_rfl) (by kernel_rfl) (.cons rfl (zD rfl) <| .cons rfl (zU rfl rfl) <| .cons rfl (zU rfl rfl) <| .consT rfl rfl (fun _ => rfl) rfl (zR zeroValue33 rfl) <| .consT rfl rfl (fun _ => rfl) rfl (zT 14 rfl rfl rfl fun y14 => zb rfl rfl rfl rfl rfl sizeOf33 rfl rfl hyr.one) <| .cons rfl (zC rfl) <| .nil) fun a15 w15 m15 hst15 hle15 hk15 => ?_
    have hfr15 := hk15.fr (.o 2 <| .o 12 <| .o 9 <| .o 1 <| .o 3 <| .o 6 <| .o 8 <| .o 13 <| .o 74 <| .n 15 <| .nil)
    obtain ⟨g34, e34, _⟩ := hk15.ex 14 rfl
    replace hfr15 := hfr15.cons e34
    replace hst15 := hst15.fin (L' := [_, _, _, _, _, _]) (.cons e34 <| .cons e34 <| .nil)
    try simp only [List.take_succ_cons, List.take_zero, List.drop_succ_cons, List.drop_zero, List.cons_append, List.nil_append, List.append_nil, List.length_cons, List.length_nil, Nat.zero_add, Nat.reduceAdd] at hst15
    clear hst14 hfr14 hk15
    refine hK32 _ _ ?_
    refine zB fun _ hK35 => ?_
    refine rp0 hst15 hfr15 (.cons rfl (zD rfl) <| .cons rfl (zC rfl) <| .nil) fun a16 w16 m16 hst16 hle16 hk16 => ?_
    have hfr16 := hk16.fr (.o 12 <| .o 9 <| .o 1 <| .o 3 <| .o 6 <| .o 8 <| .o 13 <| .o 14 <| .n 2 <| .nil)
    clear hst15 hfr15 hk16
    refine hK35 _ _ ?_
    refine zB fun _ hK36 => ?_
    have zq16 := hle15.trans hle16
    replace hyr := hyr.mono zq16
    refine ra0 (tch := [(2, 4, (fun _ => .blk _ _))]) hst16 hfr16 (.cons rfl (zX (j := 5) rfl rfl isAgg33 sizeOf33 rfl) <| .cons rfl (zA (off := 2) rfl underlying72 rfl rfl sizeOf33 rfl) <| .consT rfl rfl (fun _ => rfl) rfl (z8 rfl rfl rfl sizeOf33 rfl rfl hyr.one) <| .nil) fun a17 w17 m17 hst17 hle17 hk17 => ?_
    have hfr17 := hk17.fr (.o 12 <| .o 9 <| .o 1 <| .o 3 <| .o 6 <| .o 8 <| .o 13 <| .o 2 <| .nil)
    replace hst17 := hst17.fin (L' := [_, _, _, _, _, _]) (.cons rfl <| .nil)
    try simp only [List.take_succ_cons, List.take_zero, List.drop_succ_cons, List.drop_zero, List.cons_append, List.nil_append, List.append_nil, List.length_cons, List.length_nil, Nat.zero_add, Nat.reduceAdd] at hst17
    clear hst16 hfr16 hk17
    refine hK36 _ _ ?_
    have zq17 := zq16.trans hle17
    have zq18 := hle14.trans zq17
    have zq19 := hle13.trans zq18
    replace hva30 := hva30.mono zq19
    replace hyr := hyr.mono hle17
    refine ra0 (tch := [(4, 3, (fun v => .rowx (nz v) _ _ _ _)), (6, 1, (fun u => .blk _ (.cells (_ ++ [u] ++ _).toArray _)))]) hst17 hfr17 (.cons rfl (zA (off := 6) rfl underlying33 rfl rfl sizeOf25 rfl) <| .cons rfl (zO (j := 1) rfl rfl isAgg25 rfl) <| .cons rfl (zX (j := 4) rfl rfl isAgg72 sizeOf72 rfl) <| .cons rfl (zx rfl underlying25 sizeOf72 zeroValue72 rfl rfl rfl rfl) <| .consT rfl rfl (fun _ => rfl) rfl (zT 83 rfl rfl rfl fun y83 => ZY (size := 23) (bytes := 352) (l := al) (l' := [zDm rl x30 u]) rfl rfl (fun _ => by first | exact .inl rfl | exact .inr (.inl rfl)) underlying25 type72 rfl rfl rfl rfl (fun w m hK => Sl.one (R := fun m vs t => ArR m t vs) hK.2 rfl ⟨_, _, _, rfl, hva30.mono (KC.le hK), hyr.mono (KC.le hK)⟩) rfl (by decide) (by simp only [maxLen]; omega) (by omega)) <| .cons rfl (zA (off := 6) rfl underlying33 rfl rfl sizeOf25 rfl) <| .consT rfl rfl (fun _ => rfl) rfl (zT 84 rfl rfl rfl fun y84 => Z4 rfl rfl rfl rfl rfl sizeOf25 rfl rfl rfl) <| .nil) fun a18 w18 m18 hst18 hle18 hk18 => ?_
    have hfr18 := hk18.fr (.o 12 <| .o 9 <| .o 1 <| .o 3 <| .o 6 <| .o 8 <| .o 2 <| .nil)
    obtain ⟨⟨A_37o, A_37p⟩, e38, hsl_A_37⟩ := hk18.ex 84 rfl
    replace hst18 := hst18.fin (L' := [_, _, _, _, _, _]) (.cons e38 <| .cons e38 <| .nil)
    try simp only [List.take_succ_cons, List.take_zero, List.drop_succ_cons, List.drop_zero, List.cons_append, List.nil_append, List.append_nil, List.length_cons, List.length_nil, Nat.zero_add, Nat.reduceAdd] at hst18
    clear hst17 hfr17 hk18
    replace hsl_A_37 : Ars m18 A_37o (al ++ [zDm rl x30 u]).length A_37p (al ++ [zDm rl x30 u]) := hsl_A_37
    refine hK28 _ _ ?_
    refine rp0 hst18 hfr18 (.cons rfl (zD rfl) <| .cons rfl (zi rfl rfl ⟨by omega, by omega⟩) <| .cons rfl (zC rfl) <| .nil) fun a19 w19 m19 hst19 hle19 hk19 => ?_
    have hfr19 := hk19.fr (.o 9 <| .o 1 <| .o 3 <| .o 6 <| .o 8 <| .o 2 <| .n 12 <| .nil)
    clear hst18 hfr18 hk19
    have hst19 := hst19.take 4
    replace hsl_A_37 := hsl_A_37.mono hle19
    have zq20 := hle18.trans hle19
    have zq21 := zq19.trans zq20
    have zq22 := hle12.trans zq21
    have hlh19 := hlh11.trans zq22
    exact ⟨(y + 1, (u + zP x30.body), A_37o, A_37p, (al ++ [zDm rl x30 u])), m19, by show t.arms.length - (y + 1) < t.arms.length - y; omega, ⟨hst19, hlh19, hfr19.sub (.c <| .c <| .c <| .c <| .c <| .c <| .c <| .nil), ⟨by show y + 1 ≤ t.arms.length; omega, hsl_A_37, ⟨by rw [hlen_al.1]; simp, by show (al ++ [_]).length = y + 1; simp; exact hlen_al.2⟩, by show u + zP x30.body + zp (t.arms.drop (y + 1)) = _; omega⟩⟩⟩
   ·try simp only [nqs] at hb61
    have hge : y = t.arms.length := by omega
    rw [List.drop_of_length_le (by omega)] at hlen_al hcu
    rw [Zw, List.append_nil] at hlen_al
    rw [zp] at hcu
    refine zf ?_
    refine hK23 _ _ ?_
    refine zB fun _ hK39 => ?_
    have zq23 := zq12.trans hle12
    have zq24 := hle8.trans zq23
    have zq25 := zq1.trans zq24
    replace hrw9 := hrw9.mono zq25
    replace hsl_kl := hsl_kl.mono zq23
    replace hsl_al := hsl_al.mono hle12
    have hout : TmR m12 ⟨t.kind, t.at_, t.name, t.param, t.n, kl, al, (zAq rl n t.row)⟩ (tmV ⟨t.kind, t.at_, t.name, t.param, t.n, kl, al, (zAq rl n t.row)⟩ (⟨klo, klp, alo, alp, orr, crr, t0_t, t1_t, t2_t, t3_t, t4_t, t5_t, u0_t, u1_t, u2_t, u3_t, u4_t, u5_t⟩ : TmY)) := TmR.build hon_t hsl_kl hsl_al hrw9
    have hfin : ZG rl t n = ⟨t.kind, t.at_, t.name, t.param, t.n, kl, al, (zAq rl n t.row)⟩ := by rw [zCJ, hlen_kl.1, ← hlen_al.1, show v = n + 1 + zQ t.kids by omega]
    refine ra0 (tch := [(2, 0, (fun _ => .blk _ _))]) hst12 hfr12 (.cons rfl (zX (j := 1) rfl rfl isAgg33 sizeOf33 rfl) <| .cons rfl (zD rfl) <| .consT rfl rfl (fun _ => rfl) rfl (zc rfl rfl rfl sizeOf33 rfl rfl hout.one) <| .cons rfl (zC rfl) <| .nil) fun a13 w13 m13 hst13 hle13 hk13 => ?_
    have hfr13 := hk13.fr (.o 2 <| .o 12 <| .o 9 <| .o 6 <| .n 7 <| .nil)
    replace hst13 := hst13.fin (L' := [_, _, _, _]) (.cons rfl <| .nil)
    try simp only [List.take_succ_cons, List.take_zero, List.drop_succ_cons, List.drop_zero, List.cons_append, List.nil_append, List.append_nil, List.length_cons, List.length_nil, Nat.zero_add, Nat.reduceAdd] at hst13
    clear hst12 hfr12 hk13
    refine hK39 _ _ ?_
    refine zL ?_
    repeat (with_reducible first | refine zI ?_ | refine zG ?_)
    replace hout := hout.mono hle13
    exact zM hst13 hfr13 rfl (.cell rfl (zr (zm (hst13.loc.at_ (k := 0) rfl)) isAgg33 sizeOf33) <| .tmp rfl <| .nil) (⟨(⟨klo, klp, alo, alp, orr, crr, t0_t, t1_t, t2_t, t3_t, t4_t, t5_t, u0_t, u1_t, u2_t, u3_t, u4_t, u5_t⟩ : TmY), by show _ = Value.tuple #[.agg (tmV (ZG rl t n) _).toArray, .int .i64 ((n + zP t : Nat) : Int)]; rw [hfin, show n + zP t = u by omega]; rfl, by show TmR _ (ZG rl t n) (tmV (ZG rl t n) _); rw [hfin]; exact hout⟩)
 ·have hlj8 : MLe m4 m4 := MLe.refl _
  refine zB fun _ hK41 => ?_
  refine rp0 hst4 hfr4 (.cons rfl (zD rfl) <| .cons rfl (zY rfl underlying36) <| .cons rfl (zAs rfl rfl) <| .nil) fun a5 w5 m5 hst5 hle5 hk5 => ?_
  have hfr5 := hk5.fr (.o 1 <| .o 2 <| .o 3 <| .o 6 <| .o 8 <| .n 21 <| .nil)
  clear hst4 hfr4 hk5
  refine hK41 _ _ ?_
  refine zF hfr5 rfl rfl (fun hb21 => ?_) (fun hb21 => ?_)
  ·try simp only [nqs] at hb21
   have hmod : n % rl.length < rl.length := Nat.mod_lt _ (by omega)
   replace h_rl := h_rl.mono hle5
   obtain ⟨p42, vs42, x42, ho42, hd42, hm_x42, ht42, hcv42, hl42, hv42⟩ := h_rl.nth (k := (n % rl.length)) (by omega)
   cases ho42
   obtain ⟨o42, c42, rfl, hs42, hr42⟩ := hv42.open_
   have hbs42 := hs42.big; have hcs42 := hs42.cap
   refine ra0 (tch := [(8, 1, (fun _ => .blk _ _))]) hst5 hfr5 (.cons rfl (zD rfl) <| .cons rfl (zD rfl) <| .cons rfl (zD rfl) <| .cons rfl (zY rfl underlying36) <| .cons rfl (ob_rem rfl rfl (by omega)) <| .cons rfl (zH (k := (n % rl.length)) rfl rfl underlying36 sizeOf29 (by omega) (by omega)) <| .cons rfl (zN rfl hcv42 isAgg29 sizeOf29 rfl rfl) <| .cons rfl (zA (off := 13) rfl underlying33 rfl rfl sizeOf29 rfl) <| .consT rfl rfl (fun _ => rfl) rfl (z8 rfl rfl rfl sizeOf29 rfl rfl rfl) <| .nil) fun a6 w6 m6 hst6 hle6 hk6 => ?_
   have hfr6 := hk6.fr (.o 1 <| .o 2 <| .o 3 <| .o 6 <| .o 8 <| .nil)
   replace hst6 := hst6.fin (L' := [_, _, _, _]) (.cons rfl <| .nil)
   try simp only [List.take_succ_cons, List.take_zero, List.drop_succ_cons, List.drop_zero, List.cons_append, List.nil_append, List.append_nil, List.length_cons, List.length_nil, Nat.zero_add, Nat.reduceAdd] at hst6
   clear hst5 hfr5 hk6
   repeat (with_reducible first | refine ZJ ?_ | refine ZF ?_ | refine zv ?_)
   have zq26 := hle5.trans hle6
   replace hlj8 := hlj8.trans zq26
   replace hv42 := hv42.mono hle6
   exact hj8 (x42, _, _) _ _ _ ⟨hst6, hlj8, hfr6.sub (.c <| .c <| .c <| .c <| .c <| .nil), ⟨by unfold zAq; rw [if_neg (fun h => by rw [h] at hb21; simp at hb21), Zu hd42], hv42⟩⟩
  ·try simp only [nqs] at hb21
   have hnil : rl = [] := List.eq_nil_of_length_eq_zero (by omega)
   refine zJ ?_
   repeat (with_reducible first | refine ZJ ?_ | refine ZF ?_ | refine zv ?_)
   replace hrr_t := hrr_t.mono hle5
   replace hlj8 := hlj8.trans hle5
   exact hj8 (t.row, oR_t, cR_t) _ _ _ ⟨hst5, hlj8, hfr5.sub (.c <| .c <| .c <| .c <| .c <| .nil), ⟨by unfold zAq; rw [if_pos hnil], hrr_t⟩⟩
theorem rows_c (t : Tm) : rows_G t := Tm.rec_ (p := rows_G) (fun t ihk iha => rows_s ihk iha) t
abbrev zEF (t : Cd) : Prop := ∀ {w : World} {m : Mem} {vs_t : List Value} {us_t : List Value} (hA : Agree w m) (h_t : CdR m t vs_t) (g_t : CdR m t us_t), FnV Tryd.prog 13 #[.agg vs_t.toArray, .agg us_t.toArray] w m (fun _ _ v => v = .bool true)
set_option maxHeartbeats 1600000 in
theorem csame_s {t : Cd} (ihk : ∀ u ∈ t.kids, zEF u) (iha : ∀ a ∈ t.arms, zEF a.body) {w : World} {m : Mem} {vs_t : List Value} {us_t : List Value} (hA : Agree w m) (h_t : CdR m t vs_t) (g_t : CdR m t us_t) : FnV Tryd.prog 13 #[.agg vs_t.toArray, .agg us_t.toArray] w m (fun _ _ v => v = .bool true) := by
 obtain ⟨⟨oK_t, cK_t, oA_t, cA_t⟩, rfl, ⟨hik_t, hin_t⟩, hkk_t, haa_t⟩ := h_t.open_
 dsimp only at hkk_t haa_t
 have hbg_t := hkk_t.big; have hcp_t := hkk_t.cap; have hbh_t := haa_t.big; have hcq_t := haa_t.cap
 obtain ⟨⟨oK_z, cK_z, oA_z, cA_z⟩, rfl, ⟨hik_z, hin_z⟩, hkk_z, haa_z⟩ := g_t.open_
 dsimp only at hkk_z haa_z
 have hbg_z := hkk_z.big; have hcp_z := hkk_z.cap; have hbh_z := haa_z.big; have hcq_z := haa_z.cap
 refine zW (vs := [_, _]) func13 rfl rfl rfl fun a0 hfr0 => ?_
 have hst0 := zV hA (zh [] _ w m)
 have hM : MLe m m := MLe.refl m
 refine zB fun _ hK1 => ?_
 refine rp0 hst0 hfr0 (.cons rfl (z1 rfl rfl) <| .cons rfl (z1 rfl rfl) <| .cons rfl (zC rfl) <| .nil) fun a1 w1 m1 hst1 hle1 hk1 => ?_
 have hfr1 := hk1.fr (.nil)
 obtain ⟨g2, e2, hc2⟩ := hk1.ex 2 rfl
 replace hfr1 := hfr1.cons e2
 obtain ⟨g3, e3, hc3⟩ := hk1.ex 3 rfl
 replace hfr1 := hfr1.cons e3
 replace hkk_t := hkk_t.mono hle1
 replace haa_t := haa_t.mono hle1
 replace hkk_z := hkk_z.mono hle1
 replace haa_z := haa_z.mono hle1
 clear hst0 hfr0 hk1
 refine hK1 _ _ ?_
 refine zB fun _ hK4 => ?_
 refine zB fun _ hK5 => ?_
 refine rp0 hst1 hfr1 (.cons rfl (zA (off := 0) rfl underlying46 rfl rfl sizeOf3 rfl) <| .cons rfl (zE rfl hc2 isAgg3 rfl) <| .cons rfl (zA (off := 0) rfl underlying46 rfl rfl sizeOf3 rfl) <| .cons rfl (zE rfl hc3 isAgg3 rfl) <| .cons rfl (ZT rfl rfl) <| .cons rfl (zD rfl) <| .cons rfl (zA (off := 1) rfl underlying46 rfl rfl sizeOf9 rfl) <| .cons rfl (zE rfl hc2 isAgg9 rfl) <| .cons rfl (zA (off := 1) rfl underlying46 rfl rfl sizeOf9 rfl) <| .cons rfl (zE rfl hc3 isAgg9 rfl) <| .cons rfl (zAG rfl rfl) <| .cons rfl (ZB rfl rfl rfl) <| .cons rfl (zD rfl) <| .cons rfl (zA (off := 2) rfl underlying46 rfl rfl sizeOf9 rfl) <| .cons rfl (zE rfl hc2 isAgg9 rfl) <| .cons rfl (zA (off := 2) rfl underlying46 rfl rfl sizeOf9 rfl) <| .cons rfl (zE rfl hc3 isAgg9 rfl) <| .cons rfl (zAG rfl rfl) <| .cons rfl (ZB rfl rfl rfl) <| .cons rfl (zD rfl) <| .cons rfl (zA (off := 3) rfl underlying46 rfl rfl sizeOf3 rfl) <| .cons rfl (zE rfl hc2 isAgg3 rfl) <| .cons rfl (zA (off := 3) rfl underlying46 rfl rfl sizeOf3 rfl) <| .cons rfl (zE rfl hc3 isAgg3 rfl) <| .cons rfl (ZT rfl rfl) <| .cons rfl (ZB rfl rfl rfl) <| .cons rfl (zD rfl) <| .cons rfl (zA (off := 4) rfl underlying46 rfl rfl sizeOf43 rfl) <| .cons rfl (zE rfl hc2 isAgg43 rfl) <| .cons rfl (zY rfl underlying43) <| .cons rfl (zA (off := 4) rfl underlying46 rfl rfl sizeOf43 rfl) <| .cons rfl (zE rfl hc3 isAgg43 rfl) <| .cons rfl (zY rfl underlying43) <| .cons rfl (ZT rfl rfl) <| .cons rfl (ZB rfl rfl rfl) <| .cons rfl (zD rfl) <| .cons rfl (zA (off := 5) rfl underlying46 rfl rfl sizeOf44 rfl) <| .cons rfl (zE rfl hc2 isAgg44 rfl) <| .cons rfl (zY rfl underlying44) <| .cons rfl (zA (off := 5) rfl underlying46 rfl rfl sizeOf44 rfl) <| .cons rfl (zE rfl hc3 isAgg44 rfl) <| .cons rfl (zY rfl underlying44) <| .cons rfl (ZT rfl rfl) <| .cons rfl (ZB rfl rfl rfl) <| .nil) fun a2 w2 m2 hst2 hle2 hk2 => ?_
 have hfr2 := hk2.fr (.o 2 <| .o 3 <| .n 54 <| .nil)
 replace hkk_t := hkk_t.mono hle2
 replace haa_t := haa_t.mono hle2
 replace hkk_z := hkk_z.mono hle2
 replace haa_z := haa_z.mono hle2
 replace hc2 := hc2.mono hle2
 replace hc3 := hc3.mono hle2
 clear hst1 hfr1 hk2
 refine hK5 _ _ ?_
 refine zF hfr2 rfl rfl (fun hb54 => ?_) (fun hb54 => ?_)
 ·simp at hb54
 ·try simp only [nqs] at hb54
  refine zJ ?_
  refine hK4 _ _ ?_
  refine zB fun _ hK6 => ?_
  refine zB fun _ hK7 => ?_
  refine rp0 hst2 hfr2 (.cons rfl (zC rfl) <| .nil) fun a3 w3 m3 hst3 hle3 hk3 => ?_
  have hfr3 := hk3.fr (.o 2 <| .o 3 <| .n 5 <| .nil)
  clear hst2 hfr2 hk3
  refine hK7 _ _ ?_
  refine zK ?_
  refine ze (T := [(2, _), (3, _)]) (fun (y : Nat) => ([(5, .int .i64 (y : Int))] : List (Nat × Value))) (fun _ => _) (fun (y : Nat) m => (y ≤ t.kids.length)) (fun y => t.kids.length - y) (0) ⟨hst3, MLe.refl _, hfr3.sub (.c <| .c <| .c <| .nil), Nat.zero_le _⟩ fun y a4 w4 m4 hh4 => ?_
  have hst4 := hh4.st; have hle4 := hh4.le; have hfr4 := hh4.fr; have hrel := hh4.rel; clear hh4
  clear hst3 hfr3
  have hyn := hrel
  have hlh4 := hle4
  refine zB fun _ hK9 => ?_
  refine zB fun _ hK10 => ?_
  have zq1 := hle3.trans hle4
  replace hc2 := hc2.mono zq1
  refine rp0 hst4 hfr4 (.cons rfl (zD rfl) <| .cons rfl (zA (off := 4) rfl underlying46 rfl rfl sizeOf43 rfl) <| .cons rfl (zE rfl hc2 isAgg43 rfl) <| .cons rfl (zY rfl underlying43) <| .cons rfl (zw rfl rfl) <| .nil) fun a5 w5 m5 hst5 hle5 hk5 => ?_
  have hfr5 := hk5.fr (.o 5 <| .o 2 <| .o 3 <| .n 59 <| .nil)
  clear hst4 hfr4 hk5
  refine hK10 _ _ ?_
  refine zF hfr5 rfl rfl (fun hb59 => ?_) (fun hb59 => ?_)
  ·try simp only [nqs] at hb59
   refine zJ ?_
   refine hK9 _ _ ?_
   refine zB fun _ hK11 => ?_
   refine zK ?_
   refine zB fun _ hK12 => ?_
   have zq2 := zq1.trans hle5
   replace hkk_t := hkk_t.mono zq2
   obtain ⟨p13, vs13, x13, ho13, hd13, hm_x13, ht13, hcv13, hl13, hv13⟩ := hkk_t.nth (k := y) (by omega)
   cases ho13
   obtain ⟨⟨oK13, cK13, oA13, cA13⟩, rfl, ⟨hik13, hin13⟩, hkk13, haa13⟩ := hv13.open_
   dsimp only at hkk13 haa13
   have hbg13 := hkk13.big; have hcp13 := hkk13.cap; have hbh13 := haa13.big; have hcq13 := haa13.cap
   replace hkk_z := hkk_z.mono zq2
   obtain ⟨p14, vs14, x14, ho14, hd14, hm_x14, ht14, hcv14, hl14, hv14⟩ := hkk_z.nth (k := y) (by omega)
   cases ho14
   obtain ⟨⟨oK14, cK14, oA14, cA14⟩, rfl, ⟨hik14, hin14⟩, hkk14, haa14⟩ := hv14.open_
   dsimp only at hkk14 haa14
   have hbg14 := hkk14.big; have hcp14 := hkk14.cap; have hbh14 := haa14.big; have hcq14 := haa14.cap
   have hxe := hd13.symm.trans hd14
   injection hxe with hxe _
   subst hxe
   replace hc3 := hc3.mono zq2
   replace hc2 := hc2.mono hle5
   refine ZH (fun _ => mixed) hst5 hfr5 (by kernel_rfl) (by kernel_rfl) (.cons rfl (zA (off := 4) rfl underlying46 rfl rfl sizeOf43 rfl) <| .cons rfl (zE rfl hc2 isAgg43 rfl) <| .cons rfl (zD rfl) <| .cons rfl (zH (k := y) rfl rfl underlying43 sizeOf46 rfl (by omega)) <| .cons rfl (zN rfl hcv13 isAgg46 sizeOf46 rfl rfl) <| .cons rfl (zA (off := 4) rfl underlying46 rfl rfl sizeOf43 rfl) <| .cons rfl (zE rfl hc3 isAgg43 rfl) <| .cons rfl (zD rfl) <| .cons rfl (zH (k := y) rfl rfl underlying43 sizeOf46 rfl (by omega)) <| .cons rfl (zN rfl hcv14 isAgg46 sizeOf46 rfl rfl) <| .cons rfl (za rfl (.cons rfl <| .cons rfl <| .nil) call13 (fun w m hK => by have hle_ := KC.le hK; have hA := KC.agree hK; have hv13 := hv13.mono hle_; have hv14 := hv14.mono hle_; exact ihk _ hm_x13 hA hv13 hv14)) <| .cons rfl (zC rfl) <| .nil) fun a6 w6 m6 hst6 hle6 hk6 => ?_
   have hfr6 := hk6.fr (.o 5 <| .o 2 <| .o 3 <| .n 6 <| .nil)
   clear hst5 hfr5 hk6
   refine hK12 _ _ ?_
   refine zB fun _ hK15 => ?_
   refine rp0 hst6 hfr6 (.cons rfl (zD rfl) <| .cons rfl (Zg rfl) <| .nil) fun a7 w7 m7 hst7 hle7 hk7 => ?_
   have hfr7 := hk7.fr (.o 5 <| .o 2 <| .o 3 <| .n 74 <| .nil)
   clear hst6 hfr6 hk7
   refine hK15 _ _ ?_
   refine zF hfr7 rfl rfl (fun hb74 => ?_) (fun hb74 => ?_)
   ·simp at hb74
   ·try simp only [nqs] at hb74
    refine zJ ?_
    refine hK11 _ _ ?_
    refine rp0 hst7 hfr7 (.cons rfl (zD rfl) <| .cons rfl (zi rfl rfl ⟨by omega, by omega⟩) <| .cons rfl (zC rfl) <| .nil) fun a8 w8 m8 hst8 hle8 hk8 => ?_
    have hfr8 := hk8.fr (.o 2 <| .o 3 <| .n 5 <| .nil)
    clear hst7 hfr7 hk8
    have zq3 := hle7.trans hle8
    have zq4 := hle6.trans zq3
    have zq5 := hle5.trans zq4
    have hlh8 := hlh4.trans zq5
    exact ⟨y + 1, m8, by show t.kids.length - (y + 1) < t.kids.length - y; omega, ⟨hst8, hlh8, hfr8.sub (.c <| .c <| .c <| .nil), by show y + 1 ≤ t.kids.length; omega⟩⟩
  ·try simp only [nqs] at hb59
   have hge : y = t.kids.length := by omega
   refine zf ?_
   refine hK6 _ _ ?_
   refine zB fun _ hK16 => ?_
   refine zB fun _ hK17 => ?_
   refine rp0 hst5 hfr5 (.cons rfl (zC rfl) <| .nil) fun a6 w6 m6 hst6 hle6 hk6 => ?_
   have hfr6 := hk6.fr (.o 5 <| .o 2 <| .o 3 <| .n 7 <| .nil)
   clear hst5 hfr5 hk6
   refine hK17 _ _ ?_
   refine zK ?_
   have zq6 := hle5.trans hle6
   have hlh6 := hlh4.trans zq6
   have hlq18 := hlh6
   refine ze (T := [(5, _), (2, _), (3, _)]) (fun (y : Nat) => ([(7, .int .i64 (y : Int))] : List (Nat × Value))) (fun _ => _) (fun (y : Nat) m => (y ≤ t.arms.length)) (fun y => t.arms.length - y) (0) ⟨hst6, MLe.refl _, hfr6.sub (.c <| .c <| .c <| .c <| .nil), Nat.zero_le _⟩ fun y a7 w7 m7 hh7 => ?_
   have hst7 := hh7.st; have hle7 := hh7.le; have hfr7 := hh7.fr; have hrel := hh7.rel; clear hh7
   clear hst6 hfr6
   have hyn := hrel
   have hlh7 := hle7
   refine zB fun _ hK19 => ?_
   refine zB fun _ hK20 => ?_
   have zq7 := zq6.trans hle7
   replace hc2 := hc2.mono zq7
   refine rp0 hst7 hfr7 (.cons rfl (zD rfl) <| .cons rfl (zA (off := 5) rfl underlying46 rfl rfl sizeOf44 rfl) <| .cons rfl (zE rfl hc2 isAgg44 rfl) <| .cons rfl (zY rfl underlying44) <| .cons rfl (zw rfl rfl) <| .nil) fun a8 w8 m8 hst8 hle8 hk8 => ?_
   have hfr8 := hk8.fr (.o 7 <| .o 5 <| .o 2 <| .o 3 <| .n 79 <| .nil)
   clear hst7 hfr7 hk8
   refine hK20 _ _ ?_
   refine zF hfr8 rfl rfl (fun hb79 => ?_) (fun hb79 => ?_)
   ·try simp only [nqs] at hb79
    refine zJ ?_
    refine hK19 _ _ ?_
    refine zB fun _ hK21 => ?_
    refine zK ?_
    refine zB fun _ hK22 => ?_
    have zq8 := zq7.trans hle8
    have zq9 := zq1.trans zq8
    replace haa_t := haa_t.mono zq9
    obtain ⟨p23, vs23, x23, ho23, hd23, hm_x23, ht23, hcv23, hl23, hv23⟩ := haa_t.nth (k := y) (by omega)
    cases ho23
    obtain ⟨oV23, cV23, bs23, rfl, hva23, hbd23⟩ := hv23.open_
    have hbv23 := hva23.big; have hcv23_ := hva23.cap
    obtain ⟨⟨oK23b, cK23b, oA23b, cA23b⟩, rfl, ⟨hik23b, hin23b⟩, hkk23b, haa23b⟩ := hbd23.open_
    dsimp only at hkk23b haa23b
    have hbg23b := hkk23b.big; have hcp23b := hkk23b.cap; have hbh23b := haa23b.big; have hcq23b := haa23b.cap
    replace haa_z := haa_z.mono zq9
    obtain ⟨p24, vs24, x24, ho24, hd24, hm_x24, ht24, hcv24, hl24, hv24⟩ := haa_z.nth (k := y) (by omega)
    cases ho24
    obtain ⟨oV24, cV24, bs24, rfl, hva24, hbd24⟩ := hv24.open_
    have hbv24 := hva24.big; have hcv24_ := hva24.cap
    obtain ⟨⟨oK24b, cK24b, oA24b, cA24b⟩, rfl, ⟨hik24b, hin24b⟩, hkk24b, haa24b⟩ := hbd24.open_
    dsimp only at hkk24b haa24b
    have hbg24b := hkk24b.big; have hcp24b := hkk24b.cap; have hbh24b := haa24b.big; have hcq24b := haa24b.cap
    have hxe := hd23.symm.trans hd24
    injection hxe with hxe _
    subst hxe
    replace hst8 := hst8.more (r := .free) trivial List.nodup_nil (by simp [Res.blocks])
    replace hc2 := hc2.mono hle8
    refine ra0 (tch := [(5, 0, (fun v => .blk v _)), (6, 0, (fun v => .blk v _))]) hst8 hfr8 (.cons rfl (zA (off := 5) rfl underlying46 rfl rfl sizeOf44 rfl) <| .cons rfl (zE rfl hc2 isAgg44 rfl) <| .cons rfl (zD rfl) <| .cons rfl (zH (k := y) rfl rfl underlying44 sizeOf78 rfl (by omega)) <| .cons rfl (zN rfl hcv23 isAgg78 sizeOf78 rfl rfl) <| .consT rfl rfl (fun _ => rfl) rfl (zR zeroValue78 rfl) <| .consT rfl rfl (fun _ => rfl) rfl (zT 8 rfl rfl rfl fun y8 => zb rfl rfl rfl rfl rfl sizeOf78 rfl rfl hv23.one) <| .nil) fun a9 w9 m9 hst9 hle9 hk9 => ?_
    have hfr9 := hk9.fr (.o 7 <| .o 5 <| .o 2 <| .o 3 <| .nil)
    obtain ⟨g25, e25, _⟩ := hk9.ex 8 rfl
    replace hfr9 := hfr9.cons e25
    replace hst9 := hst9.fin (L' := [_]) (.cons e25 <| .cons e25 <| .nil)
    try simp only [List.take_succ_cons, List.take_zero, List.drop_succ_cons, List.drop_zero, List.cons_append, List.nil_append, List.append_nil, List.length_cons, List.length_nil, Nat.zero_add, Nat.reduceAdd] at hst9
    clear hst8 hfr8 hk9
    refine hK22 _ _ ?_
    refine zB fun _ hK26 => ?_
    replace hst9 := hst9.more (r := .free) trivial List.nodup_nil (by simp [Res.blocks])
    have zq10 := zq9.trans hle9
    replace hc3 := hc3.mono zq10
    replace hcv24 := hcv24.mono hle9
    replace hv24 := hv24.mono hle9
    refine ra0 (tch := [(5, 1, (fun v => .blk v _)), (6, 1, (fun v => .blk v _))]) hst9 hfr9 (.cons rfl (zA (off := 5) rfl underlying46 rfl rfl sizeOf44 rfl) <| .cons rfl (zE rfl hc3 isAgg44 rfl) <| .cons rfl (zD rfl) <| .cons rfl (zH (k := y) rfl rfl underlying44 sizeOf78 rfl (by omega)) <| .cons rfl (zN rfl hcv24 isAgg78 sizeOf78 rfl rfl) <| .consT rfl rfl (fun _ => rfl) rfl (zR zeroValue78 rfl) <| .consT rfl rfl (fun _ => rfl) rfl (zT 9 rfl rfl rfl fun y9 => zb rfl rfl rfl rfl rfl sizeOf78 rfl rfl hv24.one) <| .nil) fun a10 w10 m10 hst10 hle10 hk10 => ?_
    have hfr10 := hk10.fr (.o 7 <| .o 5 <| .o 2 <| .o 3 <| .o 8 <| .nil)
    obtain ⟨g27, e27, _⟩ := hk10.ex 9 rfl
    replace hfr10 := hfr10.cons e27
    replace hst10 := hst10.fin (L' := [_, _]) (.cons e27 <| .cons e27 <| .nil)
    try simp only [List.take_succ_cons, List.take_zero, List.drop_succ_cons, List.drop_zero, List.cons_append, List.nil_append, List.append_nil, List.length_cons, List.length_nil, Nat.zero_add, Nat.reduceAdd] at hst10
    clear hst9 hfr9 hk10
    refine hK26 _ _ ?_
    refine zB fun _ hK28 => ?_
    have zq11 := hle9.trans hle10
    replace hva23 := hva23.mono zq11
    replace hbd23 := hbd23.mono zq11
    replace hva24 := hva24.mono zq11
    replace hbd24 := hbd24.mono zq11
    refine rp0 hst10 hfr10 (.cons rfl (zA (off := 0) rfl underlying78 rfl rfl sizeOf9 rfl) <| .cons rfl (zO (j := 0) rfl rfl isAgg9 rfl) <| .cons rfl (zA (off := 0) rfl underlying78 rfl rfl sizeOf9 rfl) <| .cons rfl (zO (j := 1) rfl rfl isAgg9 rfl) <| .cons rfl (ZA rfl rfl) <| .cons rfl (zD rfl) <| .cons rfl (zA (off := 2) rfl underlying78 rfl rfl sizeOf4 rfl) <| .cons rfl (zO (j := 0) rfl rfl isAgg4 rfl) <| .cons rfl (zA (off := 2) rfl underlying78 rfl rfl sizeOf4 rfl) <| .cons rfl (zO (j := 1) rfl rfl isAgg4 rfl) <| .cons rfl (ob_beql rfl rfl underlying4) <| .cons rfl (ZM rfl rfl rfl) <| .cons rfl (zD rfl) <| .cons rfl (zA (off := 1) rfl underlying78 rfl rfl sizeOf27 rfl) <| .cons rfl (zO (j := 0) rfl rfl isAgg27 rfl) <| .cons rfl (zA (off := 1) rfl underlying78 rfl rfl sizeOf27 rfl) <| .cons rfl (zO (j := 1) rfl rfl isAgg27 rfl) <| .cons rfl (za rfl (.cons rfl <| .cons rfl <| .nil) call32 (fun w m hK => by have hle_ := KC.le hK; have hA := KC.agree hK; have hva23 := hva23.mono hle_; have hva24 := hva24.mono hle_; exact sameNames_c hA hva23 hva24)) <| .cons rfl (ZM rfl rfl rfl) <| .cons rfl (zD rfl) <| .cons rfl (zA (off := 3) rfl underlying78 rfl rfl sizeOf46 rfl) <| .cons rfl (Zo (j := 0) rfl rfl isAgg46 sizeOf46 rfl rfl) <| .cons rfl (zA (off := 3) rfl underlying78 rfl rfl sizeOf46 rfl) <| .cons rfl (Zo (j := 1) rfl rfl isAgg46 sizeOf46 rfl rfl) <| .cons rfl (za rfl (.cons rfl <| .cons rfl <| .nil) call13 (fun w m hK => by have hle_ := KC.le hK; have hA := KC.agree hK; have hbd23 := hbd23.mono hle_; have hbd24 := hbd24.mono hle_; exact iha _ hm_x23 hA hbd23 hbd24)) <| .cons rfl (ZM rfl rfl rfl) <| .cons rfl (zC rfl) <| .nil) fun a11 w11 m11 hst11 hle11 hk11 => ?_
    have hfr11 := hk11.fr (.o 7 <| .o 5 <| .o 2 <| .o 3 <| .n 10 <| .nil)
    clear hst10 hfr10 hk11
    refine hK28 _ _ ?_
    refine zB fun _ hK29 => ?_
    refine rp0 hst11 hfr11 (.cons rfl (zD rfl) <| .cons rfl (Zg rfl) <| .nil) fun a12 w12 m12 hst12 hle12 hk12 => ?_
    have hfr12 := hk12.fr (.o 7 <| .o 5 <| .o 2 <| .o 3 <| .n 119 <| .nil)
    clear hst11 hfr11 hk12
    refine hK29 _ _ ?_
    refine zF hfr12 rfl rfl (fun hb119 => ?_) (fun hb119 => ?_)
    ·simp at hb119
    ·try simp only [nqs] at hb119
     refine zJ ?_
     refine hK21 _ _ ?_
     refine rp0 hst12 hfr12 (.cons rfl (zD rfl) <| .cons rfl (zi rfl rfl ⟨by omega, by omega⟩) <| .cons rfl (zC rfl) <| .nil) fun a13 w13 m13 hst13 hle13 hk13 => ?_
     have hfr13 := hk13.fr (.o 5 <| .o 2 <| .o 3 <| .n 7 <| .nil)
     clear hst12 hfr12 hk13
     have hst13 := hst13.take 0
     have zq12 := hle12.trans hle13
     have zq13 := hle11.trans zq12
     have zq14 := zq11.trans zq13
     have zq15 := hle8.trans zq14
     have hlh13 := hlh7.trans zq15
     exact ⟨y + 1, m13, by show t.arms.length - (y + 1) < t.arms.length - y; omega, ⟨hst13, hlh13, hfr13.sub (.c <| .c <| .c <| .c <| .nil), by show y + 1 ≤ t.arms.length; omega⟩⟩
   ·try simp only [nqs] at hb79
    have hge : y = t.arms.length := by omega
    refine zf ?_
    refine hK16 _ _ ?_
    refine zB fun _ hK30 => ?_
    refine rp0 hst8 hfr8 (.cons rfl (zC rfl) <| .nil) fun a9 w9 m9 hst9 hle9 hk9 => ?_
    have hfr9 := hk9.fr (.o 7 <| .o 5 <| .n 4 <| .nil)
    clear hst8 hfr8 hk9
    refine hK30 _ _ ?_
    refine zL ?_
    repeat (with_reducible first | refine zI ?_ | refine zG ?_)
    exact zM hst9 hfr9 rfl (.tmp rfl <| .nil) (rfl)
theorem csame_c (t : Cd) : zEF t := Cd.rec_ (p := zEF) (fun t ihk iha => csame_s ihk iha) t
set_option maxHeartbeats 1600000 in
theorem whole_c {w : World} {m : Mem} {n : Int} (hA : Agree w m)  : FnV Tryd.prog 30 #[.int .i64 n] w m (fun _ m v => (MP.tm (intT n)).p m v) := by
 refine zW (vs := [_]) func30 rfl rfl rfl fun a0 hfr0 => ?_
 have hst0 := zV hA (zh [] _ w m)
 have hM : MLe m m := MLe.refl m
 refine zB fun _ hK1 => ?_
 replace hst0 := hst0.more (r := .free) trivial List.nodup_nil (by simp [Res.blocks])
 refine ra0 (tch := [(0, 0, (fun v => .blk v _))]) hst0 hfr0 (.consT rfl rfl (fun _ => rfl) rfl (zR zeroValue33 rfl) <| .nil) fun a1 w1 m1 hst1 hle1 hk1 => ?_
 have hfr1 := hk1.fr (.o 0 <| .nil)
 obtain ⟨g2, e2, _⟩ := hk1.ex 2 rfl
 replace hfr1 := hfr1.cons e2
 replace hst1 := hst1.fin (L' := [_]) (.cons e2 <| .nil)
 clear hst0 hfr0 hk1
 refine hK1 _ _ ?_
 refine zB fun _ hK3 => ?_
 refine ra0 (tch := [(2, 0, (fun _ => .blk _ _))]) hst1 hfr1 (.cons rfl (zD rfl) <| .cons rfl (zt (.cons rfl <| .cons rfl <| .nil) underlying33 zeroValue33 (.cons sizeOf3 <| .cons sizeOf3 <| .cons sizeOf9 <| .cons sizeOf9 <| .cons sizeOf3 <| .cons sizeOf24 <| .cons sizeOf25 <| .cons sizeOf31 <| .cons sizeOf29 <| .cons sizeOf31 <| .nil) rfl) <| .consT rfl rfl (fun _ => rfl) rfl (zc rfl rfl rfl sizeOf33 rfl rfl rfl) <| .nil) fun a2 w2 m2 hst2 hle2 hk2 => ?_
 have hfr2 := hk2.fr (.o 2 <| .nil)
 replace hst2 := hst2.fin (L' := [_]) (.cons rfl <| .nil)
 try simp only [List.take_succ_cons, List.take_zero, List.drop_succ_cons, List.drop_zero, List.cons_append, List.nil_append, List.append_nil, List.length_cons, List.length_nil, Nat.zero_add, Nat.reduceAdd] at hst2
 clear hst1 hfr1 hk2
 refine hK3 _ _ ?_
 refine zL ?_
 repeat (with_reducible first | refine zI ?_ | refine zG ?_)
 exact zM hst2 hfr2 rfl (.cell rfl (zr (zm (hst2.loc.at_ (k := 0) rfl)) isAgg33 sizeOf33) <| .nil) (⟨TmY.zero none 0 none 0, rfl, TmR.build TmY.zero_one Sl.empty Sl.empty ⟨_, _, rfl, Sl.empty, inI0⟩⟩)
set_option maxHeartbeats 1600000 in
theorem shown_c {w : World} {m : Mem}  (hA : Agree w m) (hT : Tab w) : FnV Tryd.prog 9 #[] w m (fun _ _ v => v = .bool true) := by
 refine zW (vs := []) func9 rfl rfl rfl fun a0 hfr0 => ?_
 have hst0 := zV hA (zh [] _ w m)
 have hM : MLe m m := MLe.refl m
 refine zB fun _ hK1 => ?_
 refine rp0 hst0 hfr0 (.cons rfl (zC rfl) <| .nil) fun a1 w1 m1 hst1 hle1 hk1 => ?_
 have hfr1 := hk1.fr (.nil)
 clear hst0 hfr0 hk1
 refine hK1 _ _ ?_
 refine zB fun _ hK2 => ?_
 refine zu 6 (by kernel_rfl) ?_
 refine zg (tch := []) hst1 hfr1 (by kernel_rfl) (by kernel_rfl) (by kernel_rfl) (.cons rfl (zj (φ := MP.tm (zDx [102])) rfl (.cons rfl <| .nil) call29 (fun w m hK => by have hle_ := KC.le hK; have hA := KC.agree hK; exact FnG.mono (v_c (s := [102]) hA) fun _ _ _ _ h => h)) <| .cons rfl (zj (φ := MP.tm (zDx [103])) rfl (.cons rfl <| .nil) call29 (fun w m hK => by have hle_ := KC.le hK; have hA := KC.agree hK; exact FnG.mono (v_c (s := [103]) hA) fun _ _ _ _ h => h)) <| .cons rfl (zj (φ := MP.tm (intT 1)) rfl (.cons rfl <| .nil) call30 (fun w m hK => by have hle_ := KC.le hK; have hA := KC.agree hK; exact FnG.mono (whole_c (n := 1) hA) fun _ _ _ _ h => h)) <| .cons rfl (zAM 3 rfl rfl rfl fun y3 => zAM 4 rfl rfl rfl fun y4 => zj (φ := MP.tm (zDl (zDx [103]) (intT 1))) rfl (.cons rfl <| .cons rfl <| .nil) call28 (fun w m hK => by have hle_ := KC.le hK; have hA := KC.agree hK; have hr0_ := hK.2; have hr1_ := hK.1.2; exact FnG.mono (call_c (f := (zDx [103])) (a := (intT 1)) hA hr1_ hr0_) fun _ _ _ _ h => h)) <| .cons rfl (zAM 2 rfl rfl rfl fun y2 => zAM 5 rfl rfl rfl fun y5 => zj (φ := MP.tm (zDl (zDx [102]) (zDl (zDx [103]) (intT 1)))) rfl (.cons rfl <| .cons rfl <| .nil) call28 (fun w m hK => by have hle_ := KC.le hK; have hA := KC.agree hK; have hr0_ := hK.2; have hr1_ := hK.1.2; exact FnG.mono (call_c (f := (zDx [102])) (a := (zDl (zDx [103]) (intT 1))) hA hr1_ hr0_) fun _ _ _ _ h => h)) <| .cons rfl (zt (.cons rfl <| .nil) underlying38 zeroValue38 (.cons sizeOf4 <| .cons sizeOf4 <| .nil) rfl) <| .nil) fun a2 w2 m2 hst2 hle2 hk2 => ?_
 have hfr2 := hk2.fr (.n 7 <| .nil)
 obtain ⟨y6, e3, hs6⟩ := hk2.ex 6 rfl
 replace hfr2 := hfr2.cons e3
 clear hst1 hfr1 hk2
 replace hst2 := hst2.more (r := .free) trivial List.nodup_nil (by simp [Res.blocks])
 refine zg (tch := [(1, 0, (fun v => .blk v _)), (2, 0, (fun v => .blkx v _ _))]) hst2 hfr2 (by kernel_rfl) (by kernel_rfl) (by kernel_rfl) (.cons rfl (zj (φ := MP.cd (zAR true false shT)) rfl (.cons rfl <| .cons rfl <| .nil) call12 (fun w m hK => by have hle_ := KC.le hK; have hA := KC.agree hK; have hT := zCN hT hK.st.ext; have hs6 := hs6.mono hle_; exact FnG.mono (lower_c (t := shT) (sel := true) (tl := false) hA hs6 hT (low_call (low_var _) (low_call (low_var _) (low_int _))) (by decide) (by decide)) fun _ _ _ _ h => h)) <| .consT rfl rfl (fun _ => rfl) rfl (zR zeroValue46 rfl) <| .consT rfl rfl (fun _ => rfl) rfl (zT 1 rfl rfl rfl fun y1 => ZR 8 rfl rfl rfl fun y8 => Z8 rfl rfl rfl rfl rfl sizeOf46 rfl rfl (fun w m hK => hK.2.one)) <| .nil) fun a3 w3 m3 hst3 hle3 hk3 => ?_
 have hfr3 := hk3.fr (.o 7 <| .o 6 <| .nil)
 obtain ⟨g4, e4, _⟩ := hk3.ex 1 rfl
 replace hfr3 := hfr3.cons e4
 replace hst3 := hst3.fin (L' := [_]) (.cons e4 <| .cons e4 <| .nil)
 try simp only [List.take_succ_cons, List.take_zero, List.drop_succ_cons, List.drop_zero, List.cons_append, List.nil_append, List.append_nil, List.length_cons, List.length_nil, Nat.zero_add, Nat.reduceAdd] at hst3
 obtain ⟨yl, hyl, hst3⟩ := hst3.unx (k := 0) rfl (fun _ => rfl)
 clear hst2 hfr2 hk3
 rw [lowT_sh] at hyl hst3
 obtain ⟨oK9, cK9, oA9, cA9⟩ := yl
 obtain ⟨hk9, -⟩ := hyl.at_y
 dsimp only at hk9
 refine hK2 _ _ ?_
 refine zB fun _ hK6 => ?_
 have hn1 := nameQ_1
 have hl8 : (cd2 8 (Z1 1) [] shA shB).kids.length = 2 := rfl
 have hl9 : ([shA, shB] : List Cd).length = 2 := rfl
 obtain ⟨p7, vs7, x7, ho7, hd7, hm_x7, ht7, hcv7, hl7, hv7⟩ := hk9.nth (k := 0) (by omega)
 cases ho7
 obtain ⟨⟨oK7, cK7, oA7, cA7⟩, rfl, ⟨hik7, hin7⟩, hkk7, haa7⟩ := hv7.open_
 dsimp only at hkk7 haa7
 have hbg7 := hkk7.big; have hcp7 := hkk7.cap; have hbh7 := haa7.big; have hcq7 := haa7.cap
 have hx0 : x7 = shA := zDF hd7 rfl
 obtain ⟨p8, vs8, x8, ho8, hd8, hm_x8, ht8, hcv8, hl8, hv8⟩ := hk9.nth (k := 1) (by omega)
 cases ho8
 obtain ⟨⟨oK8, cK8, oA8, cA8⟩, rfl, ⟨hik8, hin8⟩, hkk8, haa8⟩ := hv8.open_
 dsimp only at hkk8 haa8
 have hbg8 := hkk8.big; have hcp8 := hkk8.cap; have hbh8 := haa8.big; have hcq8 := haa8.cap
 have hx1 : x8 = shB := zDF hd8 rfl
 have hln9 : x8.kids.length = 2 := by rw [hx1]; rfl
 obtain ⟨p9, vs9, x9, ho9, hd9, hm_x9, ht9, hcv9, hl9, hv9⟩ := hkk8.nth (k := 1) (by omega)
 cases ho9
 obtain ⟨⟨oK9, cK9, oA9, cA9⟩, rfl, ⟨hik9, hin9⟩, hkk9, haa9⟩ := hv9.open_
 dsimp only at hkk9 haa9
 have hbg9 := hkk9.big; have hcp9 := hkk9.cap; have hbh9 := haa9.big; have hcq9 := haa9.cap
 have hx2 : x9 = zCc (Z1 1) := zDF hd9 (by rw [hx1]; rfl)
 refine rp0 hst3 hfr3 (.cons rfl (zA (off := 0) rfl underlying46 rfl rfl sizeOf3 rfl) <| .cons rfl (zO (j := 0) rfl rfl isAgg3 rfl) <| .cons rfl (zZ rfl rfl) <| .cons rfl (zD rfl) <| .cons rfl (zA (off := 1) rfl underlying46 rfl rfl sizeOf9 rfl) <| .cons rfl (zO (j := 0) rfl rfl isAgg9 rfl) <| .cons rfl (ZA rfl rfl) <| .cons rfl (ZM rfl rfl rfl) <| .cons rfl (zD rfl) <| .cons rfl (zA (off := 4) rfl underlying46 rfl rfl sizeOf43 rfl) <| .cons rfl (zO (j := 0) rfl rfl isAgg43 rfl) <| .cons rfl (zY rfl underlying43) <| .cons rfl (zZ rfl rfl) <| .cons rfl (ZM rfl rfl rfl) <| .cons rfl (zD rfl) <| .cons rfl (zA (off := 4) rfl underlying46 rfl rfl sizeOf43 rfl) <| .cons rfl (zO (j := 0) rfl rfl isAgg43 rfl) <| .cons rfl (zH (k := 0) rfl rfl underlying43 sizeOf46 rfl (by omega)) <| .cons rfl (zA (off := 0) rfl underlying46 rfl rfl sizeOf3 rfl) <| .cons rfl (zE rfl hcv7 isAgg3 rfl) <| .cons rfl (zZ rfl rfl) <| .cons rfl (ZM rfl rfl rfl) <| .cons rfl (zD rfl) <| .cons rfl (zA (off := 4) rfl underlying46 rfl rfl sizeOf43 rfl) <| .cons rfl (zO (j := 0) rfl rfl isAgg43 rfl) <| .cons rfl (zH (k := 1) rfl rfl underlying43 sizeOf46 rfl (by omega)) <| .cons rfl (zA (off := 0) rfl underlying46 rfl rfl sizeOf3 rfl) <| .cons rfl (zE rfl hcv8 isAgg3 rfl) <| .cons rfl (zZ rfl rfl) <| .cons rfl (ZM rfl rfl rfl) <| .cons rfl (zD rfl) <| .cons rfl (zA (off := 4) rfl underlying46 rfl rfl sizeOf43 rfl) <| .cons rfl (zO (j := 0) rfl rfl isAgg43 rfl) <| .cons rfl (zH (k := 1) rfl rfl underlying43 sizeOf46 rfl (by omega)) <| .cons rfl (zA (off := 4) rfl underlying46 rfl rfl sizeOf43 rfl) <| .cons rfl (zE rfl hcv8 isAgg43 rfl) <| .cons rfl (zY rfl underlying43) <| .cons rfl (zZ rfl rfl) <| .cons rfl (ZM rfl rfl rfl) <| .cons rfl (zD rfl) <| .cons rfl (zA (off := 4) rfl underlying46 rfl rfl sizeOf43 rfl) <| .cons rfl (zO (j := 0) rfl rfl isAgg43 rfl) <| .cons rfl (zH (k := 1) rfl rfl underlying43 sizeOf46 rfl (by omega)) <| .cons rfl (zA (off := 4) rfl underlying46 rfl rfl sizeOf43 rfl) <| .cons rfl (zE rfl hcv8 isAgg43 rfl) <| .cons rfl (zH (k := 1) rfl rfl underlying43 sizeOf46 rfl (by omega)) <| .cons rfl (zA (off := 1) rfl underlying46 rfl rfl sizeOf9 rfl) <| .cons rfl (zE rfl hcv9 isAgg9 rfl) <| .cons rfl (ZA rfl rfl) <| .cons rfl (ZM rfl rfl rfl) <| .cons rfl (zD rfl) <| .cons rfl (zX (j := 0) rfl rfl isAgg46 sizeOf46 rfl) <| .cons rfl (za rfl (.cons rfl <| .cons rfl <| .nil) call16 (fun w m hK => by have hle_ := KC.le hK; have hA := KC.agree hK; have hyl := hyl.mono hle_; exact zCP (cd2 8 (Z1 1) [] shA shB) (k := 6) hA hyl (by decide))) <| .cons rfl (zZ rfl rfl) <| .cons rfl (ZM rfl rfl rfl) <| .cons rfl (zC rfl) <| .nil) fun a4 w4 m4 hst4 hle4 hk4 => ?_
 have hfr4 := hk4.fr (.n 0 <| .nil)
 clear hst3 hfr3 hk4
 refine hK6 _ _ ?_
 refine zL ?_
 repeat (with_reducible first | refine zI ?_ | refine zG ?_)
 exact zM hst4 hfr4 rfl (.tmp rfl <| .nil) (by refine congrArg Value.bool ?_; simp [hx0, hx1, hx2, hn1, shA, shB, zCc]; try decide)
end Go.Proofs.YtmdhhjmomilhjaaDoor
namespace Go.Proofs.YtmdhhjmomilhjaaDoor
set_option linter.all false
set_option maxRecDepth 4000
open Go.RowKit
def isAt (t : Cd) : Prop := 1 ≤ t.kind ∧ t.kind ≤ 5
inductive LtC : Cd → Prop where
 | mk {t : Cd} (h : t.kind = 7 → ∃ u r, t.kids = u :: r ∧ isAt u) (hk : ∀ u ∈ t.kids, LtC u) (ha : ∀ a ∈ t.arms, LtC a.body) : LtC t
theorem LtC.here {t : Cd} (h : LtC t) : t.kind = 7 → ∃ u r, t.kids = u :: r ∧ isAt u := by cases h; assumption
theorem LtC.kid {t u : Cd} (h : LtC t) (hu : u ∈ t.kids) : LtC u := by cases h with | mk _ hk _ => exact hk u hu
theorem LtC.arm {t : Cd} {a : Ca} (h : LtC t) (ha : a ∈ t.arms) : LtC a.body := by cases h with | mk _ _ hh => exact hh a ha
def bareH (s : Str) : Bool := decide (s.head? = some 39)
def tlA (a : Ca) : Nat := if a.tail then (if a.vars.length = 1 then 1 else 1000001) else 0
mutual
/-- How many arms are Tail. -/
def tlC : Cd → Nat
 | ⟨_, _, _, _, ks, az⟩ => tlKs ks + tlAs az
def tlKs : List Cd → Nat
 | [] => 0
 | t :: ts => tlC t + tlKs ts
def tlAs : List Ca → Nat
 | [] => 0
 | ⟨s, v, l, b⟩ :: ts => tlC b + tlA ⟨s, v, l, b⟩ + tlAs ts
end
def tkH (t : Cd) : List Str := if (decide (t.kind = 7 ∨ t.kind = 8) && bareH t.name) = true then [t.name] else []
mutual
/-- The names that are taken. -/
def tkC : Cd → List Str
 | ⟨k, s, p, n, ks, az⟩ => tkH ⟨k, s, p, n, ks, az⟩ ++ (tkKs ks ++ tkAs az)
def tkKs : List Cd → List Str
 | [] => []
 | t :: ts => tkC t ++ tkKs ts
def tkAs : List Ca → List Str
 | [] => []
 | ⟨_, _, _, b⟩ :: ts => tkC b ++ tkAs ts
end
theorem tkAs_cons (a : Ca) (ts : List Ca) : tkAs (a :: ts) = tkC a.body ++ tkAs ts := by obtain ⟨s, v, l, b⟩ := a; rw [tkAs]; rfl
theorem tkKs_mem : ∀ {l : List Cd} {u : Cd}, u ∈ l → (tkC u).length ≤ (tkKs l).length
 | t :: ts, u, h => by
  rw [tkKs, List.length_append]
  rcases List.mem_cons.1 h with rfl | h
  ·omega
  ·have := tkKs_mem h; omega
theorem tkAs_mem : ∀ {l : List Ca} {u : Ca}, u ∈ l → (tkC u.body).length ≤ (tkAs l).length
 | t :: ts, u, h => by
  rw [tkAs_cons, List.length_append]
  rcases List.mem_cons.1 h with rfl | h
  ·omega
  ·have := tkAs_mem h; omega
mutual
/-- All bindings are CodeBind. -/
def bdC : Cd → Cd
 | ⟨k, s, p, n, ks, az⟩ => ⟨if k = 7 then 8 else k, s, p, n, zAL ks, zAx az⟩
def zAL : List Cd → List Cd
 | [] => []
 | t :: ts => bdC t :: zAL ts
def zAx : List Ca → List Ca
 | [] => []
 | ⟨s, v, l, b⟩ :: ts => ⟨s, v, l, bdC b⟩ :: zAx ts
end
def bdA (a : Ca) : Ca := ⟨a.name, a.vars, a.tail, bdC a.body⟩
theorem zBW (t : Cd) : bdC t = ⟨if t.kind = 7 then 8 else t.kind, t.name, t.param, t.n, zAL t.kids, zAx t.arms⟩ := by obtain ⟨k, s, p, n, ks, az⟩ := t; rw [bdC]; rfl
theorem zAy (a : Ca) (ts : List Ca) : zAx (a :: ts) = bdA a :: zAx ts := by obtain ⟨s, v, l, b⟩ := a; rw [zAx]; rfl
mutual
/-- How many pieces. -/
def szC : Cd → Nat
 | ⟨_, _, _, _, ks, az⟩ => 1 + (zBI ks + zCe az)
def zBI : List Cd → Nat
 | [] => 0
 | t :: ts => szC t + zBI ts
def zCe : List Ca → Nat
 | [] => 0
 | ⟨_, _, _, b⟩ :: ts => szC b + zCe ts
end
theorem zBD (t : Cd) : szC t = 1 + (zBI t.kids + zCe t.arms) := by obtain ⟨k, s, p, n, ks, az⟩ := t; rw [szC]; rfl
theorem zBe (a : Ca) (ts : List Ca) : zCe (a :: ts) = szC a.body + zCe ts := by obtain ⟨s, v, l, b⟩ := a; rw [zCe]; rfl
theorem szC_pos (t : Cd) : 1 ≤ szC t := by rw [zBD]; omega
theorem szKs_mem : ∀ {l : List Cd} {u : Cd}, u ∈ l → szC u ≤ zBI l
 | t :: ts, u, h => by
  rw [zBI]
  rcases List.mem_cons.1 h with rfl | h
  ·omega
  ·have := szKs_mem h; omega
theorem szAs_mem : ∀ {l : List Ca} {u : Ca}, u ∈ l → szC u.body ≤ zCe l
 | t :: ts, u, h => by
  rw [zBe]
  rcases List.mem_cons.1 h with rfl | h
  ·omega
  ·have := szAs_mem h; omega
theorem szKs_len : ∀ (l : List Cd), l.length ≤ zBI l
 | [] => Nat.le_refl _
 | t :: ts => by have := szKs_len ts; have := szC_pos t; rw [zBI, List.length_cons]; omega
theorem szAs_len : ∀ (l : List Ca), l.length ≤ zCe l
 | [] => Nat.le_refl _
 | t :: ts => by have := szAs_len ts; have := szC_pos t.body; rw [zBe, List.length_cons]; omega
end Go.Proofs.YtmdhhjmomilhjaaDoor
namespace Go.Proofs.YtmdhhjmomilhjaaDoor
set_option linter.all false
set_option maxRecDepth 4000
open Go.RowKit
theorem zCW {t : Tm} (h : LwT t) : (t.kind = 7 ∧ (∃ a b, t.kids = [a, b]) ∧ t.arms = []) ∨ (t.kind = 8 ∧ (∃ a b, t.kids = [a, b]) ∧ t.arms = []) ∨ (t.kind = 14 ∧ ∃ a, t.kids = [a]) ∨ (t.kind = 5 ∧ (∃ a, t.kids = [a]) ∧ t.arms = []) ∨
  ((t.kind = 1 ∨ t.kind = 2 ∨ t.kind = 3 ∨ t.kind = 4) ∧ t.kids = [] ∧ t.arms = []) ∨ (t.kind = 12 ∧ ∃ a, t.kids = [a]) ∨ ((t.kind = 0 ∨ t.kind = 6 ∨ t.kind = 9 ∨ t.kind = 10 ∨ t.kind = 11 ∨ t.kind = 13) ∧ t.arms = []) := by
 rcases h.here with ⟨h1, h2⟩ | ⟨h1, h2, h3, h4⟩
 ·have one : (t.kids.length : Int) = 1 → ∃ a, t.kids = [a] := fun h => by
   match t.kids, h with
   | [a], _ => exact ⟨a, rfl⟩
  have two : (t.kids.length : Int) = 2 → ∃ a b, t.kids = [a, b] := fun h => by
   match t.kids, h with
   | [a, b], _ => exact ⟨a, b, rfl⟩
  have nil : (t.kids.length : Int) = 0 → t.kids = [] := fun h => len0.1 h
  unfold zAC at h1
  repeat' split at h1
  ·exact .inr (.inr (.inr (.inr (.inl ⟨by assumption, nil (by omega), h2 (by omega) (by omega)⟩))))
  ·rename_i hk; rcases hk with hk | hk | hk | hk
   ·exact .inr (.inr (.inr (.inl ⟨hk, one (by omega), h2 (by omega) (by omega)⟩)))
   ·exact .inr (.inr (.inr (.inr (.inr (.inl ⟨hk, one (by omega)⟩)))))
   ·exact .inr (.inr (.inr (.inr (.inr (.inr ⟨by omega, h2 (by omega) (by omega)⟩)))))
   ·exact .inr (.inr (.inl ⟨hk, one (by omega)⟩))
  ·rename_i hk; rcases hk with hk | hk | hk
   ·exact .inr (.inr (.inr (.inr (.inr (.inr ⟨by omega, h2 (by omega) (by omega)⟩)))))
   ·exact .inl ⟨hk, two (by omega), h2 (by omega) (by omega)⟩
   ·exact .inr (.inl ⟨hk, two (by omega), h2 (by omega) (by omega)⟩)
  ·exact .inr (.inr (.inr (.inr (.inr (.inr ⟨by omega, h2 (by omega) (by omega)⟩)))))
  ·exact .inr (.inr (.inr (.inr (.inr (.inr ⟨by omega, h2 (by omega) (by omega)⟩)))))
  ·omega
 ·exact .inr (.inr (.inr (.inr (.inr (.inr ⟨by omega, h4⟩)))))
theorem zDZ {t : Tm} : Ze t = true ↔ 1 ≤ t.kind ∧ t.kind ≤ 5 := by unfold Ze; simp
theorem zCV (sel : Bool) (t : Tm) : zAB sel t = 7 ∨ zAB sel t = 8 := by unfold zAB; split <;> simp
-- what is in the rows that are made
theorem zDd {sel : Bool} {g : Gen} : ∀ {l : List Tm} {n : Nat} {b : Bd}, b ∈ Zy sel g l n → ∃ u ∈ l, ∃ m, Ze u = false ∧ b = ⟨zAB sel u, Z1 ((g u m).2 + 1), (g u m).1⟩
 | [], _, _, h => by simp [Zy] at h
 | t :: ts, n, b, h => by
  rw [Zy, List.mem_append] at h
  rcases h with h | h
  ·unfold kidB at h
   split at h
   ·cases h
   ·rename_i hl; rw [List.mem_singleton] at h; exact ⟨t, .head _, n, by simpa using hl, h⟩
  ·obtain ⟨u, hu, m, h1⟩ := zDd h; exact ⟨u, .tail _ hu, m, h1⟩
theorem zDe {g : Gen} : ∀ {l : List Tm} {n : Nat} {c : Cd}, c ∈ ZX g l n → (∃ u ∈ l, ∃ m, Ze u = true ∧ c = (g u m).1) ∨ ∃ s, c = zCc s
 | [], _, _, h => by simp [ZX] at h
 | t :: ts, n, b, h => by
  rw [ZX] at h
  rcases List.mem_cons.1 h with rfl | h
  ·unfold kidA
   split
   ·exact .inl ⟨t, .head _, n, by assumption, rfl⟩
   ·exact .inr ⟨_, rfl⟩
  ·rcases zDe h with ⟨u, hu, m, h1⟩ | h1
   ·exact .inl ⟨u, .tail _ hu, m, h1⟩
   ·exact .inr h1
theorem zEc {g : Gen} : ∀ {l : List Tm} {n : Nat} {c : Cd}, c ∈ zBL g l n → ∃ u ∈ l, ∃ m, c = (g u m).1
 | [], _, _, h => by simp [zBL] at h
 | t :: ts, n, b, h => by
  rw [zBL] at h
  rcases List.mem_cons.1 h with rfl | h
  ·exact ⟨t, .head _, n, rfl⟩
  ·obtain ⟨u, hu, m, h1⟩ := zEc h; exact ⟨u, .tail _ hu, m, h1⟩
theorem zEO {g : Gen} : ∀ {l : List Ar} {n : Nat} {c : Ca}, c ∈ zBX g l n → ∃ a ∈ l, ∃ m, c = armC g a m
 | [], _, _, h => by simp [zBX] at h
 | t :: ts, n, b, h => by
  rw [zBX] at h
  rcases List.mem_cons.1 h with rfl | h
  ·exact ⟨t, .head _, n, rfl⟩
  ·obtain ⟨u, hu, m, h1⟩ := zEO h; exact ⟨u, .tail _ hu, m, h1⟩
theorem zEa {tl : Bool} {g : Gen} : ∀ {l : List Ar} {i n : Nat} {c : Ca}, c ∈ zBN tl g i l n → ∃ a ∈ l, ∃ j m, c = ⟨a.name, zDL tl j a, zBx tl j a, (g (Zh tl j a) m).1⟩
 | [], _, _, _, h => by simp [zBN] at h
 | t :: ts, i, n, b, h => by
  rw [zBN] at h
  rcases List.mem_cons.1 h with rfl | h
  ·exact ⟨t, .head _, i, n, rfl⟩
  ·obtain ⟨u, hu, m, h1⟩ := zEa h; exact ⟨u, .tail _ hu, m, h1⟩
theorem zAw {t a : Tm} {r : List Tm} (h : t.kids = a :: r) : kid t 0 = a := by unfold kid; rw [h]; rfl
theorem zDh {t a b : Tm} {r : List Tm} (h : t.kids = a :: b :: r) : kid t 1 = b := by unfold kid; rw [h]; rfl
theorem zBg {sel tl : Bool} {g : Gen} {t : Tm} {n : Nat} (hk : t.kind = 0 ∨ t.kind = 6 ∨ t.kind = 9 ∨ t.kind = 10 ∨ t.kind = 11 ∨ t.kind = 12 ∨ t.kind = 13) : ZU sel tl g t n = (ZS (Zy sel g (t.kids.take (zq t)) n) (zCh g t n), zCt g t.arms (zBU g t n)) :=
 bodyC (by omega) (by omega) (by omega) (by omega) (fun h => by rw [zDZ] at h; omega)
theorem zAa {sel tl : Bool} {g : Gen} {t : Tm} {n : Nat} (hk : t.kind = 1 ∨ t.kind = 2 ∨ t.kind = 3 ∨ t.kind = 4) : ZU sel tl g t n = (⟨t.kind, if t.kind = 1 then t.name else [], [], if t.kind = 2 ∨ t.kind = 3 then t.n else 0, [], []⟩, n) :=
 bodyA (by omega) (by omega) (by omega) (by omega) (by rw [zDZ]; omega)
-- how large
theorem around_sz : ∀ (bl : List Bd) (c : Cd), szC (ZS bl c) = bl.length + (bl.map fun b => szC b.code).sum + szC c
 | [], c => by simp [ZS]
 | b :: bl, c => by
  rw [ZS, zBD]
  show 1 + (szC b.code + (szC (ZS bl c) + 0) + 0) = _
  rw [around_sz bl c]; simp; omega
theorem take_sz {sel : Bool} {g : Gen} : ∀ (l : List Tm) (n : Nat), (∀ u ∈ l, ∀ n, szC (g u n).1 + 2 ≤ 3 * zP u) → (Zy sel g l n).length + ((Zy sel g l n).map fun b => szC b.code).sum + zBI (ZX g l n) ≤ 3 * zQ l
 | [], n, _ => by simp [Zy, ZX, zBI, zQ]
 | t :: ts, n, h => by
  have ih := take_sz (sel := sel) ts (zCb g t n) fun u hu => h u (.tail _ hu)
  have ht := h t (.head _) n
  rw [Zy, ZX, zBI, zQ, List.length_append, List.map_append, List.sum_append]
  unfold kidB kidA
  split
  ·simp; omega
  ·have : szC (zCc (Z1 ((g t n).2 + 1))) = 1 := by rw [zBD]; rfl
   rw [this]; simp; omega
theorem seq_sz {g : Gen} : ∀ (l : List Tm) (n : Nat), (∀ u ∈ l, ∀ n, szC (g u n).1 + 2 ≤ 3 * zP u) → zBI (zBL g l n) ≤ 3 * zQ l
 | [], n, _ => by simp [zBL, zBI, zQ]
 | t :: ts, n, h => by
  have ih := seq_sz ts (g t n).2 fun u hu => h u (.tail _ hu)
  have ht := h t (.head _) n
  rw [zBL, zBI, zQ]; omega
theorem arm_sz {g : Gen} : ∀ (l : List Ar) (n : Nat), (∀ a ∈ l, ∀ n, szC (g a.body n).1 + 2 ≤ 3 * zP a.body) → zCe (zBX g l n) ≤ 3 * zp l
 | [], n, _ => by simp [zBX, zCe, zp]
 | t :: ts, n, h => by
  have ih := arm_sz ts (g t.body n).2 fun u hu => h u (.tail _ hu)
  have ht := h t (.head _) n
  rw [zBX, zBe, zy]; show szC (g t.body n).1 + _ ≤ _; omega
theorem pro_sz {tl : Bool} {g : Gen} : ∀ (l : List Ar) (i n : Nat), (∀ a ∈ l, ∀ i n, szC (g (Zh tl i a) n).1 + 2 ≤ 3 * zP a.body) → zCe (zBN tl g i l n) ≤ 3 * zp l
 | [], i, n, _ => by simp [zBN, zCe, zp]
 | t :: ts, i, n, h => by
  have ih := pro_sz ts (i + 1) (g (Zh tl i t) n).2 fun u hu => h u (.tail _ hu)
  have ht := h t (.head _) i n
  rw [zBN, zBe, zy]; show szC (g (Zh tl i t) n).1 + _ ≤ _; omega
theorem low_sz (sel tl : Bool) : ∀ (f : Nat) (t : Tm) (n : Nat), LwT t → zP t ≤ f → szC (zS sel tl f t n).1 + 2 ≤ 3 * zP t
 | 0, t, n, _, hc => by have := zk t; omega
 | f + 1, t, n, hl, hc => by
  have hce := zk t
  have hks : ∀ u ∈ t.kids, ∀ n, szC (zS sel tl f u n).1 + 2 ≤ 3 * zP u := fun u hu n => low_sz sel tl f u n (hl.kid hu) (by have := z6 hu; omega)
  have has : ∀ a ∈ t.arms, ∀ n, szC (zS sel tl f a.body n).1 + 2 ≤ 3 * zP a.body := fun a ha n => low_sz sel tl f a.body n (hl.arm ha) (by have := ZO ha; omega)
  have hps : ∀ a ∈ t.arms, ∀ i n, szC (zS sel tl f (Zh tl i a) n).1 + 2 ≤ 3 * zP a.body := fun a ha i n => by
   have h1 := zCT (tl := tl) (i := i) (hl.arm ha)
   have h2 := low_sz sel tl f (Zh tl i a) n h1.1 (by have := ZO ha; omega)
   omega
  rw [show zS sel tl (f + 1) t n = ZU sel tl (zS sel tl f) t n from rfl]
  generalize zS sel tl f = g at hks has hps
  rcases zCW hl with ⟨hk, ⟨a, b, e⟩, e2⟩ | ⟨hk, ⟨a, b, e⟩, e2⟩ | ⟨hk, a, e⟩ | ⟨hk, ⟨a, e⟩, e2⟩ | ⟨hk, e, e2⟩ | hc
  ·rw [zEi hk, zAw e, zDh e, zBD]; rw [e] at hce hks
   have h1 := hks a (.head _) n; have h2 := hks b (.tail _ (.head _)) (g a n).2
   show 1 + (szC (g a n).1 + (szC (g b (g a n).2).1 + 0) + 0) + 2 ≤ _
   simp only [zQ] at hce; omega
  ·rw [zEe hk, zAw e, zDh e, zBD]; rw [e] at hce hks
   have h1 := hks a (.head _) n; have h2 := hks b (.tail _ (.head _)) (g a n).2
   show 1 + (szC (g a n).1 + (szC (g b (g a n).2).1 + 0) + 0) + 2 ≤ _
   simp only [zQ] at hce; omega
  ·rw [zBh hk, zAw e, zBD]; rw [e] at hce hks
   have h1 := hks a (.head _) n; have h2 := pro_sz t.arms 0 (g a n).2 hps
   show 1 + ((szC (g a n).1 + 0) + zCe (zBN tl g 0 t.arms (g a n).2)) + 2 ≤ _
   simp only [zQ] at hce; omega
  ·rw [zDr hk, zAw e, zBD]; rw [e] at hce hks
   have h1 := hks a (.head _) n
   show 1 + ((szC (g a n).1 + 0) + 0) + 2 ≤ _
   simp only [zQ] at hce; omega
  ·rw [zAa hk, zBD]; show 1 + (0 + 0) + 2 ≤ _; omega
  ·rw [zBg (by rcases hc with ⟨h, _⟩ | ⟨h, _⟩ <;> omega)]
   dsimp only
   rw [around_sz, zBD]
   have h1 := take_sz (sel := sel) (t.kids.take (zq t)) n fun u hu => hks u (List.mem_of_mem_take hu)
   have h2 := seq_sz (t.kids.drop (zq t)) (Zz g (t.kids.take (zq t)) n) fun u hu => hks u (List.mem_of_mem_drop hu)
   have h3 := arm_sz t.arms (zBU g t n) has
   have h4 := zAk t.kids (zq t)
   have h5 : ∀ (l k : List Cd), zBI (l ++ k) = zBI l + zBI k := fun l k => by
    induction l with
    | nil => simp [zBI]
    | cons x l ih => simp only [List.cons_append, zBI, ih]; omega
   have h6 : zBI (zCh g t n).kids = zBI (ZX g (t.kids.take (zq t)) n) + zBI (zBL g (t.kids.drop (zq t)) (Zz g (t.kids.take (zq t)) n)) := h5 _ _
   have h7 : zCe (zCh g t n).arms = zCe (zBX g t.arms (zBU g t n)) := rfl
   omega
-- what is counted
end Go.Proofs.YtmdhhjmomilhjaaDoor
namespace Go.Proofs.YtmdhhjmomilhjaaDoor
open Go.Proofs.Tryd
set_option linter.all false
set_option maxRecDepth 4000
open Go.RowKit
abbrev lets_G (t : Cd) : Prop := ∀ {w : World} {m : Mem} {vs_t : List Value} (hA : Agree w m) (h_t : CdR m t vs_t) (h : LtC t), FnV Tryd.prog 22 #[.agg vs_t.toArray] w m (fun _ _ v => v = .bool true)
set_option maxHeartbeats 800000 in
theorem lets_s {t : Cd} (ihk : ∀ u ∈ t.kids, lets_G u) (iha : ∀ a ∈ t.arms, lets_G a.body) {w : World} {m : Mem} {vs_t : List Value} (hA : Agree w m) (h_t : CdR m t vs_t) (h : LtC t) : FnV Tryd.prog 22 #[.agg vs_t.toArray] w m (fun _ _ v => v = .bool true) := by
 obtain ⟨⟨oK_t, cK_t, oA_t, cA_t⟩, rfl, ⟨hik_t, hin_t⟩, hkk_t, haa_t⟩ := h_t.open_
 dsimp only at hkk_t haa_t
 have hbg_t := hkk_t.big; have hcp_t := hkk_t.cap; have hbh_t := haa_t.big; have hcq_t := haa_t.cap
 refine zW (vs := [_]) func22 rfl rfl rfl fun a0 hfr0 => ?_
 have hst0 := zV hA (zh [] _ w m)
 have hM : MLe m m := MLe.refl m
 refine zB fun _ hK1 => ?_
 refine rp0 hst0 hfr0 (.cons rfl (z1 rfl rfl) <| .cons rfl (zC rfl) <| .nil) fun a1 w1 m1 hst1 hle1 hk1 => ?_
 have hfr1 := hk1.fr (.nil)
 obtain ⟨g2, e2, hc1⟩ := hk1.ex 1 rfl
 replace hfr1 := hfr1.cons e2
 replace h_t := h_t.mono hle1
 replace hkk_t := hkk_t.mono hle1
 replace haa_t := haa_t.mono hle1
 clear hst0 hfr0 hk1
 refine hK1 _ _ ?_
 refine zB fun _ hK3 => ?_
 refine zB fun _ hK4 => ?_
 rcases Int.decEq t.kind 7 with hk7 | hk7
 ·skip
  refine rp0 hst1 hfr1 (.cons rfl (zA (off := 0) rfl underlying46 rfl rfl sizeOf3 rfl) <| .cons rfl (zE rfl hc1 isAgg3 rfl) <| .cons rfl (zZ rfl rfl) <| .cons rfl (zD rfl) <| .cons rfl (zn (κ := .eq (.bool false)) (b := true) 10 rfl rfl (fun h => by first | (simp at h; omega) | omega | (simp_all; done) | (simp_all; omega))) <| .cons rfl (zn (κ := .eq (.bool false)) (b := true) 10 rfl rfl (fun h => by first | (simp at h; omega) | omega | (simp_all; done) | (simp_all; omega))) <| .cons rfl (zn (κ := .eq (.bool false)) (b := true) 10 rfl rfl (fun h => by first | (simp at h; omega) | omega | (simp_all; done) | (simp_all; omega))) <| .cons rfl (zn (κ := .eq (.bool false)) (b := true) 10 rfl rfl (fun h => by first | (simp at h; omega) | omega | (simp_all; done) | (simp_all; omega))) <| .cons rfl (zn (κ := .eq (.bool false)) (b := true) 10 rfl rfl (fun h => by first | (simp at h; omega) | omega | (simp_all; done) | (simp_all; omega))) <| .cons rfl (zn (κ := .eq (.bool false)) (b := true) 10 rfl rfl (fun h => by first | (simp at h; omega) | omega | (simp_all; done) | (simp_all; omega))) <| .cons rfl (zn (κ := .eq (.bool true)) (b := true) 10 rfl rfl (fun h => by first | (simp at h; omega) | omega | (simp_all; done) | (simp_all; omega))) <| .cons rfl (zn (κ := .eq (.bool false)) (b := false) 17 rfl rfl (fun h => by first | (simp at h; omega) | omega | (simp_all; done) | (simp_all; omega))) <| .cons rfl (zn (κ := .eq (.bool false)) (b := false) 17 rfl rfl (fun h => by first | (simp at h; omega) | omega | (simp_all; done) | (simp_all; omega))) <| .cons rfl (zn (κ := .eq (.bool false)) (b := false) 17 rfl rfl (fun h => by first | (simp at h; omega) | omega | (simp_all; done) | (simp_all; omega))) <| .cons rfl (zn (κ := .eq (.bool false)) (b := false) 17 rfl rfl (fun h => by first | (simp at h; omega) | omega | (simp_all; done) | (simp_all; omega))) <| .cons rfl (zn (κ := .eq (.bool false)) (b := false) 17 rfl rfl (fun h => by first | (simp at h; omega) | omega | (simp_all; done) | (simp_all; omega))) <| .cons rfl (zn (κ := .eq (.bool false)) (b := false) 17 rfl rfl (fun h => by first | (simp at h; omega) | omega | (simp_all; done) | (simp_all; omega))) <| .cons rfl (zn (κ := .eq (.bool false)) (b := true) 10 rfl rfl (fun h => by first | (simp at h; omega) | omega | (simp_all; done) | (simp_all; omega))) <| .cons rfl (ZM rfl rfl rfl) <| .nil) fun a2 w2 m2 hst2 hle2 hk2 => ?_
  have hfr2 := hk2.fr (.o 1 <| .n 25 <| .nil)
  clear hst1 hfr1 hk2
  refine hK4 _ _ ?_
  refine zF hfr2 rfl rfl (fun hb25 => ?_) (fun hb25 => ?_)
  ·exfalso; simp at hb25 <;> omega
  ·try simp only [nqs] at hb25
   refine zJ ?_
   refine hK3 _ _ ?_
   refine zB fun _ hK5 => ?_
   refine zB fun _ hK6 => ?_
   refine rp0 hst2 hfr2 (.cons rfl (zC rfl) <| .nil) fun a3 w3 m3 hst3 hle3 hk3 => ?_
   have hfr3 := hk3.fr (.o 1 <| .n 3 <| .nil)
   clear hst2 hfr2 hk3
   refine hK6 _ _ ?_
   refine zK ?_
   refine ze (T := [(1, _)]) (fun (y : Nat) => ([(3, .int .i64 (y : Int))] : List (Nat × Value))) (fun _ => _) (fun (y : Nat) m => (y ≤ t.kids.length)) (fun y => t.kids.length - y) (0) ⟨hst3, MLe.refl _, hfr3.sub (.c <| .c <| .nil), Nat.zero_le _⟩ fun y a4 w4 m4 hh4 => ?_
   have hst4 := hh4.st; have hle4 := hh4.le; have hfr4 := hh4.fr; have hrel := hh4.rel; clear hh4
   clear hst3 hfr3
   have hyn := hrel
   have hlh4 := hle4
   refine zB fun _ hK8 => ?_
   refine zB fun _ hK9 => ?_
   have zq1 := hle3.trans hle4
   have zq2 := hle2.trans zq1
   replace hc1 := hc1.mono zq2
   refine rp0 hst4 hfr4 (.cons rfl (zD rfl) <| .cons rfl (zA (off := 4) rfl underlying46 rfl rfl sizeOf43 rfl) <| .cons rfl (zE rfl hc1 isAgg43 rfl) <| .cons rfl (zY rfl underlying43) <| .cons rfl (zw rfl rfl) <| .nil) fun a5 w5 m5 hst5 hle5 hk5 => ?_
   have hfr5 := hk5.fr (.o 3 <| .o 1 <| .n 30 <| .nil)
   clear hst4 hfr4 hk5
   refine hK9 _ _ ?_
   refine zF hfr5 rfl rfl (fun hb30 => ?_) (fun hb30 => ?_)
   ·try simp only [nqs] at hb30
    refine zJ ?_
    refine hK8 _ _ ?_
    refine zB fun _ hK10 => ?_
    refine zK ?_
    refine zB fun _ hK11 => ?_
    have zq3 := zq2.trans hle5
    replace hkk_t := hkk_t.mono zq3
    obtain ⟨p12, vs12, x12, ho12, hd12, hm_x12, ht12, hcv12, hl12, hv12⟩ := hkk_t.nth (k := y) (by omega)
    cases ho12
    obtain ⟨⟨oK12, cK12, oA12, cA12⟩, rfl, ⟨hik12, hin12⟩, hkk12, haa12⟩ := hv12.open_
    dsimp only at hkk12 haa12
    have hbg12 := hkk12.big; have hcp12 := hkk12.cap; have hbh12 := haa12.big; have hcq12 := haa12.cap
    replace h_t := h_t.mono zq3
    replace haa_t := haa_t.mono zq3
    replace hc1 := hc1.mono hle5
    refine rp0 hst5 hfr5 (.cons rfl (zA (off := 4) rfl underlying46 rfl rfl sizeOf43 rfl) <| .cons rfl (zE rfl hc1 isAgg43 rfl) <| .cons rfl (zD rfl) <| .cons rfl (zH (k := y) rfl rfl underlying43 sizeOf46 rfl (by omega)) <| .cons rfl (zN rfl hcv12 isAgg46 sizeOf46 rfl rfl) <| .cons rfl (za rfl (.cons rfl <| .nil) call22 (fun w m hK => by have hle_ := KC.le hK; have hA := KC.agree hK; have h_t := h_t.mono hle_; have hkk_t := hkk_t.mono hle_; have haa_t := haa_t.mono hle_; have hc1 := hc1.mono hle_; have hcv12 := hcv12.mono hle_; have hv12 := hv12.mono hle_; have hkk12 := hkk12.mono hle_; have haa12 := haa12.mono hle_; exact ihk _ (by assumption) hA hv12 (h.kid (by assumption)))) <| .cons rfl (zC rfl) <| .nil) fun a6 w6 m6 hst6 hle6 hk6 => ?_
    have hfr6 := hk6.fr (.o 3 <| .o 1 <| .n 4 <| .nil)
    clear hst5 hfr5 hk6
    refine hK11 _ _ ?_
    refine zB fun _ hK13 => ?_
    refine rp0 hst6 hfr6 (.cons rfl (zD rfl) <| .cons rfl (Zg rfl) <| .nil) fun a7 w7 m7 hst7 hle7 hk7 => ?_
    have hfr7 := hk7.fr (.o 3 <| .o 1 <| .n 40 <| .nil)
    clear hst6 hfr6 hk7
    refine hK13 _ _ ?_
    refine zF hfr7 rfl rfl (fun hb40 => ?_) (fun hb40 => ?_)
    ·simp at hb40
    ·try simp only [nqs] at hb40
     refine zJ ?_
     refine hK10 _ _ ?_
     refine rp0 hst7 hfr7 (.cons rfl (zD rfl) <| .cons rfl (zi rfl rfl ⟨by omega, by omega⟩) <| .cons rfl (zC rfl) <| .nil) fun a8 w8 m8 hst8 hle8 hk8 => ?_
     have hfr8 := hk8.fr (.o 1 <| .n 3 <| .nil)
     clear hst7 hfr7 hk8
     have zq4 := hle7.trans hle8
     have zq5 := hle6.trans zq4
     have zq6 := hle5.trans zq5
     have hlh8 := hlh4.trans zq6
     exact ⟨y + 1, m8, by show t.kids.length - (y + 1) < t.kids.length - y; omega, ⟨hst8, hlh8, hfr8.sub (.c <| .c <| .nil), by show y + 1 ≤ t.kids.length; omega⟩⟩
   ·try simp only [nqs] at hb30
    have hge : y = t.kids.length := by omega
    refine zf ?_
    refine hK5 _ _ ?_
    refine zB fun _ hK14 => ?_
    refine zB fun _ hK15 => ?_
    refine rp0 hst5 hfr5 (.cons rfl (zC rfl) <| .nil) fun a6 w6 m6 hst6 hle6 hk6 => ?_
    have hfr6 := hk6.fr (.o 3 <| .o 1 <| .n 5 <| .nil)
    clear hst5 hfr5 hk6
    refine hK15 _ _ ?_
    refine zK ?_
    have zq7 := hle5.trans hle6
    have hlh6 := hlh4.trans zq7
    have hlq16 := hlh6
    refine ze (T := [(3, _), (1, _)]) (fun (y : Nat) => ([(5, .int .i64 (y : Int))] : List (Nat × Value))) (fun _ => _) (fun (y : Nat) m => (y ≤ t.arms.length)) (fun y => t.arms.length - y) (0) ⟨hst6, MLe.refl _, hfr6.sub (.c <| .c <| .c <| .nil), Nat.zero_le _⟩ fun y a7 w7 m7 hh7 => ?_
    have hst7 := hh7.st; have hle7 := hh7.le; have hfr7 := hh7.fr; have hrel := hh7.rel; clear hh7
    clear hst6 hfr6
    have hyn := hrel
    have hlh7 := hle7
    refine zB fun _ hK17 => ?_
    refine zB fun _ hK18 => ?_
    have zq8 := zq7.trans hle7
    replace hc1 := hc1.mono zq8
    refine rp0 hst7 hfr7 (.cons rfl (zD rfl) <| .cons rfl (zA (off := 5) rfl underlying46 rfl rfl sizeOf44 rfl) <| .cons rfl (zE rfl hc1 isAgg44 rfl) <| .cons rfl (zY rfl underlying44) <| .cons rfl (zw rfl rfl) <| .nil) fun a8 w8 m8 hst8 hle8 hk8 => ?_
    have hfr8 := hk8.fr (.o 5 <| .o 3 <| .o 1 <| .n 45 <| .nil)
    clear hst7 hfr7 hk8
    refine hK18 _ _ ?_
    refine zF hfr8 rfl rfl (fun hb45 => ?_) (fun hb45 => ?_)
    ·try simp only [nqs] at hb45
     refine zJ ?_
     refine hK17 _ _ ?_
     refine zB fun _ hK19 => ?_
     refine zK ?_
     refine zB fun _ hK20 => ?_
     have zq9 := zq8.trans hle8
     have zq10 := zq2.trans zq9
     replace haa_t := haa_t.mono zq10
     obtain ⟨p21, vs21, x21, ho21, hd21, hm_x21, ht21, hcv21, hl21, hv21⟩ := haa_t.nth (k := y) (by omega)
     cases ho21
     obtain ⟨oV21, cV21, bs21, rfl, hva21, hbd21⟩ := hv21.open_
     have hbv21 := hva21.big; have hcv21_ := hva21.cap
     obtain ⟨⟨oK21b, cK21b, oA21b, cA21b⟩, rfl, ⟨hik21b, hin21b⟩, hkk21b, haa21b⟩ := hbd21.open_
     dsimp only at hkk21b haa21b
     have hbg21b := hkk21b.big; have hcp21b := hkk21b.cap; have hbh21b := haa21b.big; have hcq21b := haa21b.cap
     replace h_t := h_t.mono zq10
     replace hkk_t := hkk_t.mono zq10
     replace hc1 := hc1.mono hle8
     refine rp0 hst8 hfr8 (.cons rfl (zA (off := 5) rfl underlying46 rfl rfl sizeOf44 rfl) <| .cons rfl (zE rfl hc1 isAgg44 rfl) <| .cons rfl (zD rfl) <| .cons rfl (zH (k := y) rfl rfl underlying44 sizeOf78 rfl (by omega)) <| .cons rfl (zA (off := 3) rfl underlying78 rfl rfl sizeOf46 rfl) <| .cons rfl (Zi rfl hcv21 isAgg46 sizeOf46 rfl rfl) <| .cons rfl (za rfl (.cons rfl <| .nil) call22 (fun w m hK => by have hle_ := KC.le hK; have hA := KC.agree hK; have h_t := h_t.mono hle_; have hkk_t := hkk_t.mono hle_; have haa_t := haa_t.mono hle_; have hc1 := hc1.mono hle_; have hcv21 := hcv21.mono hle_; have hv21 := hv21.mono hle_; have hva21 := hva21.mono hle_; have hbd21 := hbd21.mono hle_; have hkk21b := hkk21b.mono hle_; have haa21b := haa21b.mono hle_; exact iha _ (by assumption) hA hbd21 (h.arm (by assumption)))) <| .cons rfl (zC rfl) <| .nil) fun a9 w9 m9 hst9 hle9 hk9 => ?_
     have hfr9 := hk9.fr (.o 5 <| .o 3 <| .o 1 <| .n 6 <| .nil)
     clear hst8 hfr8 hk9
     refine hK20 _ _ ?_
     refine zB fun _ hK22 => ?_
     refine rp0 hst9 hfr9 (.cons rfl (zD rfl) <| .cons rfl (Zg rfl) <| .nil) fun a10 w10 m10 hst10 hle10 hk10 => ?_
     have hfr10 := hk10.fr (.o 5 <| .o 3 <| .o 1 <| .n 56 <| .nil)
     clear hst9 hfr9 hk10
     refine hK22 _ _ ?_
     refine zF hfr10 rfl rfl (fun hb56 => ?_) (fun hb56 => ?_)
     ·simp at hb56
     ·try simp only [nqs] at hb56
      refine zJ ?_
      refine hK19 _ _ ?_
      refine rp0 hst10 hfr10 (.cons rfl (zD rfl) <| .cons rfl (zi rfl rfl ⟨by omega, by omega⟩) <| .cons rfl (zC rfl) <| .nil) fun a11 w11 m11 hst11 hle11 hk11 => ?_
      have hfr11 := hk11.fr (.o 3 <| .o 1 <| .n 5 <| .nil)
      clear hst10 hfr10 hk11
      have zq11 := hle10.trans hle11
      have zq12 := hle9.trans zq11
      have zq13 := hle8.trans zq12
      have hlh11 := hlh7.trans zq13
      exact ⟨y + 1, m11, by show t.arms.length - (y + 1) < t.arms.length - y; omega, ⟨hst11, hlh11, hfr11.sub (.c <| .c <| .c <| .nil), by show y + 1 ≤ t.arms.length; omega⟩⟩
    ·try simp only [nqs] at hb45
     have hge : y = t.arms.length := by omega
     refine zf ?_
     refine hK14 _ _ ?_
     refine zB fun _ hK23 => ?_
     refine rp0 hst8 hfr8 (.cons rfl (zC rfl) <| .nil) fun a9 w9 m9 hst9 hle9 hk9 => ?_
     have hfr9 := hk9.fr (.o 5 <| .o 3 <| .n 2 <| .nil)
     clear hst8 hfr8 hk9
     refine hK23 _ _ ?_
     refine zL ?_
     repeat (with_reducible first | refine zI ?_ | refine zG ?_)
     exact zM hst9 hfr9 rfl (.tmp rfl <| .nil) (rfl)
 ·skip
  obtain ⟨u9, r9, hu9, ha9⟩ := h.here hk7
  have hl9 : 1 ≤ t.kids.length := by rw [hu9]; simp
  obtain ⟨p25, vs25, x25, ho25, hd25, hm_x25, ht25, hcv25, hl25, hv25⟩ := hkk_t.nth (k := 0) (by omega)
  cases ho25
  obtain ⟨⟨oK25, cK25, oA25, cA25⟩, rfl, ⟨hik25, hin25⟩, hkk25, haa25⟩ := hv25.open_
  dsimp only at hkk25 haa25
  have hbg25 := hkk25.big; have hcp25 := hkk25.cap; have hbh25 := haa25.big; have hcq25 := haa25.cap
  have hx9 : x25 = u9 := zDF hd25 (by rw [hu9]; rfl)
  rw [← hx9] at ha9
  refine rp0 hst1 hfr1 (.cons rfl (zA (off := 0) rfl underlying46 rfl rfl sizeOf3 rfl) <| .cons rfl (zE rfl hc1 isAgg3 rfl) <| .cons rfl (zZ rfl rfl) <| .cons rfl (zD rfl) <| .cons rfl (zA (off := 4) rfl underlying46 rfl rfl sizeOf43 rfl) <| .cons rfl (zE rfl hc1 isAgg43 rfl) <| .cons rfl (zH (k := 0) rfl rfl underlying43 sizeOf46 rfl (by omega)) <| .cons rfl (zA (off := 0) rfl underlying46 rfl rfl sizeOf3 rfl) <| .cons rfl (zE rfl hcv25 isAgg3 rfl) <| .cons rfl (zw rfl rfl) <| .cons rfl (zD rfl) <| .cons rfl (zA (off := 4) rfl underlying46 rfl rfl sizeOf43 rfl) <| .cons rfl (zE rfl hc1 isAgg43 rfl) <| .cons rfl (zH (k := 0) rfl rfl underlying43 sizeOf46 rfl (by omega)) <| .cons rfl (zA (off := 0) rfl underlying46 rfl rfl sizeOf3 rfl) <| .cons rfl (zE rfl hcv25 isAgg3 rfl) <| .cons rfl (zAs rfl rfl) <| .cons rfl (ZB rfl rfl rfl) <| .cons rfl (ZM rfl rfl rfl) <| .nil) fun a2 w2 m2 hst2 hle2 hk2 => ?_
  have hfr2 := hk2.fr (.o 1 <| .n 25 <| .nil)
  clear hst1 hfr1 hk2
  refine hK4 _ _ ?_
  refine zF hfr2 rfl rfl (fun hb25 => ?_) (fun hb25 => ?_)
  ·exfalso; unfold isAt at ha9; simp at hb25; omega
  ·try simp only [nqs] at hb25
   refine zJ ?_
   refine hK3 _ _ ?_
   refine zB fun _ hK26 => ?_
   refine zB fun _ hK27 => ?_
   refine rp0 hst2 hfr2 (.cons rfl (zC rfl) <| .nil) fun a3 w3 m3 hst3 hle3 hk3 => ?_
   have hfr3 := hk3.fr (.o 1 <| .n 3 <| .nil)
   clear hst2 hfr2 hk3
   refine hK27 _ _ ?_
   refine zK ?_
   refine ze (T := [(1, _)]) (fun (y : Nat) => ([(3, .int .i64 (y : Int))] : List (Nat × Value))) (fun _ => _) (fun (y : Nat) m => (y ≤ t.kids.length)) (fun y => t.kids.length - y) (0) ⟨hst3, MLe.refl _, hfr3.sub (.c <| .c <| .nil), Nat.zero_le _⟩ fun y a4 w4 m4 hh4 => ?_
   have hst4 := hh4.st; have hle4 := hh4.le; have hfr4 := hh4.fr; have hrel := hh4.rel; clear hh4
   clear hst3 hfr3
   have hyn := hrel
   have hlh4 := hle4
   refine zB fun _ hK29 => ?_
   refine zB fun _ hK30 => ?_
   have zq14 := hle3.trans hle4
   have zq15 := hle2.trans zq14
   replace hc1 := hc1.mono zq15
   refine rp0 hst4 hfr4 (.cons rfl (zD rfl) <| .cons rfl (zA (off := 4) rfl underlying46 rfl rfl sizeOf43 rfl) <| .cons rfl (zE rfl hc1 isAgg43 rfl) <| .cons rfl (zY rfl underlying43) <| .cons rfl (zw rfl rfl) <| .nil) fun a5 w5 m5 hst5 hle5 hk5 => ?_
   have hfr5 := hk5.fr (.o 3 <| .o 1 <| .n 30 <| .nil)
   clear hst4 hfr4 hk5
   refine hK30 _ _ ?_
   refine zF hfr5 rfl rfl (fun hb30 => ?_) (fun hb30 => ?_)
   ·try simp only [nqs] at hb30
    refine zJ ?_
    refine hK29 _ _ ?_
    refine zB fun _ hK31 => ?_
    refine zK ?_
    refine zB fun _ hK32 => ?_
    have zq16 := zq15.trans hle5
    replace hkk_t := hkk_t.mono zq16
    obtain ⟨p33, vs33, x33, ho33, hd33, hm_x33, ht33, hcv33, hl33, hv33⟩ := hkk_t.nth (k := y) (by omega)
    cases ho33
    obtain ⟨⟨oK33, cK33, oA33, cA33⟩, rfl, ⟨hik33, hin33⟩, hkk33, haa33⟩ := hv33.open_
    dsimp only at hkk33 haa33
    have hbg33 := hkk33.big; have hcp33 := hkk33.cap; have hbh33 := haa33.big; have hcq33 := haa33.cap
    replace h_t := h_t.mono zq16
    replace haa_t := haa_t.mono zq16
    replace hcv25 := hcv25.mono zq16
    replace hv25 := hv25.mono zq16
    replace hkk25 := hkk25.mono zq16
    replace haa25 := haa25.mono zq16
    replace hc1 := hc1.mono hle5
    refine rp0 hst5 hfr5 (.cons rfl (zA (off := 4) rfl underlying46 rfl rfl sizeOf43 rfl) <| .cons rfl (zE rfl hc1 isAgg43 rfl) <| .cons rfl (zD rfl) <| .cons rfl (zH (k := y) rfl rfl underlying43 sizeOf46 rfl (by omega)) <| .cons rfl (zN rfl hcv33 isAgg46 sizeOf46 rfl rfl) <| .cons rfl (za rfl (.cons rfl <| .nil) call22 (fun w m hK => by have hle_ := KC.le hK; have hA := KC.agree hK; have h_t := h_t.mono hle_; have hkk_t := hkk_t.mono hle_; have haa_t := haa_t.mono hle_; have hc1 := hc1.mono hle_; have hcv25 := hcv25.mono hle_; have hv25 := hv25.mono hle_; have hkk25 := hkk25.mono hle_; have haa25 := haa25.mono hle_; have hcv33 := hcv33.mono hle_; have hv33 := hv33.mono hle_; have hkk33 := hkk33.mono hle_; have haa33 := haa33.mono hle_; exact ihk _ (by assumption) hA hv33 (h.kid (by assumption)))) <| .cons rfl (zC rfl) <| .nil) fun a6 w6 m6 hst6 hle6 hk6 => ?_
    have hfr6 := hk6.fr (.o 3 <| .o 1 <| .n 4 <| .nil)
    clear hst5 hfr5 hk6
    refine hK32 _ _ ?_
    refine zB fun _ hK34 => ?_
    refine rp0 hst6 hfr6 (.cons rfl (zD rfl) <| .cons rfl (Zg rfl) <| .nil) fun a7 w7 m7 hst7 hle7 hk7 => ?_
    have hfr7 := hk7.fr (.o 3 <| .o 1 <| .n 40 <| .nil)
    clear hst6 hfr6 hk7
    refine hK34 _ _ ?_
    refine zF hfr7 rfl rfl (fun hb40 => ?_) (fun hb40 => ?_)
    ·simp at hb40
    ·try simp only [nqs] at hb40
     refine zJ ?_
     refine hK31 _ _ ?_
     refine rp0 hst7 hfr7 (.cons rfl (zD rfl) <| .cons rfl (zi rfl rfl ⟨by omega, by omega⟩) <| .cons rfl (zC rfl) <| .nil) fun a8 w8 m8 hst8 hle8 hk8 => ?_
     have hfr8 := hk8.fr (.o 1 <| .n 3 <| .nil)
     clear hst7 hfr7 hk8
     have zq17 := hle7.trans hle8
     have zq18 := hle6.trans zq17
     have zq19 := hle5.trans zq18
     have hlh8 := hlh4.trans zq19
     exact ⟨y + 1, m8, by show t.kids.length - (y + 1) < t.kids.length - y; omega, ⟨hst8, hlh8, hfr8.sub (.c <| .c <| .nil), by show y + 1 ≤ t.kids.length; omega⟩⟩
   ·try simp only [nqs] at hb30
    have hge : y = t.kids.length := by omega
    refine zf ?_
    refine hK26 _ _ ?_
    refine zB fun _ hK35 => ?_
    refine zB fun _ hK36 => ?_
    refine rp0 hst5 hfr5 (.cons rfl (zC rfl) <| .nil) fun a6 w6 m6 hst6 hle6 hk6 => ?_
    have hfr6 := hk6.fr (.o 3 <| .o 1 <| .n 5 <| .nil)
    clear hst5 hfr5 hk6
    refine hK36 _ _ ?_
    refine zK ?_
    have zq20 := hle5.trans hle6
    have hlh6 := hlh4.trans zq20
    have hlq37 := hlh6
    refine ze (T := [(3, _), (1, _)]) (fun (y : Nat) => ([(5, .int .i64 (y : Int))] : List (Nat × Value))) (fun _ => _) (fun (y : Nat) m => (y ≤ t.arms.length)) (fun y => t.arms.length - y) (0) ⟨hst6, MLe.refl _, hfr6.sub (.c <| .c <| .c <| .nil), Nat.zero_le _⟩ fun y a7 w7 m7 hh7 => ?_
    have hst7 := hh7.st; have hle7 := hh7.le; have hfr7 := hh7.fr; have hrel := hh7.rel; clear hh7
    clear hst6 hfr6
    have hyn := hrel
    have hlh7 := hle7
    refine zB fun _ hK38 => ?_
    refine zB fun _ hK39 => ?_
    have zq21 := zq20.trans hle7
    replace hc1 := hc1.mono zq21
    refine rp0 hst7 hfr7 (.cons rfl (zD rfl) <| .cons rfl (zA (off := 5) rfl underlying46 rfl rfl sizeOf44 rfl) <| .cons rfl (zE rfl hc1 isAgg44 rfl) <| .cons rfl (zY rfl underlying44) <| .cons rfl (zw rfl rfl) <| .nil) fun a8 w8 m8 hst8 hle8 hk8 => ?_
    have hfr8 := hk8.fr (.o 5 <| .o 3 <| .o 1 <| .n 45 <| .nil)
    clear hst7 hfr7 hk8
    refine hK39 _ _ ?_
    refine zF hfr8 rfl rfl (fun hb45 => ?_) (fun hb45 => ?_)
    ·try simp only [nqs] at hb45
     refine zJ ?_
     refine hK38 _ _ ?_
     refine zB fun _ hK40 => ?_
     refine zK ?_
     refine zB fun _ hK41 => ?_
     have zq22 := zq21.trans hle8
     have zq23 := zq15.trans zq22
     replace haa_t := haa_t.mono zq23
     obtain ⟨p42, vs42, x42, ho42, hd42, hm_x42, ht42, hcv42, hl42, hv42⟩ := haa_t.nth (k := y) (by omega)
     cases ho42
     obtain ⟨oV42, cV42, bs42, rfl, hva42, hbd42⟩ := hv42.open_
     have hbv42 := hva42.big; have hcv42_ := hva42.cap
     obtain ⟨⟨oK42b, cK42b, oA42b, cA42b⟩, rfl, ⟨hik42b, hin42b⟩, hkk42b, haa42b⟩ := hbd42.open_
     dsimp only at hkk42b haa42b
     have hbg42b := hkk42b.big; have hcp42b := hkk42b.cap; have hbh42b := haa42b.big; have hcq42b := haa42b.cap
     replace h_t := h_t.mono zq23
     replace hkk_t := hkk_t.mono zq23
     replace hcv25 := hcv25.mono zq23
     replace hv25 := hv25.mono zq23
     replace hkk25 := hkk25.mono zq23
     replace haa25 := haa25.mono zq23
     replace hc1 := hc1.mono hle8
     refine rp0 hst8 hfr8 (.cons rfl (zA (off := 5) rfl underlying46 rfl rfl sizeOf44 rfl) <| .cons rfl (zE rfl hc1 isAgg44 rfl) <| .cons rfl (zD rfl) <| .cons rfl (zH (k := y) rfl rfl underlying44 sizeOf78 rfl (by omega)) <| .cons rfl (zA (off := 3) rfl underlying78 rfl rfl sizeOf46 rfl) <| .cons rfl (Zi rfl hcv42 isAgg46 sizeOf46 rfl rfl) <| .cons rfl (za rfl (.cons rfl <| .nil) call22 (fun w m hK => by have hle_ := KC.le hK; have hA := KC.agree hK; have h_t := h_t.mono hle_; have hkk_t := hkk_t.mono hle_; have haa_t := haa_t.mono hle_; have hc1 := hc1.mono hle_; have hcv25 := hcv25.mono hle_; have hv25 := hv25.mono hle_; have hkk25 := hkk25.mono hle_; have haa25 := haa25.mono hle_; have hcv42 := hcv42.mono hle_; have hv42 := hv42.mono hle_; have hva42 := hva42.mono hle_; have hbd42 := hbd42.mono hle_; have hkk42b := hkk42b.mono hle_; have haa42b := haa42b.mono hle_; exact iha _ (by assumption) hA hbd42 (h.arm (by assumption)))) <| .cons rfl (zC rfl) <| .nil) fun a9 w9 m9 hst9 hle9 hk9 => ?_
     have hfr9 := hk9.fr (.o 5 <| .o 3 <| .o 1 <| .n 6 <| .nil)
     clear hst8 hfr8 hk9
     refine hK41 _ _ ?_
     refine zB fun _ hK43 => ?_
     refine rp0 hst9 hfr9 (.cons rfl (zD rfl) <| .cons rfl (Zg rfl) <| .nil) fun a10 w10 m10 hst10 hle10 hk10 => ?_
     have hfr10 := hk10.fr (.o 5 <| .o 3 <| .o 1 <| .n 56 <| .nil)
     clear hst9 hfr9 hk10
     refine hK43 _ _ ?_
     refine zF hfr10 rfl rfl (fun hb56 => ?_) (fun hb56 => ?_)
     ·simp at hb56
     ·try simp only [nqs] at hb56
      refine zJ ?_
      refine hK40 _ _ ?_
      refine rp0 hst10 hfr10 (.cons rfl (zD rfl) <| .cons rfl (zi rfl rfl ⟨by omega, by omega⟩) <| .cons rfl (zC rfl) <| .nil) fun a11 w11 m11 hst11 hle11 hk11 => ?_
      have hfr11 := hk11.fr (.o 3 <| .o 1 <| .n 5 <| .nil)
      clear hst10 hfr10 hk11
      have zq24 := hle10.trans hle11
      have zq25 := hle9.trans zq24
      have zq26 := hle8.trans zq25
      have hlh11 := hlh7.trans zq26
      exact ⟨y + 1, m11, by show t.arms.length - (y + 1) < t.arms.length - y; omega, ⟨hst11, hlh11, hfr11.sub (.c <| .c <| .c <| .nil), by show y + 1 ≤ t.arms.length; omega⟩⟩
    ·try simp only [nqs] at hb45
     have hge : y = t.arms.length := by omega
     refine zf ?_
     refine hK35 _ _ ?_
     refine zB fun _ hK44 => ?_
     refine rp0 hst8 hfr8 (.cons rfl (zC rfl) <| .nil) fun a9 w9 m9 hst9 hle9 hk9 => ?_
     have hfr9 := hk9.fr (.o 5 <| .o 3 <| .n 2 <| .nil)
     clear hst8 hfr8 hk9
     refine hK44 _ _ ?_
     refine zL ?_
     repeat (with_reducible first | refine zI ?_ | refine zG ?_)
     exact zM hst9 hfr9 rfl (.tmp rfl <| .nil) (rfl)
theorem lets_c (t : Cd) : lets_G t := Cd.rec_ (p := lets_G) (fun t ihk iha => lets_s ihk iha) t
abbrev zDP (t : Cd) : Prop := ∀ {w : World} {m : Mem} {vs_t : List Value} (hA : Agree w m) (h_t : CdR m t vs_t) (hb : szC t ≤ 1000000000), FnV Tryd.prog 23 #[.agg vs_t.toArray] w m (fun _ m v => (MP.cd (bdC t)).p m v)
set_option maxHeartbeats 1600000 in
theorem boundC_s {t : Cd} (ihk : ∀ u ∈ t.kids, zDP u) (iha : ∀ a ∈ t.arms, zDP a.body) {w : World} {m : Mem} {vs_t : List Value} (hA : Agree w m) (h_t : CdR m t vs_t) (hb : szC t ≤ 1000000000) : FnV Tryd.prog 23 #[.agg vs_t.toArray] w m (fun _ m v => (MP.cd (bdC t)).p m v) := by
 obtain ⟨⟨oK_t, cK_t, oA_t, cA_t⟩, rfl, ⟨hik_t, hin_t⟩, hkk_t, haa_t⟩ := h_t.open_
 dsimp only at hkk_t haa_t
 have hbg_t := hkk_t.big; have hcp_t := hkk_t.cap; have hbh_t := haa_t.big; have hcq_t := haa_t.cap
 refine zW (vs := [_]) func23 rfl rfl rfl fun a0 hfr0 => ?_
 have hst0 := zV hA (zh [] _ w m)
 have hM : MLe m m := MLe.refl m
 have hsz := zBD t
 have hskl := szKs_len t.kids
 have hsal := szAs_len t.arms
 refine zB fun _ hK1 => ?_
 replace hst0 := hst0.more (r := .free) trivial List.nodup_nil (by simp [Res.blocks])
 refine ra0 (tch := [(1, 0, (fun v => .blk v _))]) hst0 hfr0 (.cons rfl (z1 rfl rfl) <| .consT rfl rfl (fun _ => rfl) rfl (zR zeroValue46 rfl) <| .nil) fun a1 w1 m1 hst1 hle1 hk1 => ?_
 have hfr1 := hk1.fr (.nil)
 obtain ⟨g2, e2, hc1⟩ := hk1.ex 1 rfl
 replace hfr1 := hfr1.cons e2
 obtain ⟨g3, e3, _⟩ := hk1.ex 2 rfl
 replace hfr1 := hfr1.cons e3
 replace hst1 := hst1.fin (L' := [_]) (.cons e3 <| .nil)
 replace h_t := h_t.mono hle1
 replace hkk_t := hkk_t.mono hle1
 replace haa_t := haa_t.mono hle1
 clear hst0 hfr0 hk1
 refine hK1 _ _ ?_
 refine zB fun _ hK4 => ?_
 replace hst1 := hst1.more (r := .free) trivial List.nodup_nil (by simp [Res.blocks])
 refine ra0 (tch := [(1, 1, (fun v => .blk v _)), (2, 1, (fun v => .blk v _))]) hst1 hfr1 (.cons rfl (zN rfl hc1 isAgg46 sizeOf46 rfl rfl) <| .consT rfl rfl (fun _ => rfl) rfl (zR zeroValue46 rfl) <| .consT rfl rfl (fun _ => rfl) rfl (zT 3 rfl rfl rfl fun y3 => zb rfl rfl rfl rfl rfl sizeOf46 rfl rfl h_t.one) <| .nil) fun a2 w2 m2 hst2 hle2 hk2 => ?_
 have hfr2 := hk2.fr (.o 1 <| .o 2 <| .nil)
 obtain ⟨gB, e5, _⟩ := hk2.ex 3 rfl
 replace hfr2 := hfr2.cons e5
 replace hst2 := hst2.fin (L' := [_, _]) (.cons e5 <| .cons e5 <| .nil)
 try simp only [List.take_succ_cons, List.take_zero, List.drop_succ_cons, List.drop_zero, List.cons_append, List.nil_append, List.append_nil, List.length_cons, List.length_nil, Nat.zero_add, Nat.reduceAdd] at hst2
 replace h_t := h_t.mono hle2
 replace hkk_t := hkk_t.mono hle2
 replace haa_t := haa_t.mono hle2
 replace hc1 := hc1.mono hle2
 clear hst1 hfr1 hk2
 refine hK4 _ _ ?_
 refine zB fun _ hK6 => ?_
 refine ra0 (tch := [(1, 1, (fun _ => .blk _ _))]) hst2 hfr2 (.cons rfl (zA (off := 4) rfl underlying46 rfl rfl sizeOf43 rfl) <| .consT rfl rfl (fun _ => rfl) rfl (z8 rfl rfl rfl sizeOf43 rfl rfl rfl) <| .nil) fun a3 w3 m3 hst3 hle3 hk3 => ?_
 have hfr3 := hk3.fr (.o 1 <| .o 2 <| .o 3 <| .nil)
 replace hst3 := hst3.fin (L' := [_, _]) (.cons rfl <| .nil)
 try simp only [List.take_succ_cons, List.take_zero, List.drop_succ_cons, List.drop_zero, List.cons_append, List.nil_append, List.append_nil, List.length_cons, List.length_nil, Nat.zero_add, Nat.reduceAdd] at hst3
 replace h_t := h_t.mono hle3
 replace hkk_t := hkk_t.mono hle3
 replace haa_t := haa_t.mono hle3
 replace hc1 := hc1.mono hle3
 clear hst2 hfr2 hk3
 refine hK6 _ _ ?_
 refine zB fun _ hK7 => ?_
 refine ra0 (tch := [(1, 1, (fun _ => .blk _ _))]) hst3 hfr3 (.cons rfl (zA (off := 5) rfl underlying46 rfl rfl sizeOf44 rfl) <| .consT rfl rfl (fun _ => rfl) rfl (z8 rfl rfl rfl sizeOf44 rfl rfl rfl) <| .nil) fun a4 w4 m4 hst4 hle4 hk4 => ?_
 have hfr4 := hk4.fr (.o 1 <| .o 2 <| .o 3 <| .nil)
 replace hst4 := hst4.fin (L' := [_, _]) (.cons rfl <| .nil)
 try simp only [List.take_succ_cons, List.take_zero, List.drop_succ_cons, List.drop_zero, List.cons_append, List.nil_append, List.append_nil, List.length_cons, List.length_nil, Nat.zero_add, Nat.reduceAdd] at hst4
 replace h_t := h_t.mono hle4
 replace hkk_t := hkk_t.mono hle4
 replace haa_t := haa_t.mono hle4
 replace hc1 := hc1.mono hle4
 clear hst3 hfr3 hk4
 have hst4 := hst4.more (r := .rowx (.slice none 0 0) 0 6 46 (MP.reads (fun m vs t => CdR m t vs) 6 [])) Z7 List.nodup_nil (by simp [Res.blocks, zz])
 have hsl_K : Cds m4 none ([] : List Cd).length 0 ([] : List Cd) := Sl.empty
 have hst4 := hst4.more (r := .rowx (.slice none 0 0) 0 9 78 (MP.reads (fun m vs t => CaR m t vs) 9 [])) Z7 List.nodup_nil (by simp [Res.blocks, zz])
 have hsl_A : Cas m4 none ([] : List Ca).length 0 ([] : List Ca) := Sl.empty
 refine hK7 _ _ ?_
 refine zAo (T := [(1, _), (2, _), (3, _)]) (fun (y : Int) => ([] : List (Nat × Value))) (fun y => [_, .blk (.pointer (some ⟨gB, 0, none⟩)) (.cells (cdV ⟨y, t.name, t.param, t.n, [], []⟩ ⟨none, 0, none, 0⟩).toArray 46), _, _]) (fun (y : Int) m => (fun (kk : Int) => (kk = (if t.kind = 7 then 8 else t.kind))) y) ((t.kind)) ⟨hst4, MLe.refl _, hfr4.sub (.c <| .c <| .c <| .nil), trivial⟩ (fun y a5 w5 m5 hh5 => ?_) (fun K8 hj8 => ?_)
 ·have hst5 := hh5.st; have hle5 := hh5.le; have hfr5 := hh5.fr; have hrel := hh5.rel; clear hh5
  clear hst4 hfr4
  obtain ⟨kk, rfl⟩ : ∃ z, z = y := ⟨_, rfl⟩
  try dsimp only at hrel
  try dsimp only at hfr5
  try dsimp only at hst5
  have hkk9 := hrel
  subst hkk9
  refine zB fun _ hK9 => ?_
  refine zB fun _ hK10 => ?_
  refine rp0 hst5 hfr5 (.cons rfl (zC rfl) <| .nil) fun a6 w6 m6 hst6 hle6 hk6 => ?_
  have hfr6 := hk6.fr (.o 1 <| .o 2 <| .o 3 <| .n 4 <| .nil)
  clear hst5 hfr5 hk6
  refine hK10 _ _ ?_
  refine zK ?_
  have zq1 := hle5.trans hle6
  replace hsl_K := hsl_K.mono zq1
  refine ze (T := [(1, _), (2, _), (3, _)]) (fun (y : Nat × Option Addr × Nat × List Cd) => ([(4, .int .i64 (y.1 : Int))] : List (Nat × Value))) (fun y => [_, .blk (.pointer (some ⟨gB, 0, none⟩)) (.cells (cdV ⟨(if t.kind = 7 then 8 else t.kind), t.name, t.param, t.n, y.2.2.2, []⟩ ⟨y.2.1, y.2.2.1, none, 0⟩).toArray 46), .rowx (nz (.slice y.2.1 y.2.2.2.length y.2.2.1)) y.2.2.2.length 6 46 (MP.reads (fun m vs t => CdR m t vs) 6 y.2.2.2), _]) (fun (y : Nat × Option Addr × Nat × List Cd) m => (fun (y : Nat) (klo : Option Addr) (klp : Nat) (kl : List Cd) => (y ≤ t.kids.length) ∧ (Cds m klo kl.length klp kl) ∧ (zAL t.kids = kl ++ zAL (t.kids.drop y) ∧ kl.length = y)) y.1 y.2.1 y.2.2.1 y.2.2.2) (fun y => t.kids.length - y.1) ((0, none, 0, ([] : List Cd))) ⟨hst6, MLe.refl _, hfr6.sub (.c <| .c <| .c <| .c <| .nil), ⟨Nat.zero_le _, hsl_K, ⟨rfl, rfl⟩⟩⟩ fun y a7 w7 m7 hh7 => ?_
  have hst7 := hh7.st; have hle7 := hh7.le; have hfr7 := hh7.fr; have hrel := hh7.rel; clear hh7
  clear hst6 hfr6
  obtain ⟨y, klo, klp, kl⟩ := y
  dsimp only at hrel hfr7 hst7
  obtain ⟨hyn, hsl_kl, hlen_kl⟩ := hrel
  have hlh7 := hle7
  refine zB fun _ hK12 => ?_
  refine zB fun _ hK13 => ?_
  have zq2 := zq1.trans hle7
  replace hc1 := hc1.mono zq2
  refine rp0 hst7 hfr7 (.cons rfl (zD rfl) <| .cons rfl (zA (off := 4) rfl underlying46 rfl rfl sizeOf43 rfl) <| .cons rfl (zE rfl hc1 isAgg43 rfl) <| .cons rfl (zY rfl underlying43) <| .cons rfl (zw rfl rfl) <| .nil) fun a8 w8 m8 hst8 hle8 hk8 => ?_
  have hfr8 := hk8.fr (.o 4 <| .o 1 <| .o 2 <| .o 3 <| .n 18 <| .nil)
  clear hst7 hfr7 hk8
  refine hK13 _ _ ?_
  refine zF hfr8 rfl rfl (fun hb18 => ?_) (fun hb18 => ?_)
  ·try simp only [nqs] at hb18
   refine zJ ?_
   refine hK12 _ _ ?_
   refine zB fun _ hK14 => ?_
   refine zK ?_
   have zq3 := zq2.trans hle8
   replace hkk_t := hkk_t.mono zq3
   obtain ⟨p15, vs15, x15, ho15, hd15, hm_x15, ht15, hcv15, hl15, hv15⟩ := hkk_t.nth (k := y) (by omega)
   cases ho15
   obtain ⟨⟨oK15, cK15, oA15, cA15⟩, rfl, ⟨hik15, hin15⟩, hkk15, haa15⟩ := hv15.open_
   dsimp only at hkk15 haa15
   have hbg15 := hkk15.big; have hcp15 := hkk15.cap; have hbh15 := haa15.big; have hcq15 := haa15.cap
   rw [hd15, zAL] at hlen_kl
   have hsm9 := szKs_mem hm_x15
   replace h_t := h_t.mono zq3
   replace haa_t := haa_t.mono zq3
   replace hsl_A := hsl_A.mono zq3
   have zq4 := hle7.trans hle8
   replace hsl_K := hsl_K.mono zq4
   replace hc1 := hc1.mono hle8
   replace hsl_kl := hsl_kl.mono hle8
   refine ZD (tch := [(9, 2, (fun v => .rowx (nz v) _ _ _ _)), (11, 1, (fun u => .blk _ (.cells (_ ++ [u] ++ _).toArray _)))]) (fun _ => mixed) hst8 hfr8 (by kernel_rfl) (by kernel_rfl) (by kernel_rfl) (.cons rfl (zA (off := 4) rfl underlying46 rfl rfl sizeOf43 rfl) <| .cons rfl (zO (j := 1) rfl rfl isAgg43 rfl) <| .cons rfl (zA (off := 4) rfl underlying46 rfl rfl sizeOf43 rfl) <| .cons rfl (zE rfl hc1 isAgg43 rfl) <| .cons rfl (zD rfl) <| .cons rfl (zH (k := y) rfl rfl underlying43 sizeOf46 rfl (by omega)) <| .cons rfl (zN rfl hcv15 isAgg46 sizeOf46 rfl rfl) <| .cons rfl (zj (φ := MP.cd (bdC x15)) rfl (.cons rfl <| .nil) call23 (fun w m hK => by have hle_ := KC.le hK; have hA := KC.agree hK; have h_t := h_t.mono hle_; have hkk_t := hkk_t.mono hle_; have haa_t := haa_t.mono hle_; have hc1 := hc1.mono hle_; have hsl_K := hsl_K.mono hle_; have hsl_A := hsl_A.mono hle_; have hsl_kl := hsl_kl.mono hle_; have hcv15 := hcv15.mono hle_; have hv15 := hv15.mono hle_; have hkk15 := hkk15.mono hle_; have haa15 := haa15.mono hle_; exact FnG.mono (ihk _ (by assumption) hA hv15 (by omega)) fun _ _ _ _ h => h)) <| .cons rfl (zCU 28 rfl rfl rfl fun y28 => zx rfl underlying43 sizeOf46 zeroValue46 rfl rfl rfl rfl) <| .consT rfl rfl (fun _ => rfl) rfl (zT 29 rfl rfl rfl fun y29 => ZY (size := 6) (bytes := 96) (l := kl) (l' := [bdC x15]) rfl rfl (fun _ => by first | exact .inl rfl | exact .inr (.inl rfl)) underlying43 type46 rfl rfl rfl rfl (fun w m hK => Sl.one (R := fun m vs t => CdR m t vs) hK.2.2 hK.2.1.len hK.2.1) rfl (by decide) (by simp only [maxLen]; omega) (by omega)) <| .cons rfl (zA (off := 4) rfl underlying46 rfl rfl sizeOf43 rfl) <| .consT rfl rfl (fun _ => rfl) rfl (zT 30 rfl rfl rfl fun y30 => Z4 rfl rfl rfl rfl rfl sizeOf43 rfl rfl rfl) <| .nil) fun a9 w9 m9 hst9 hle9 hk9 => ?_
   have hfr9 := hk9.fr (.o 4 <| .o 1 <| .o 2 <| .o 3 <| .nil)
   obtain ⟨⟨K_16o, K_16p⟩, e17, hsl_K_16⟩ := hk9.ex 30 rfl
   replace hst9 := hst9.fin (L' := [_, _, _, _]) (.cons e17 <| .cons e17 <| .nil)
   try simp only [List.take_succ_cons, List.take_zero, List.drop_succ_cons, List.drop_zero, List.cons_append, List.nil_append, List.append_nil, List.length_cons, List.length_nil, Nat.zero_add, Nat.reduceAdd] at hst9
   clear hst8 hfr8 hk9
   replace hsl_K_16 : Cds m9 K_16o (kl ++ [bdC x15]).length K_16p (kl ++ [bdC x15]) := hsl_K_16
   refine hK14 _ _ ?_
   refine rp0 hst9 hfr9 (.cons rfl (zD rfl) <| .cons rfl (zi rfl rfl ⟨by omega, by omega⟩) <| .cons rfl (zC rfl) <| .nil) fun a10 w10 m10 hst10 hle10 hk10 => ?_
   have hfr10 := hk10.fr (.o 1 <| .o 2 <| .o 3 <| .n 4 <| .nil)
   clear hst9 hfr9 hk10
   replace hsl_K_16 := hsl_K_16.mono hle10
   have zq5 := hle9.trans hle10
   have zq6 := hle8.trans zq5
   have hlh10 := hlh7.trans zq6
   exact ⟨(y + 1, K_16o, K_16p, (kl ++ [bdC x15])), m10, by show t.kids.length - (y + 1) < t.kids.length - y; omega, ⟨hst10, hlh10, hfr10.sub (.c <| .c <| .c <| .c <| .nil), ⟨by show y + 1 ≤ t.kids.length; omega, hsl_K_16, ⟨by rw [hlen_kl.1]; simp, by show (kl ++ [_]).length = y + 1; simp; exact hlen_kl.2⟩⟩⟩⟩
  ·try simp only [nqs] at hb18
   have hge : y = t.kids.length := by omega
   rw [List.drop_of_length_le (by omega)] at hlen_kl
   rw [zAL, List.append_nil] at hlen_kl
   refine zf ?_
   refine hK9 _ _ ?_
   refine zB fun _ hK18 => ?_
   refine zB fun _ hK19 => ?_
   refine rp0 hst8 hfr8 (.cons rfl (zC rfl) <| .nil) fun a9 w9 m9 hst9 hle9 hk9 => ?_
   have hfr9 := hk9.fr (.o 4 <| .o 1 <| .o 2 <| .o 3 <| .n 5 <| .nil)
   clear hst8 hfr8 hk9
   refine hK19 _ _ ?_
   refine zK ?_
   have zq7 := hle8.trans hle9
   have hlh9 := hlh7.trans zq7
   have hlq20 := hlh9
   have zq8 := zq2.trans zq7
   replace hsl_A := hsl_A.mono zq8
   refine ze (T := [(4, _), (1, _), (2, _), (3, _)]) (fun (y : Nat × Option Addr × Nat × List Ca) => ([(5, .int .i64 (y.1 : Int))] : List (Nat × Value))) (fun y => [_, .blk (.pointer (some ⟨gB, 0, none⟩)) (.cells (cdV ⟨(if t.kind = 7 then 8 else t.kind), t.name, t.param, t.n, kl, y.2.2.2⟩ ⟨klo, klp, y.2.1, y.2.2.1⟩).toArray 46), _, .rowx (nz (.slice y.2.1 y.2.2.2.length y.2.2.1)) y.2.2.2.length 9 78 (MP.reads (fun m vs t => CaR m t vs) 9 y.2.2.2)]) (fun (y : Nat × Option Addr × Nat × List Ca) m => (fun (y : Nat) (alo : Option Addr) (alp : Nat) (al : List Ca) => (y ≤ t.arms.length) ∧ (Cas m alo al.length alp al) ∧ (zAx t.arms = al ++ zAx (t.arms.drop y) ∧ al.length = y)) y.1 y.2.1 y.2.2.1 y.2.2.2) (fun y => t.arms.length - y.1) ((0, none, 0, ([] : List Ca))) ⟨hst9, MLe.refl _, hfr9.sub (.c <| .c <| .c <| .c <| .c <| .nil), ⟨Nat.zero_le _, hsl_A, ⟨rfl, rfl⟩⟩⟩ fun y a10 w10 m10 hh10 => ?_
   have hst10 := hh10.st; have hle10 := hh10.le; have hfr10 := hh10.fr; have hrel := hh10.rel; clear hh10
   clear hst9 hfr9
   obtain ⟨y, alo, alp, al⟩ := y
   dsimp only at hrel hfr10 hst10
   obtain ⟨hyn, hsl_al, hlen_al⟩ := hrel
   have hlh10 := hle10
   refine zB fun _ hK21 => ?_
   refine zB fun _ hK22 => ?_
   have zq9 := zq7.trans hle10
   replace hc1 := hc1.mono zq9
   refine rp0 hst10 hfr10 (.cons rfl (zD rfl) <| .cons rfl (zA (off := 5) rfl underlying46 rfl rfl sizeOf44 rfl) <| .cons rfl (zE rfl hc1 isAgg44 rfl) <| .cons rfl (zY rfl underlying44) <| .cons rfl (zw rfl rfl) <| .nil) fun a11 w11 m11 hst11 hle11 hk11 => ?_
   have hfr11 := hk11.fr (.o 5 <| .o 4 <| .o 1 <| .o 2 <| .o 3 <| .n 36 <| .nil)
   clear hst10 hfr10 hk11
   refine hK22 _ _ ?_
   refine zF hfr11 rfl rfl (fun hb36 => ?_) (fun hb36 => ?_)
   ·try simp only [nqs] at hb36
    refine zJ ?_
    refine hK21 _ _ ?_
    refine zB fun _ hK23 => ?_
    refine zK ?_
    refine zB fun _ hK24 => ?_
    have zq10 := hle10.trans hle11
    have zq11 := zq8.trans zq10
    replace haa_t := haa_t.mono zq11
    obtain ⟨p25, vs25, x25, ho25, hd25, hm_x25, ht25, hcv25, hl25, hv25⟩ := haa_t.nth (k := y) (by omega)
    cases ho25
    obtain ⟨oV25, cV25, bs25, rfl, hva25, hbd25⟩ := hv25.open_
    have hbv25 := hva25.big; have hcv25_ := hva25.cap
    obtain ⟨⟨oK25b, cK25b, oA25b, cA25b⟩, rfl, ⟨hik25b, hin25b⟩, hkk25b, haa25b⟩ := hbd25.open_
    dsimp only at hkk25b haa25b
    have hbg25b := hkk25b.big; have hcp25b := hkk25b.cap; have hbh25b := haa25b.big; have hcq25b := haa25b.cap
    rw [hd25, zAy] at hlen_al
    have hsm9 := szAs_mem hm_x25
    replace hst11 := hst11.more (r := .free) trivial List.nodup_nil (by simp [Res.blocks])
    replace hc1 := hc1.mono hle11
    refine ra0 (tch := [(5, 4, (fun v => .blk v _)), (6, 4, (fun v => .blk v _))]) hst11 hfr11 (.cons rfl (zA (off := 5) rfl underlying46 rfl rfl sizeOf44 rfl) <| .cons rfl (zE rfl hc1 isAgg44 rfl) <| .cons rfl (zD rfl) <| .cons rfl (zH (k := y) rfl rfl underlying44 sizeOf78 rfl (by omega)) <| .cons rfl (zN rfl hcv25 isAgg78 sizeOf78 rfl rfl) <| .consT rfl rfl (fun _ => rfl) rfl (zR zeroValue78 rfl) <| .consT rfl rfl (fun _ => rfl) rfl (zT 6 rfl rfl rfl fun y6 => zb rfl rfl rfl rfl rfl sizeOf78 rfl rfl hv25.one) <| .nil) fun a12 w12 m12 hst12 hle12 hk12 => ?_
    have hfr12 := hk12.fr (.o 5 <| .o 4 <| .o 1 <| .o 2 <| .o 3 <| .nil)
    obtain ⟨g26, e26, _⟩ := hk12.ex 6 rfl
    replace hfr12 := hfr12.cons e26
    replace hst12 := hst12.fin (L' := [_, _, _, _, _]) (.cons e26 <| .cons e26 <| .nil)
    try simp only [List.take_succ_cons, List.take_zero, List.drop_succ_cons, List.drop_zero, List.cons_append, List.nil_append, List.append_nil, List.length_cons, List.length_nil, Nat.zero_add, Nat.reduceAdd] at hst12
    clear hst11 hfr11 hk12
    refine hK24 _ _ ?_
    refine zB fun _ hK27 => ?_
    refine zu 3 (by kernel_rfl) ?_
    replace hbd25 := hbd25.mono hle12
    refine zg (tch := []) hst12 hfr12 (by kernel_rfl) (by kernel_rfl) (by kernel_rfl) (.cons rfl (zA (off := 3) rfl underlying78 rfl rfl sizeOf46 rfl) <| .cons rfl (Zo (j := 4) rfl rfl isAgg46 sizeOf46 rfl rfl) <| .cons rfl (zj (φ := MP.cd (bdC x25.body)) rfl (.cons rfl <| .nil) call23 (fun w m hK => by have hle_ := KC.le hK; have hA := KC.agree hK; have hbd25 := hbd25.mono hle_; exact FnG.mono (iha _ hm_x25 hA hbd25 (by omega)) fun _ _ _ _ h => h)) <| .nil) fun a13 w13 m13 hst13 hle13 hk13 => ?_
    have hfr13 := hk13.fr (.o 5 <| .o 4 <| .o 1 <| .o 2 <| .o 3 <| .o 6 <| .nil)
    obtain ⟨yb, e28, hyb⟩ := hk13.ex 46 rfl
    replace hfr13 := hfr13.cons e28
    clear hst12 hfr12 hk13
    refine zg (tch := [(1, 4, (fun _ => .blk _ _))]) hst13 hfr13 (by kernel_rfl) (by kernel_rfl) (by kernel_rfl) (.cons rfl (zA (off := 3) rfl underlying78 rfl rfl sizeOf46 rfl) <| .consT rfl rfl (fun _ => rfl) rfl (z8 rfl rfl rfl sizeOf46 rfl rfl hyb.one) <| .nil) fun a14 w14 m14 hst14 hle14 hk14 => ?_
    have hfr14 := hk14.fr (.o 5 <| .o 4 <| .o 1 <| .o 2 <| .o 3 <| .o 6 <| .o 46 <| .nil)
    replace hst14 := hst14.fin (L' := [_, _, _, _, _]) (.cons rfl <| .nil)
    try simp only [List.take_succ_cons, List.take_zero, List.drop_succ_cons, List.drop_zero, List.cons_append, List.nil_append, List.append_nil, List.length_cons, List.length_nil, Nat.zero_add, Nat.reduceAdd] at hst14
    clear hst13 hfr13 hk14
    refine hK27 _ _ ?_
    have zq12 := hle13.trans hle14
    have zq13 := hle12.trans zq12
    replace hva25 := hva25.mono zq13
    replace hyb := hyb.mono hle14
    refine ra0 (tch := [(4, 3, (fun v => .rowx (nz v) _ _ _ _)), (6, 1, (fun u => .blk _ (.cells (_ ++ [u] ++ _).toArray _)))]) hst14 hfr14 (.cons rfl (zA (off := 5) rfl underlying46 rfl rfl sizeOf44 rfl) <| .cons rfl (zO (j := 1) rfl rfl isAgg44 rfl) <| .cons rfl (zX (j := 4) rfl rfl isAgg78 sizeOf78 rfl) <| .cons rfl (zx rfl underlying44 sizeOf78 zeroValue78 rfl rfl rfl rfl) <| .consT rfl rfl (fun _ => rfl) rfl (zT 51 rfl rfl rfl fun y51 => ZY (size := 9) (bytes := 144) (l := al) (l' := [bdA x25]) rfl rfl (fun _ => by first | exact .inl rfl | exact .inr (.inl rfl)) underlying44 type78 rfl rfl rfl rfl (fun w m hK => Sl.one (R := fun m vs t => CaR m t vs) hK.2 (CaR.len (zEz (hva25.mono (KC.le hK)) (hyb.mono (KC.le hK)))) (zEz (hva25.mono (KC.le hK)) (hyb.mono (KC.le hK)))) rfl (by decide) (by simp only [maxLen]; omega) (by omega)) <| .cons rfl (zA (off := 5) rfl underlying46 rfl rfl sizeOf44 rfl) <| .consT rfl rfl (fun _ => rfl) rfl (zT 52 rfl rfl rfl fun y52 => Z4 rfl rfl rfl rfl rfl sizeOf44 rfl rfl rfl) <| .nil) fun a15 w15 m15 hst15 hle15 hk15 => ?_
    have hfr15 := hk15.fr (.o 5 <| .o 4 <| .o 1 <| .o 2 <| .o 3 <| .nil)
    obtain ⟨⟨A_29o, A_29p⟩, e30, hsl_A_29⟩ := hk15.ex 52 rfl
    replace hst15 := hst15.fin (L' := [_, _, _, _, _]) (.cons e30 <| .cons e30 <| .nil)
    try simp only [List.take_succ_cons, List.take_zero, List.drop_succ_cons, List.drop_zero, List.cons_append, List.nil_append, List.append_nil, List.length_cons, List.length_nil, Nat.zero_add, Nat.reduceAdd] at hst15
    clear hst14 hfr14 hk15
    replace hsl_A_29 : Cas m15 A_29o (al ++ [bdA x25]).length A_29p (al ++ [bdA x25]) := hsl_A_29
    refine hK23 _ _ ?_
    refine rp0 hst15 hfr15 (.cons rfl (zD rfl) <| .cons rfl (zi rfl rfl ⟨by omega, by omega⟩) <| .cons rfl (zC rfl) <| .nil) fun a16 w16 m16 hst16 hle16 hk16 => ?_
    have hfr16 := hk16.fr (.o 4 <| .o 1 <| .o 2 <| .o 3 <| .n 5 <| .nil)
    clear hst15 hfr15 hk16
    have hst16 := hst16.take 4
    replace hsl_A_29 := hsl_A_29.mono hle16
    have zq14 := hle15.trans hle16
    have zq15 := zq13.trans zq14
    have zq16 := hle11.trans zq15
    have hlh16 := hlh10.trans zq16
    exact ⟨(y + 1, A_29o, A_29p, (al ++ [bdA x25])), m16, by show t.arms.length - (y + 1) < t.arms.length - y; omega, ⟨hst16, hlh16, hfr16.sub (.c <| .c <| .c <| .c <| .c <| .nil), ⟨by show y + 1 ≤ t.arms.length; omega, hsl_A_29, ⟨by rw [hlen_al.1]; simp, by show (al ++ [_]).length = y + 1; simp; exact hlen_al.2⟩⟩⟩⟩
   ·try simp only [nqs] at hb36
    have hge : y = t.arms.length := by omega
    rw [List.drop_of_length_le (by omega)] at hlen_al
    rw [zAx, List.append_nil] at hlen_al
    refine zf ?_
    refine hK18 _ _ ?_
    refine zB fun _ hK31 => ?_
    have zq17 := zq9.trans hle11
    replace hsl_kl := hsl_kl.mono zq17
    replace hsl_al := hsl_al.mono hle11
    have hout : CdR m11 ⟨(if t.kind = 7 then 8 else t.kind), t.name, t.param, t.n, kl, al⟩ (cdV ⟨(if t.kind = 7 then 8 else t.kind), t.name, t.param, t.n, kl, al⟩ ⟨klo, klp, alo, alp⟩) := CdR.build trivial trivial hsl_kl hsl_al
    have hfin : bdC t = ⟨(if t.kind = 7 then 8 else t.kind), t.name, t.param, t.n, kl, al⟩ := by rw [zBW, hlen_kl.1, hlen_al.1]
    refine ra0 (tch := [(1, 0, (fun _ => .blk _ _))]) hst11 hfr11 (.cons rfl (zX (j := 1) rfl rfl isAgg46 sizeOf46 rfl) <| .consT rfl rfl (fun _ => rfl) rfl (zc rfl rfl rfl sizeOf46 rfl rfl hout.one) <| .nil) fun a12 w12 m12 hst12 hle12 hk12 => ?_
    have hfr12 := hk12.fr (.o 5 <| .o 4 <| .o 2 <| .nil)
    replace hst12 := hst12.fin (L' := [_, _, _, _]) (.cons rfl <| .nil)
    try simp only [List.take_succ_cons, List.take_zero, List.drop_succ_cons, List.drop_zero, List.cons_append, List.nil_append, List.append_nil, List.length_cons, List.length_nil, Nat.zero_add, Nat.reduceAdd] at hst12
    clear hst11 hfr11 hk12
    refine hK31 _ _ ?_
    refine zL ?_
    repeat (with_reducible first | refine zI ?_ | refine zG ?_)
    replace hout := hout.mono hle12
    exact zM hst12 hfr12 rfl (.cell rfl (zr (zm (hst12.loc.at_ (k := 0) rfl)) isAgg46 sizeOf46) <| .nil) (⟨⟨klo, klp, alo, alp⟩, by rw [hfin]; rfl, by rw [hfin]; exact hout⟩)
 ·have hlj8 : MLe m4 m4 := MLe.refl _
  refine zB fun _ hK33 => ?_
  refine rp0 hst4 hfr4 (.cons rfl (zA (off := 0) rfl underlying46 rfl rfl sizeOf3 rfl) <| .cons rfl (zE rfl hc1 isAgg3 rfl) <| .cons rfl (zZ rfl rfl) <| .nil) fun a5 w5 m5 hst5 hle5 hk5 => ?_
  have hfr5 := hk5.fr (.o 1 <| .o 2 <| .o 3 <| .n 12 <| .nil)
  clear hst4 hfr4 hk5
  refine hK33 _ _ ?_
  refine zF hfr5 rfl rfl (fun hb12 => ?_) (fun hb12 => ?_)
  ·try simp only [nqs] at hb12
   refine ra0 (tch := [(1, 1, (fun _ => .blk _ _))]) hst5 hfr5 (.cons rfl (zA (off := 0) rfl underlying46 rfl rfl sizeOf3 rfl) <| .consT rfl rfl (fun _ => rfl) rfl (z8 rfl rfl rfl sizeOf3 rfl rfl rfl) <| .nil) fun a6 w6 m6 hst6 hle6 hk6 => ?_
   have hfr6 := hk6.fr (.o 1 <| .o 2 <| .o 3 <| .nil)
   replace hst6 := hst6.fin (L' := [_, _, _, _]) (.cons rfl <| .nil)
   try simp only [List.take_succ_cons, List.take_zero, List.drop_succ_cons, List.drop_zero, List.cons_append, List.nil_append, List.append_nil, List.length_cons, List.length_nil, Nat.zero_add, Nat.reduceAdd] at hst6
   clear hst5 hfr5 hk6
   repeat (with_reducible first | refine ZJ ?_ | refine ZF ?_ | refine zv ?_)
   have zq18 := hle5.trans hle6
   replace hlj8 := hlj8.trans zq18
   exact hj8 ((8 : Int)) _ _ _ ⟨hst6, hlj8, hfr6.sub (.c <| .c <| .c <| .nil), by first | rw [if_pos (by omega)] | rw [if_neg (by omega)]⟩
  ·try simp only [nqs] at hb12
   refine zJ ?_
   repeat (with_reducible first | refine ZJ ?_ | refine ZF ?_ | refine zv ?_)
   replace hlj8 := hlj8.trans hle5
   exact hj8 (t.kind) _ _ _ ⟨hst5, hlj8, hfr5.sub (.c <| .c <| .c <| .nil), by first | rw [if_pos (by omega)] | rw [if_neg (by omega)]⟩
theorem boundC_c (t : Cd) : zDP t := Cd.rec_ (p := zDP) (fun t ihk iha => boundC_s ihk iha) t
end Go.Proofs.YtmdhhjmomilhjaaDoor
namespace Go.Proofs.YtmdhhjmomilhjaaDoor
set_option linter.all false
set_option maxRecDepth 4000
open Go.RowKit
-- terms all of whose parts are quiet
inductive QuT : Tm → Prop where
 | mk {t : Tm} (h : zDT t = true) (hk : ∀ u ∈ t.kids, QuT u) (ha : ∀ a ∈ t.arms, QuT a.body) : QuT t
theorem QuT.here {t : Tm} (h : QuT t) : zDT t = true := by cases h; assumption
theorem QuT.kid {t u : Tm} (h : QuT t) (hu : u ∈ t.kids) : QuT u := by cases h with | mk _ hk _ => exact hk u hu
theorem QuT.arm {t : Tm} {a : Ar} (h : QuT t) (ha : a ∈ t.arms) : QuT a.body := by cases h with | mk _ _ hh => exact hh a ha
theorem QuT.pro {tl : Bool} {i : Nat} {a : Ar} (h : QuT a.body) : QuT (Zh tl i a) := by
 unfold Zh
 split
 ·rename_i hp; unfold zBx at hp; simp only [Bool.and_eq_true] at hp
  obtain ⟨u, hu, e⟩ := last_sub hp.1.1
  rw [e]; exact h.kid hu
 ·exact h
def ZN : List Rw := [⟨[zCI], 0⟩, ⟨[], 0⟩]
theorem calm_at (n : Nat) (r : Rw) : calmS (zAq ZN n r).labels (zAq ZN n r).var = true := by
 have h : n % 2 = 0 ∨ n % 2 = 1 := by omega
 have e : zAq ZN n r = ⟨[zCI], 0⟩ ∨ zAq ZN n r = ⟨[], 0⟩ := by
  unfold zAq ZN
  rw [if_neg (by simp)]
  rcases h with h | h
  ·left; show List.getD _ (n % 2) r = _; rw [h]; rfl
  ·right; show List.getD _ (n % 2) r = _; rw [h]; rfl
 rcases e with e | e <;> rw [e] <;> decide
theorem qu_rows (t : Tm) : ∀ n, QuT (ZG ZN t n) := by
 induction t using Tm.rec_ with
 | h t ihk iha =>
  intro n
  rw [zCJ]
  refine .mk ?_ (fun u hu => ?_) (fun a ha => ?_)
  ·unfold zDT; show (_ || calmS (zAq ZN n t.row).labels (zAq ZN n t.row).var) = true; rw [calm_at]; simp
  ·obtain ⟨v, hv, k, rfl⟩ := zCm hu; exact ihk v hv k
  ·obtain ⟨v, hv, k, rfl⟩ := zCn ha; exact iha v hv k
theorem bindK_qu {t : Tm} (h : QuT t) : zAB true t = 7 := by unfold zAB; rw [h.here]; simp
theorem bindK_no (t : Tm) : zAB false t = if Ze t then 7 else 8 := by unfold zAB; simp
-- both ways of lowering are the same but for the kinds of bindings
def Two (g1 g2 : Gen) (t : Tm) : Prop := ∀ n, bdC (g1 t n).1 = bdC (g2 t n).1 ∧ (g1 t n).2 = (g2 t n).2
theorem bd_cd2 {k k' : Int} {s p : Str} {a b a' b' : Cd} (h : (k = 7 ∨ k = 8) ∧ (k' = 7 ∨ k' = 8) ∨ k = k') (h1 : bdC a = bdC a') (h2 : bdC b = bdC b') : bdC (cd2 k s p a b) = bdC (cd2 k' s p a' b') := by
 rw [zBW, zBW]
 show (⟨if k = 7 then 8 else k, s, p, 0, bdC a :: bdC b :: zAL [], zAx []⟩ : Cd) = ⟨if k' = 7 then 8 else k', s, p, 0, bdC a' :: bdC b' :: zAL [], zAx []⟩
 rw [h1, h2, show (if k = 7 then 8 else k) = (if k' = 7 then 8 else k') from by split <;> split <;> omega]
theorem zEr {g1 g2 : Gen} {t : Tm} (h : Two g1 g2 t) (n : Nat) : zCb g1 t n = zCb g2 t n := by unfold zCb; rw [(h n).2]
theorem zDU {g1 g2 : Gen} : ∀ (l : List Tm) (n : Nat), (∀ u ∈ l, Two g1 g2 u) → Zz g1 l n = Zz g2 l n
 | [], _, _ => rfl
 | t :: ts, n, h => by rw [Zz, Zz, zEr (h t (.head _)), zDU ts _ fun u hu => h u (.tail _ hu)]
theorem seqN_two {g1 g2 : Gen} : ∀ (l : List Tm) (n : Nat), (∀ u ∈ l, Two g1 g2 u) → zDX g1 l n = zDX g2 l n
 | [], _, _ => rfl
 | t :: ts, n, h => by rw [zDX, zDX, (h t (.head _) n).2, seqN_two ts _ fun u hu => h u (.tail _ hu)]
theorem armN_two {g1 g2 : Gen} : ∀ (l : List Ar) (n : Nat), (∀ u ∈ l, Two g1 g2 u.body) → zCt g1 l n = zCt g2 l n
 | [], _, _ => rfl
 | t :: ts, n, h => by rw [zCt, zCt, (h t (.head _) n).2, armN_two ts _ fun u hu => h u (.tail _ hu)]
theorem proN_two {tl : Bool} {g1 g2 : Gen} : ∀ (l : List Ar) (i n : Nat), (∀ u ∈ l, ∀ i, Two g1 g2 (Zh tl i u)) → zDO tl g1 i l n = zDO tl g2 i l n
 | [], _, _, _ => rfl
 | t :: ts, i, n, h => by rw [zDO, zDO, (h t (.head _) i n).2, proN_two ts _ _ fun u hu => h u (.tail _ hu)]
theorem takeA_two {g1 g2 : Gen} : ∀ (l : List Tm) (n : Nat), (∀ u ∈ l, Two g1 g2 u) → zAL (ZX g1 l n) = zAL (ZX g2 l n)
 | [], _, _ => rfl
 | t :: ts, n, h => by
  have h1 := h t (.head _)
  rw [ZX, ZX, zAL, zAL, zEr h1, takeA_two ts _ fun u hu => h u (.tail _ hu)]
  congr 1
  unfold kidA
  split
  ·exact (h1 n).1
  ·rw [(h1 n).2]
theorem seqA_two {g1 g2 : Gen} : ∀ (l : List Tm) (n : Nat), (∀ u ∈ l, Two g1 g2 u) → zAL (zBL g1 l n) = zAL (zBL g2 l n)
 | [], _, _ => rfl
 | t :: ts, n, h => by
  rw [zBL, zBL, zAL, zAL, (h t (.head _) n).2, (h t (.head _) n).1, seqA_two ts _ fun u hu => h u (.tail _ hu)]
theorem armA_two {g1 g2 : Gen} : ∀ (l : List Ar) (n : Nat), (∀ u ∈ l, Two g1 g2 u.body) → zAx (zBX g1 l n) = zAx (zBX g2 l n)
 | [], _, _ => rfl
 | t :: ts, n, h => by
  rw [zBX, zBX, zAy, zAy, (h t (.head _) n).2, armA_two ts _ fun u hu => h u (.tail _ hu)]
  show (⟨_, _, _, bdC (g1 t.body n).1⟩ : Ca) :: _ = ⟨_, _, _, bdC (g2 t.body n).1⟩ :: _
  rw [(h t (.head _) n).1]; rfl
theorem proA_two {tl : Bool} {g1 g2 : Gen} : ∀ (l : List Ar) (i n : Nat), (∀ u ∈ l, ∀ i, Two g1 g2 (Zh tl i u)) → zAx (zBN tl g1 i l n) = zAx (zBN tl g2 i l n)
 | [], _, _, _ => rfl
 | t :: ts, i, n, h => by
  rw [zBN, zBN, zAy, zAy, (h t (.head _) i n).2, proA_two ts _ _ fun u hu => h u (.tail _ hu)]
  show (⟨_, _, _, bdC (g1 (Zh tl i t) n).1⟩ : Ca) :: _ = ⟨_, _, _, bdC (g2 (Zh tl i t) n).1⟩ :: _
  rw [(h t (.head _) i n).1]; rfl
theorem zEq {g1 g2 : Gen} : ∀ (l : List Tm) (n : Nat) (c1 c2 : Cd), (∀ u ∈ l, Two g1 g2 u) → bdC c1 = bdC c2 → bdC (ZS (Zy true g1 l n) c1) = bdC (ZS (Zy false g2 l n) c2)
 | [], _, c1, c2, _, h => h
 | t :: ts, n, c1, c2, h, hc => by
  have h1 := h t (.head _)
  have ih := zEq ts (zCb g2 t n) c1 c2 (fun u hu => h u (.tail _ hu)) hc
  rw [Zy, Zy, zEr h1]
  unfold kidB
  split
  ·exact ih
  ·show bdC (cd2 _ _ _ _ _) = bdC (cd2 _ _ _ _ _)
   rw [(h1 n).2]
   exact bd_cd2 (.inl ⟨zCV _ _, zCV _ _⟩) (h1 n).1 ih
theorem bdKs_app (l k : List Cd) : zAL (l ++ k) = zAL l ++ zAL k := by
 induction l with
 | nil => rfl
 | cons x l ih => rw [List.cons_append, zAL, zAL, ih]; rfl
theorem zED (tl : Bool) : ∀ (f : Nat) (t : Tm), LwT t → zP t ≤ f → Two (zS true tl f) (zS false tl f) t
 | 0, t, _, hc => by have := zk t; omega
 | f + 1, t, hl, hc => by
  have hce := zk t
  have hks : ∀ u ∈ t.kids, Two (zS true tl f) (zS false tl f) u := fun u hu => zED tl f u (hl.kid hu) (by have := z6 hu; omega)
  have has : ∀ a ∈ t.arms, Two (zS true tl f) (zS false tl f) a.body := fun a ha => zED tl f a.body (hl.arm ha) (by have := ZO ha; omega)
  have hps : ∀ a ∈ t.arms, ∀ i, Two (zS true tl f) (zS false tl f) (Zh tl i a) := fun a ha i => by
   have h1 := zCT (tl := tl) (i := i) (hl.arm ha)
   exact zED tl f (Zh tl i a) h1.1 (by have := ZO ha; omega)
  intro n
  rw [show zS true tl (f + 1) t n = ZU true tl (zS true tl f) t n from rfl, show zS false tl (f + 1) t n = ZU false tl (zS false tl f) t n from rfl]
  generalize zS true tl f = g1 at hks has hps
  generalize zS false tl f = g2 at hks has hps
  rcases zCW hl with ⟨hk, ⟨x, y, e⟩, e2⟩ | ⟨hk, ⟨x, y, e⟩, e2⟩ | ⟨hk, x, e⟩ | ⟨hk, ⟨x, e⟩, e2⟩ | ⟨hk, e, e2⟩ | hc
  ·rw [zEi hk, zEi hk, zAw e, zDh e]; rw [e] at hks
   have h1 := hks x (.head _); have h2 := hks y (.tail _ (.head _))
   dsimp only
   rw [(h1 n).2]
   exact ⟨bd_cd2 (.inl ⟨zCV _ _, zCV _ _⟩) (h1 n).1 (h2 _).1, (h2 _).2⟩
  ·rw [zEe hk, zEe hk, zAw e, zDh e]; rw [e] at hks
   have h1 := hks x (.head _); have h2 := hks y (.tail _ (.head _))
   dsimp only
   rw [(h1 n).2]
   exact ⟨bd_cd2 (.inr rfl) (h1 n).1 (h2 _).1, (h2 _).2⟩
  ·rw [zBh hk, zBh hk, zAw e]; rw [e] at hks
   have h1 := hks x (.head _)
   dsimp only
   rw [(h1 n).2]
   refine ⟨?_, proN_two t.arms 0 _ hps⟩
   rw [zBW, zBW]
   show (⟨_, _, _, _, bdC (g1 x n).1 :: zAL [], zAx (zBN tl g1 0 t.arms _)⟩ : Cd) = ⟨_, _, _, _, bdC (g2 x n).1 :: zAL [], zAx (zBN tl g2 0 t.arms _)⟩
   rw [(h1 n).1, proA_two t.arms 0 _ hps]; rfl
  ·rw [zDr hk, zDr hk, zAw e]; rw [e] at hks
   have h1 := hks x (.head _)
   dsimp only
   refine ⟨?_, (h1 n).2⟩
   rw [zBW, zBW]
   show (⟨_, _, _, _, bdC (g1 x n).1 :: zAL [], zAx []⟩ : Cd) = ⟨_, _, _, _, bdC (g2 x n).1 :: zAL [], zAx []⟩
   rw [(h1 n).1]; rfl
  ·rw [zAa hk, zAa hk]; exact ⟨rfl, rfl⟩
  ·have hk7 : t.kind = 0 ∨ t.kind = 6 ∨ t.kind = 9 ∨ t.kind = 10 ∨ t.kind = 11 ∨ t.kind = 12 ∨ t.kind = 13 := by rcases hc with ⟨h, _⟩ | ⟨h, _⟩ <;> omega
   rw [zBg hk7, zBg hk7]
   have ht : ∀ u ∈ t.kids.take (zq t), Two g1 g2 u := fun u hu => hks u (List.mem_of_mem_take hu)
   have hd : ∀ u ∈ t.kids.drop (zq t), Two g1 g2 u := fun u hu => hks u (List.mem_of_mem_drop hu)
   have hr : zBU g1 t n = zBU g2 t n := by unfold zBU; rw [zDU _ _ ht, seqN_two _ _ hd]
   dsimp only
   refine ⟨zEq _ n _ _ ht ?_, by rw [hr, armN_two t.arms _ has]⟩
   unfold zCh
   rw [hr, zDU _ _ ht, zBW, zBW]
   show (⟨_, _, _, _, zAL (ZX g1 _ n ++ zBL g1 _ _), zAx (zBX g1 t.arms _)⟩ : Cd) = ⟨_, _, _, _, zAL (ZX g2 _ n ++ zBL g2 _ _), zAx (zBX g2 t.arms _)⟩
   rw [bdKs_app, bdKs_app, takeA_two _ _ ht, seqA_two _ _ hd, armA_two t.arms _ has]; rfl
-- with Select nothing is asked
inductive NoB : Cd → Prop where
 | mk {t : Cd} (h : t.kind ≠ 8) (hk : ∀ u ∈ t.kids, NoB u) (ha : ∀ a ∈ t.arms, NoB a.body) : NoB t
theorem NoB.kid {t u : Cd} (h : NoB t) (hu : u ∈ t.kids) : NoB u := by cases h with | mk _ hk _ => exact hk u hu
theorem NoB.arm {t : Cd} {a : Ca} (h : NoB t) (ha : a ∈ t.arms) : NoB a.body := by cases h with | mk _ _ hh => exact hh a ha
theorem NoB.count {t : Cd} (h : NoB t) : nK 8 t = 0 := by
 induction t using Cd.rec_ with
 | h t ihk iha =>
  have hk : ∀ l : List Cd, (∀ u ∈ l, u ∈ t.kids) → nKs 8 l = 0 := by
   intro l
   induction l with
   | nil => intro _; simp [nKs]
   | cons u l ih => intro hl; rw [nKs, ihk u (hl u (.head _)) (h.kid (hl u (.head _))), ih (fun u hu => hl u (.tail _ hu))]
  have ha : ∀ l : List Ca, (∀ u ∈ l, u ∈ t.arms) → nAs 8 l = 0 := by
   intro l
   induction l with
   | nil => intro _; simp [nAs]
   | cons u l ih => intro hl; rw [zBc, iha u (hl u (.head _)) (h.arm (hl u (.head _))), ih (fun u hu => hl u (.tail _ hu))]
  rw [nK_eq, hk t.kids (fun _ h => h), ha t.arms (fun _ h => h)]
  cases h with | mk h _ _ => rw [if_neg h]
theorem nb_cd2 {k : Int} {s p : Str} {a b : Cd} (hk : k ≠ 8) (ha : NoB a) (hb : NoB b) : NoB (cd2 k s p a b) := .mk hk (fun u hu => by
 rcases List.mem_cons.1 hu with rfl | hu
 ·exact ha
 ·rw [List.mem_singleton] at hu; subst hu; exact hb) (fun a h => nomatch h)
theorem nb_around : ∀ {bl : List Bd} {c : Cd}, (∀ b ∈ bl, b.kind = 7 ∧ NoB b.code) → NoB c → NoB (ZS bl c)
 | [], c, _, h => h
 | b :: bl, c, hb, h => nb_cd2 (by have := (hb b (.head _)).1; omega) (hb b (.head _)).2 (nb_around (fun x hx => hb x (.tail _ hx)) h)
theorem outK_ne {k : Int} : zAf k ≠ 7 ∧ zAf k ≠ 8 := by unfold zAf; (repeat' split) <;> omega
theorem low_nb (tl : Bool) : ∀ (f : Nat) (t : Tm) (n : Nat), LwT t → QuT t → zP t ≤ f → NoB (zS true tl f t n).1
 | 0, t, n, _, _, hc => by have := zk t; omega
 | f + 1, t, n, hl, hq, hc => by
  have hce := zk t
  have hks : ∀ u ∈ t.kids, ∀ n, NoB (zS true tl f u n).1 := fun u hu n => low_nb tl f u n (hl.kid hu) (hq.kid hu) (by have := z6 hu; omega)
  have has : ∀ u ∈ t.arms, ∀ n, NoB (zS true tl f u.body n).1 := fun u hu n => low_nb tl f u.body n (hl.arm hu) (hq.arm hu) (by have := ZO hu; omega)
  have hps : ∀ a ∈ t.arms, ∀ i n, NoB (zS true tl f (Zh tl i a) n).1 := fun a ha i n => by
   have h1 := zCT (tl := tl) (i := i) (hl.arm ha)
   exact low_nb tl f (Zh tl i a) n h1.1 (hq.arm ha).pro (by have := ZO ha; omega)
  rw [show zS true tl (f + 1) t n = ZU true tl (zS true tl f) t n from rfl]
  generalize zS true tl f = g at hks has hps
  rcases zCW hl with ⟨hk, ⟨x, y, e⟩, e2⟩ | ⟨hk, ⟨x, y, e⟩, e2⟩ | ⟨hk, x, e⟩ | ⟨hk, ⟨x, e⟩, e2⟩ | ⟨hk, e, e2⟩ | hc
  ·rw [zEi hk, zAw e, zDh e]; rw [e] at hks
   exact nb_cd2 (by rw [bindK_qu (hq.kid (by rw [e]; exact .head _))]; decide) (hks x (.head _) n) (hks y (.tail _ (.head _)) _)
  ·rw [zEe hk, zAw e, zDh e]; rw [e] at hks
   exact nb_cd2 (by decide) (hks x (.head _) n) (hks y (.tail _ (.head _)) _)
  ·rw [zBh hk, zAw e]; rw [e] at hks
   refine .mk (by show (15 : Int) ≠ 8; decide) (fun u hu => ?_) (fun c hc => ?_)
   ·rw [show u = (g x n).1 from List.mem_singleton.1 hu]; exact hks x (.head _) n
   ·obtain ⟨a, ha, j, m, rfl⟩ := zEa (show c ∈ zBN tl g 0 t.arms (g x n).2 from hc); exact hps a ha j m
  ·rw [zDr hk, zAw e]; rw [e] at hks
   refine .mk (by show (5 : Int) ≠ 8; decide) (fun u hu => ?_) (fun c hc => nomatch hc)
   rw [show u = (g x n).1 from List.mem_singleton.1 hu]; exact hks x (.head _) n
  ·rw [zAa hk]; exact .mk (by show t.kind ≠ 8; omega) (fun u h => nomatch h) (fun a h => nomatch h)
  ·have hk7 : t.kind = 0 ∨ t.kind = 6 ∨ t.kind = 9 ∨ t.kind = 10 ∨ t.kind = 11 ∨ t.kind = 12 ∨ t.kind = 13 := by rcases hc with ⟨h, _⟩ | ⟨h, _⟩ <;> omega
   rw [zBg hk7]
   refine nb_around (fun b hb => ?_) (.mk outK_ne.2 (fun u hu => ?_) (fun c hc => ?_))
   ·obtain ⟨u, hu, m, _, rfl⟩ := zDd hb; exact ⟨bindK_qu (hq.kid (List.mem_of_mem_take hu)), hks u (List.mem_of_mem_take hu) m⟩
   ·rcases List.mem_append.1 (show u ∈ ZX g (t.kids.take (zq t)) n ++ zBL g (t.kids.drop (zq t)) (Zz g (t.kids.take (zq t)) n) from hu) with h | h
    ·rcases zDe h with ⟨v, hv, m, _, rfl⟩ | ⟨s, rfl⟩
     ·exact hks v (List.mem_of_mem_take hv) m
     ·exact .mk (by show (1 : Int) ≠ 8; decide) (fun u h => nomatch h) (fun a h => nomatch h)
    ·obtain ⟨v, hv, m, rfl⟩ := zEc h; exact hks v (List.mem_of_mem_drop hv) m
   ·obtain ⟨a, ha, m, rfl⟩ := zEO (show c ∈ zBX g t.arms (zBU g t n) from hc); exact has a ha m
-- without Select a CodeLet is to an atom
theorem lt_cd2 {k : Int} {s p : Str} {a b : Cd} (h : k = 7 → isAt a) (ha : LtC a) (hb : LtC b) : LtC (cd2 k s p a b) := .mk (fun hk => ⟨a, [b], rfl, h hk⟩) (fun u hu => by
 rcases List.mem_cons.1 hu with rfl | hu
 ·exact ha
 ·rw [List.mem_singleton] at hu; subst hu; exact hb) (fun a h => nomatch h)
theorem lt_around : ∀ {bl : List Bd} {c : Cd}, (∀ b ∈ bl, b.kind = 8 ∧ LtC b.code) → LtC c → LtC (ZS bl c)
 | [], c, _, h => h
 | b :: bl, c, hb, h => lt_cd2 (fun hk => by have := (hb b (.head _)).1; omega) (hb b (.head _)).2 (lt_around (fun x hx => hb x (.tail _ hx)) h)
theorem light_at2 {sel tl : Bool} {f : Nat} {t : Tm} {n : Nat} (hc : zP t ≤ f) (h : Ze t = true) : isAt (zS sel tl f t n).1 := by
 cases f with
 | zero => have := zk t; omega
 | succ f =>
  rw [show zS sel tl (f + 1) t n = ZU sel tl (zS sel tl f) t n from rfl]
  rw [zDZ] at h
  by_cases h5 : t.kind = 5
  ·rw [zDr h5]; exact ⟨by show (1 : Int) ≤ 5; decide, by show (5 : Int) ≤ 5; decide⟩
  ·rw [zAa (by omega)]; exact ⟨by show 1 ≤ t.kind; omega, by show t.kind ≤ 5; omega⟩
theorem low_lt (tl : Bool) : ∀ (f : Nat) (t : Tm) (n : Nat), LwT t → zP t ≤ f → LtC (zS false tl f t n).1
 | 0, t, n, _, hc => by have := zk t; omega
 | f + 1, t, n, hl, hc => by
  have hce := zk t
  have hks : ∀ u ∈ t.kids, ∀ n, LtC (zS false tl f u n).1 := fun u hu n => low_lt tl f u n (hl.kid hu) (by have := z6 hu; omega)
  have hls : ∀ u ∈ t.kids, ∀ n, Ze u = true → isAt (zS false tl f u n).1 := fun u hu n h => light_at2 (by have := z6 hu; omega) h
  have has : ∀ u ∈ t.arms, ∀ n, LtC (zS false tl f u.body n).1 := fun u hu n => low_lt tl f u.body n (hl.arm hu) (by have := ZO hu; omega)
  have hps : ∀ a ∈ t.arms, ∀ i n, LtC (zS false tl f (Zh tl i a) n).1 := fun a ha i n => by
   have h1 := zCT (tl := tl) (i := i) (hl.arm ha)
   exact low_lt tl f (Zh tl i a) n h1.1 (by have := ZO ha; omega)
  rw [show zS false tl (f + 1) t n = ZU false tl (zS false tl f) t n from rfl]
  generalize zS false tl f = g at hks has hps hls
  rcases zCW hl with ⟨hk, ⟨x, y, e⟩, e2⟩ | ⟨hk, ⟨x, y, e⟩, e2⟩ | ⟨hk, x, e⟩ | ⟨hk, ⟨x, e⟩, e2⟩ | ⟨hk, e, e2⟩ | hc
  ·rw [zEi hk, zAw e, zDh e]; rw [e] at hks hls
   refine lt_cd2 (fun h => ?_) (hks x (.head _) n) (hks y (.tail _ (.head _)) _)
   rw [bindK_no] at h
   exact hls x (.head _) n (by by_cases hx : Ze x = true; exact hx; rw [if_neg hx] at h; omega)
  ·rw [zEe hk, zAw e, zDh e]; rw [e] at hks
   exact lt_cd2 (fun h => by omega) (hks x (.head _) n) (hks y (.tail _ (.head _)) _)
  ·rw [zBh hk, zAw e]; rw [e] at hks
   refine .mk (fun h => by exact absurd (show (15 : Int) = 7 from h) (by decide)) (fun u hu => ?_) (fun c hc => ?_)
   ·rw [show u = (g x n).1 from List.mem_singleton.1 hu]; exact hks x (.head _) n
   ·obtain ⟨a, ha, j, m, rfl⟩ := zEa (show c ∈ zBN tl g 0 t.arms (g x n).2 from hc); exact hps a ha j m
  ·rw [zDr hk, zAw e]; rw [e] at hks
   refine .mk (fun h => by exact absurd (show (5 : Int) = 7 from h) (by decide)) (fun u hu => ?_) (fun c hc => nomatch hc)
   rw [show u = (g x n).1 from List.mem_singleton.1 hu]; exact hks x (.head _) n
  ·rw [zAa hk]; exact .mk (fun h => by have h2 : t.kind = 7 := h; omega) (fun u h => nomatch h) (fun a h => nomatch h)
  ·have hk7 : t.kind = 0 ∨ t.kind = 6 ∨ t.kind = 9 ∨ t.kind = 10 ∨ t.kind = 11 ∨ t.kind = 12 ∨ t.kind = 13 := by rcases hc with ⟨h, _⟩ | ⟨h, _⟩ <;> omega
   rw [zBg hk7]
   refine lt_around (fun b hb => ?_) (.mk (fun h => absurd (show zAf t.kind = 7 from h) outK_ne.1) (fun u hu => ?_) (fun c hc => ?_))
   ·obtain ⟨u, hu, m, hlu, rfl⟩ := zDd hb; exact ⟨by show zAB false u = 8; rw [bindK_no, hlu]; rfl, hks u (List.mem_of_mem_take hu) m⟩
   ·rcases List.mem_append.1 (show u ∈ ZX g (t.kids.take (zq t)) n ++ zBL g (t.kids.drop (zq t)) (Zz g (t.kids.take (zq t)) n) from hu) with h | h
    ·rcases zDe h with ⟨v, hv, m, _, rfl⟩ | ⟨s, rfl⟩
     ·exact hks v (List.mem_of_mem_take hv) m
     ·exact .mk (fun h => absurd (show (1 : Int) = 7 from h) (by decide)) (fun u h => nomatch h) (fun a h => nomatch h)
    ·obtain ⟨v, hv, m, rfl⟩ := zEc h; exact hks v (List.mem_of_mem_drop hv) m
   ·obtain ⟨a, ha, m, rfl⟩ := zEO (show c ∈ zBX g t.arms (zBU g t n) from hc); exact has a ha m
theorem bd_count (t : Cd) : nK 8 (bdC t) = nK 7 t + nK 8 t := by
 induction t using Cd.rec_ with
 | h t ihk iha =>
  have hk : ∀ l : List Cd, (∀ u ∈ l, u ∈ t.kids) → nKs 8 (zAL l) = nKs 7 l + nKs 8 l := by
   intro l
   induction l with
   | nil => intro _; simp [nKs, zAL]
   | cons u l ih => intro hl; rw [zAL, nKs, nKs, nKs, ihk u (hl u (.head _)), ih (fun u hu => hl u (.tail _ hu))]; omega
  have ha : ∀ l : List Ca, (∀ u ∈ l, u ∈ t.arms) → nAs 8 (zAx l) = nAs 7 l + nAs 8 l := by
   intro l
   induction l with
   | nil => intro _; simp [nAs, zAx]
   | cons u l ih => intro hl; rw [zAy, zBc, zBc, zBc, show (bdA u).body = bdC u.body from rfl, iha u (hl u (.head _)), ih (fun u hu => hl u (.tail _ hu))]; omega
  rw [zBW, nK_eq, nK_eq 7, nK_eq 8 t]
  have h1 := hk t.kids (fun _ h => h); have h2 := ha t.arms (fun _ h => h)
  show (if (if t.kind = 7 then (8 : Int) else t.kind) = 8 then 1 else 0) + (nKs 8 (zAL t.kids) + nAs 8 (zAx t.arms)) = _
  rw [h1, h2]
  by_cases h7 : t.kind = 7
  ·rw [if_pos h7, if_pos rfl, if_pos h7, if_neg (by omega)]; omega
  ·rw [if_neg h7, if_neg h7]; omega
end Go.Proofs.YtmdhhjmomilhjaaDoor
namespace Go.Proofs.YtmdhhjmomilhjaaDoor
open Go.Proofs.Tryd
set_option linter.all false
set_option maxRecDepth 4000
open Go.RowKit
theorem nK_sz (k : Int) (t : Cd) : nK k t ≤ szC t := by
 induction t using Cd.rec_ with
 | h t ihk iha =>
  have hk : ∀ l : List Cd, (∀ u ∈ l, u ∈ t.kids) → nKs k l ≤ zBI l := by
   intro l
   induction l with
   | nil => intro _; simp [nKs]
   | cons u l ih => intro hl; rw [nKs, zBI]; have := ihk u (hl u (.head _)); have := ih (fun u hu => hl u (.tail _ hu)); omega
  have ha : ∀ l : List Ca, (∀ u ∈ l, u ∈ t.arms) → nAs k l ≤ zCe l := by
   intro l
   induction l with
   | nil => intro _; simp [nAs]
   | cons u l ih => intro hl; rw [zBc, zBe]; have := iha u (hl u (.head _)); have := ih (fun u hu => hl u (.tail _ hu)); omega
  rw [nK_eq, zBD]
  have := hk t.kids (fun _ h => h); have := ha t.arms (fun _ h => h)
  split <;> omega
theorem lowT_sz (sel tl : Bool) {t : Tm} (h : LwT t) : szC (zAR sel tl t) + 2 ≤ 3 * zP t := low_sz sel tl _ t 0 h (Nat.le_refl _)
set_option maxHeartbeats 1600000 in
theorem zEW {w : World} {m : Mem} {p : Pg} {vs_p : List Value} {n : Int} {tl : Bool} (hA : Agree w m) (h_p : PgR m p vs_p) (hT : Tab w) (hbo : zBK p.effects ≤ 1000000000) (hbc : consN p.datas ≤ 1000000000) (hbd : p.datas.length ≤ 1000000000) (hB : ZE p.body ≤ 2100000) : FnV Tryd.prog 5 #[.agg vs_p.toArray, .int .i64 n, .bool tl] w m (fun _ _ v => v = .bool true) := by
 obtain ⟨oE_p, cE_p, oD_p, cD_p, bs_p, rfl, hef_p, hda_p, hpb_p⟩ := id h_p
 have hbe_p := hef_p.big; have hce_p := hef_p.cap; have hbda_p := hda_p.big; have hcd_p := hda_p.cap
 obtain ⟨⟨oK_pb, cK_pb, oA_pb, cA_pb, oR_pb, cR_pb, t0_pb, t1_pb, t2_pb, t3_pb, t4_pb, t5_pb, u0_pb, u1_pb, u2_pb, u3_pb, u4_pb, u5_pb⟩, rfl, hon_pb, hkk_pb, haa_pb, hrr_pb⟩ := hpb_p.open_
 dsimp only at hkk_pb haa_pb hrr_pb
 have hbg_pb := hkk_pb.big; have hcp_pb := hkk_pb.cap; have hbh_pb := haa_pb.big; have hcq_pb := haa_pb.cap
 refine zW (vs := [_, _, _]) func5 rfl rfl rfl fun a0 hfr0 => ?_
 have hst0 := zV hA (zh [] _ w m)
 have hM : MLe m m := MLe.refl m
 refine zB fun _ hK1 => ?_
 refine rp0 hst0 hfr0 (.cons rfl (z1 rfl rfl) <| .cons rfl (zC rfl) <| .nil) fun a1 w1 m1 hst1 hle1 hk1 => ?_
 have hfr1 := hk1.fr (.o 1 <| .o 2 <| .nil)
 obtain ⟨g2, e2, hc3⟩ := hk1.ex 3 rfl
 replace hfr1 := hfr1.cons e2
 replace h_p := h_p.mono hle1
 clear hst0 hfr0 hk1
 refine hK1 _ _ ?_
 refine zB fun _ hK3 => ?_
 refine rp0 hst1 hfr1 (.cons rfl (za rfl (.nil) call9 (fun w m hK => by have hle_ := KC.le hK; have hA := KC.agree hK; have hT := zCN hT hK.st.ext; exact shown_c hA hT)) <| .cons rfl (zC rfl) <| .nil) fun a2 w2 m2 hst2 hle2 hk2 => ?_
 have hfr2 := hk2.fr (.o 1 <| .o 2 <| .o 3 <| .n 7 <| .nil)
 replace h_p := h_p.mono hle2
 replace hc3 := hc3.mono hle2
 clear hst1 hfr1 hk2
 refine hK3 _ _ ?_
 refine zB fun _ hK4 => ?_
 refine zu 3 (by kernel_rfl) ?_
 refine zg (tch := []) hst2 hfr2 (by kernel_rfl) (by kernel_rfl) (by kernel_rfl) (.cons rfl (zN rfl hc3 isAgg35 sizeOf35 rfl rfl) <| .cons rfl (zD rfl) <| .cons rfl (zj (φ := MP.partB 2100000) rfl (.cons rfl <| .cons rfl <| .nil) call20 (fun w m hK => by have hle_ := KC.le hK; have hA := KC.agree hK; have h_p := h_p.mono hle_; exact FnG.mono (part_c hA h_p hbo hbc hbd 2100000 hB (by omega)) fun _ _ _ _ h => h)) <| .nil) fun a3 w3 m3 hst3 hle3 hk3 => ?_
 have hfr3 := hk3.fr (.o 1 <| .o 2 <| .o 3 <| .o 7 <| .nil)
 obtain ⟨⟨⟨xt, yt⟩, bt⟩, e5, ht, hsh_, hct, hbt, hrt, hcl⟩ := hk3.ex 16 rfl
 replace hfr3 := hfr3.cons e5
 clear hst2 hfr2 hk3
 dsimp only at ht hsh_ hct hbt hrt hcl
 have hlw := low_of hrt
 replace hst3 := hst3.more (r := .free) trivial List.nodup_nil (by simp [Res.blocks])
 refine zg (tch := [(3, 0, (fun v => .blk v _)), (4, 0, (fun v => .blk v _))]) hst3 hfr3 (by kernel_rfl) (by kernel_rfl) (by kernel_rfl) (.cons rfl (zD rfl) <| .cons rfl (zU rfl rfl) <| .cons rfl (zU rfl rfl) <| .consT rfl rfl (fun _ => rfl) rfl (zR zeroValue33 rfl) <| .consT rfl rfl (fun _ => rfl) rfl (zT 8 rfl rfl rfl fun y8 => zb rfl rfl rfl rfl rfl sizeOf33 rfl rfl ht.one) <| .cons rfl (zC rfl) <| .nil) fun a4 w4 m4 hst4 hle4 hk4 => ?_
 have hfr4 := hk4.fr (.o 1 <| .o 2 <| .o 3 <| .o 7 <| .o 16 <| .n 9 <| .nil)
 obtain ⟨g6, e6, _⟩ := hk4.ex 8 rfl
 replace hfr4 := hfr4.cons e6
 replace hst4 := hst4.fin (L' := [_]) (.cons e6 <| .cons e6 <| .nil)
 try simp only [List.take_succ_cons, List.take_zero, List.drop_succ_cons, List.drop_zero, List.cons_append, List.nil_append, List.append_nil, List.length_cons, List.length_nil, Nat.zero_add, Nat.reduceAdd] at hst4
 replace ht := ht.mono hle4
 clear hst3 hfr3 hk4
 refine hK4 _ _ ?_
 refine zB fun _ hK7 => ?_
 refine zB fun _ hK8 => ?_
 refine rp0 hst4 hfr4 (.cons rfl (zD rfl) <| .cons rfl (Zg rfl) <| .nil) fun a5 w5 m5 hst5 hle5 hk5 => ?_
 have hfr5 := hk5.fr (.o 2 <| .o 7 <| .o 8 <| .n 20 <| .nil)
 replace ht := ht.mono hle5
 clear hst4 hfr4 hk5
 refine hK8 _ _ ?_
 refine zF hfr5 rfl rfl (fun hb20 => ?_) (fun hb20 => ?_)
 ·try simp only [nqs] at hb20
  refine zB fun _ hK9 => ?_
  refine rp0 hst5 hfr5 (.cons rfl (zD rfl) <| .cons rfl (zC rfl) <| .nil) fun a6 w6 m6 hst6 hle6 hk6 => ?_
  have hfr6 := hk6.fr (.n 6 <| .nil)
  clear hst5 hfr5 hk6
  refine hK9 _ _ ?_
  refine zL ?_
  repeat (with_reducible first | refine zI ?_ | refine zG ?_)
  exact zM hst6 hfr6 rfl (.tmp rfl <| .nil) (rfl)
 ·try simp only [nqs] at hb20
  refine zJ ?_
  refine hK7 _ _ ?_
  refine zB fun _ hK11 => ?_
  refine zu 2 (by kernel_rfl) ?_
  refine zg (tch := []) hst5 hfr5 (by kernel_rfl) (by kernel_rfl) (by kernel_rfl) (.cons rfl (zX (j := 0) rfl rfl isAgg33 sizeOf33 rfl) <| .cons rfl (ZC (.cons rfl <| .nil) underlying27 sizeOf9 zeroValue9 rfl rfl rfl rfl) <| .nil) fun a6 w6 m6 hst6 hle6 hk6 => ?_
  have hfr6 := hk6.fr (.o 2 <| .o 7 <| .o 8 <| .n 23 <| .nil)
  obtain ⟨gS, e12, hgS⟩ := hk6.ex 24 rfl
  replace hfr6 := hfr6.cons e12
  clear hst5 hfr5 hk6
  refine zCX 2 (by kernel_rfl) ?_
  refine zg (tch := []) hst6 hfr6 (by kernel_rfl) (by kernel_rfl) (by kernel_rfl) (.cons rfl (zt (.cons rfl <| .nil) underlying29 zeroValue29 (.cons sizeOf27 <| .cons sizeOf3 <| .nil) rfl) <| .cons rfl (zt (.nil) underlying29 zeroValue29 (.cons sizeOf27 <| .cons sizeOf3 <| .nil) rfl) <| .nil) fun a7 w7 m7 hst7 hle7 hk7 => ?_
  have hfr7 := hk7.fr (.o 2 <| .o 7 <| .o 8 <| .o 23 <| .o 24 <| .n 25 <| .n 26 <| .nil)
  clear hst6 hfr6 hk7
  refine zCX 1 (by kernel_rfl) ?_
  refine zg (tch := []) hst7 hfr7 (by kernel_rfl) (by kernel_rfl) (by kernel_rfl) (.cons rfl (zAA rfl rfl underlying36 sizeOf29 zeroValue29 rfl rfl rfl rfl rfl) <| .nil) fun a8 w8 m8 hst8 hle8 hk8 => ?_
  have hfr8 := hk8.fr (.o 2 <| .o 7 <| .o 8 <| .o 23 <| .o 24 <| .o 25 <| .o 26 <| .nil)
  obtain ⟨gR, e13, hgR⟩ := hk8.ex 27 rfl
  replace hfr8 := hfr8.cons e13
  clear hst7 hfr7 hk8
  have zq1 := hle7.trans hle8
  replace hgS := hgS.mono zq1
  have hrl : Rws m8 (some ⟨gR, 0, none⟩) 2 2 ZN := Sl.two (R := fun m vs r => RwR m r vs) (by exact hgR) rfl rfl ⟨_, _, rfl, Sl.one (vs := [_]) hgS rfl rfl, inI0⟩ ⟨_, _, rfl, Sl.empty, inI0⟩
  refine zCX 1 (by kernel_rfl) ?_
  have zq2 := hle6.trans zq1
  replace ht := ht.mono zq2
  refine zg (tch := []) hst8 hfr8 (by kernel_rfl) (by kernel_rfl) (by kernel_rfl) (.cons rfl (zj (φ := MP.rowsV ZN xt 0) rfl (.cons rfl <| .cons rfl <| .cons rfl <| .nil) call21 (fun w m hK => by have hle_ := KC.le hK; have hA := KC.agree hK; have ht := ht.mono hle_; have hrl := hrl.mono hle_; exact FnG.mono ((rows_c xt (rl := ZN) (o_rl := some ⟨gR, 0, none⟩) (c_rl := 2) (n := 0) hA ht hrl (by omega))) fun _ _ _ _ h => h)) <| .nil) fun a9 w9 m9 hst9 hle9 hk9 => ?_
  have hfr9 := hk9.fr (.o 2 <| .o 7 <| .o 8 <| .o 23 <| .o 24 <| .o 25 <| .o 26 <| .o 27 <| .nil)
  obtain ⟨yr, e14, hyr⟩ := hk9.ex 28 rfl
  replace hfr9 := hfr9.cons e14
  clear hst8 hfr8 hk9
  refine zg (tch := [(3, 0, (fun _ => .blk _ _))]) hst9 hfr9 (by kernel_rfl) (by kernel_rfl) (by kernel_rfl) (.cons rfl (zD rfl) <| .cons rfl (zU rfl rfl) <| .cons rfl (zU rfl rfl) <| .consT rfl rfl (fun _ => rfl) rfl (zc rfl rfl rfl sizeOf33 rfl rfl hyr.one) <| .nil) fun a10 w10 m10 hst10 hle10 hk10 => ?_
  have hfr10 := hk10.fr (.o 2 <| .o 7 <| .o 8 <| .o 23 <| .o 24 <| .o 25 <| .o 26 <| .o 27 <| .o 28 <| .nil)
  replace hst10 := hst10.fin (L' := [_]) (.cons rfl <| .nil)
  try simp only [List.take_succ_cons, List.take_zero, List.drop_succ_cons, List.drop_zero, List.cons_append, List.nil_append, List.append_nil, List.length_cons, List.length_nil, Nat.zero_add, Nat.reduceAdd] at hst10
  clear hst9 hfr9 hk10
  have hlr : LwT (ZG ZN xt 0) := hlw.rows _ _
  have hcr := rows_count ZN xt 0
  have hbr := rows_bulk ZN xt 0
  refine hK11 _ _ ?_
  refine zB fun _ hK15 => ?_
  refine zu 4 (by kernel_rfl) ?_
  replace hyr := hyr.mono hle10
  refine zg (tch := []) hst10 hfr10 (by kernel_rfl) (by kernel_rfl) (by kernel_rfl) (.cons rfl (zX (j := 0) rfl rfl isAgg33 sizeOf33 rfl) <| .cons rfl (zD rfl) <| .cons rfl (zt (.cons rfl <| .cons rfl <| .nil) underlying38 zeroValue38 (.cons sizeOf4 <| .cons sizeOf4 <| .nil) rfl) <| .cons rfl (zj (φ := MP.cd (zAR true tl (ZG ZN xt 0))) rfl (.cons rfl <| .cons rfl <| .nil) call12 (fun w m hK => by have hle_ := KC.le hK; have hA := KC.agree hK; have hT := zCN hT hK.st.ext; have hyr := hyr.mono hle_; exact FnG.mono (lower_c (t := (ZG ZN xt 0)) (sel := true) (tl := tl) hA hyr hT hlr (by omega) (by omega)) fun _ _ _ _ h => h)) <| .nil) fun a11 w11 m11 hst11 hle11 hk11 => ?_
  have hfr11 := hk11.fr (.o 2 <| .o 7 <| .o 8 <| .o 23 <| .o 24 <| .o 25 <| .o 26 <| .o 27 <| .o 28 <| .nil)
  obtain ⟨y34, e16, hy34⟩ := hk11.ex 34 rfl
  replace hfr11 := hfr11.cons e16
  clear hst10 hfr10 hk11
  replace hst11 := hst11.more (r := .free) trivial List.nodup_nil (by simp [Res.blocks])
  refine zg (tch := [(0, 1, (fun v => .blk v _)), (1, 1, (fun v => .blk v _))]) hst11 hfr11 (by kernel_rfl) (by kernel_rfl) (by kernel_rfl) (.consT rfl rfl (fun _ => rfl) rfl (zR zeroValue46 rfl) <| .consT rfl rfl (fun _ => rfl) rfl (zT 10 rfl rfl rfl fun y10 => zb rfl rfl rfl rfl rfl sizeOf46 rfl rfl hy34.one) <| .nil) fun a12 w12 m12 hst12 hle12 hk12 => ?_
  have hfr12 := hk12.fr (.o 2 <| .o 7 <| .o 8 <| .o 23 <| .o 24 <| .o 25 <| .o 26 <| .o 27 <| .o 28 <| .o 34 <| .nil)
  obtain ⟨g17, e17, _⟩ := hk12.ex 10 rfl
  replace hfr12 := hfr12.cons e17
  replace hst12 := hst12.fin (L' := [_, _]) (.cons e17 <| .cons e17 <| .nil)
  try simp only [List.take_succ_cons, List.take_zero, List.drop_succ_cons, List.drop_zero, List.cons_append, List.nil_append, List.append_nil, List.length_cons, List.length_nil, Nat.zero_add, Nat.reduceAdd] at hst12
  clear hst11 hfr11 hk12
  refine hK15 _ _ ?_
  refine zB fun _ hK18 => ?_
  refine zu 4 (by kernel_rfl) ?_
  have zq3 := hle11.trans hle12
  replace hyr := hyr.mono zq3
  refine zg (tch := []) hst12 hfr12 (by kernel_rfl) (by kernel_rfl) (by kernel_rfl) (.cons rfl (zX (j := 0) rfl rfl isAgg33 sizeOf33 rfl) <| .cons rfl (zD rfl) <| .cons rfl (zt (.cons rfl <| .nil) underlying38 zeroValue38 (.cons sizeOf4 <| .cons sizeOf4 <| .nil) rfl) <| .cons rfl (zj (φ := MP.cd (zAR false tl (ZG ZN xt 0))) rfl (.cons rfl <| .cons rfl <| .nil) call12 (fun w m hK => by have hle_ := KC.le hK; have hA := KC.agree hK; have hT := zCN hT hK.st.ext; have hyr := hyr.mono hle_; exact FnG.mono (lower_c (t := (ZG ZN xt 0)) (sel := false) (tl := tl) hA hyr hT hlr (by omega) (by omega)) fun _ _ _ _ h => h)) <| .nil) fun a13 w13 m13 hst13 hle13 hk13 => ?_
  have hfr13 := hk13.fr (.o 2 <| .o 7 <| .o 8 <| .o 23 <| .o 24 <| .o 25 <| .o 26 <| .o 27 <| .o 28 <| .o 34 <| .o 10 <| .nil)
  obtain ⟨y38, e19, hy38⟩ := hk13.ex 38 rfl
  replace hfr13 := hfr13.cons e19
  clear hst12 hfr12 hk13
  replace hst13 := hst13.more (r := .free) trivial List.nodup_nil (by simp [Res.blocks])
  refine zg (tch := [(0, 2, (fun v => .blk v _)), (1, 2, (fun v => .blk v _))]) hst13 hfr13 (by kernel_rfl) (by kernel_rfl) (by kernel_rfl) (.consT rfl rfl (fun _ => rfl) rfl (zR zeroValue46 rfl) <| .consT rfl rfl (fun _ => rfl) rfl (zT 11 rfl rfl rfl fun y11 => zb rfl rfl rfl rfl rfl sizeOf46 rfl rfl hy38.one) <| .nil) fun a14 w14 m14 hst14 hle14 hk14 => ?_
  have hfr14 := hk14.fr (.o 2 <| .o 7 <| .o 8 <| .o 23 <| .o 24 <| .o 25 <| .o 26 <| .o 27 <| .o 28 <| .o 34 <| .o 10 <| .o 38 <| .nil)
  obtain ⟨g20, e20, _⟩ := hk14.ex 11 rfl
  replace hfr14 := hfr14.cons e20
  replace hst14 := hst14.fin (L' := [_, _, _]) (.cons e20 <| .cons e20 <| .nil)
  try simp only [List.take_succ_cons, List.take_zero, List.drop_succ_cons, List.drop_zero, List.cons_append, List.nil_append, List.append_nil, List.length_cons, List.length_nil, Nat.zero_add, Nat.reduceAdd] at hst14
  clear hst13 hfr13 hk14
  refine hK18 _ _ ?_
  refine zB fun _ hK21 => ?_
  have h80 : nK 8 (zAR true tl (ZG ZN xt 0)) = 0 := (low_nb tl _ (ZG ZN xt 0) 0 hlr (qu_rows xt 0) (Nat.le_refl _)).count
  have htwo : bdC (zAR true tl (ZG ZN xt 0)) = bdC (zAR false tl (ZG ZN xt 0)) := (zED tl _ (ZG ZN xt 0) hlr (Nat.le_refl _) 0).1
  have h70 : nK 7 (zAR true tl (ZG ZN xt 0)) = nK 7 (zAR false tl (ZG ZN xt 0)) + nK 8 (zAR false tl (ZG ZN xt 0)) := by have e1 := bd_count (zAR true tl (ZG ZN xt 0)); have e2 := bd_count (zAR false tl (ZG ZN xt 0)); rw [htwo] at e1; omega
  have hsa := lowT_sz true tl hlr; have hsb := lowT_sz false tl hlr
  have k1 := nK_sz 7 (zAR true tl (ZG ZN xt 0)); have k2 := nK_sz 8 (zAR true tl (ZG ZN xt 0)); have k3 := nK_sz 7 (zAR false tl (ZG ZN xt 0)); have k4 := nK_sz 8 (zAR false tl (ZG ZN xt 0))
  have zq4 := hle13.trans hle14
  have zq5 := hle12.trans zq4
  replace hy34 := hy34.mono zq5
  replace hy38 := hy38.mono hle14
  refine ZH (fun _ => mixed) hst14 hfr14 (by kernel_rfl) (by kernel_rfl) (.cons rfl (zD rfl) <| .cons rfl (zD rfl) <| .cons rfl (zX (j := 1) rfl rfl isAgg46 sizeOf46 rfl) <| .cons rfl (za rfl (.cons rfl <| .cons rfl <| .nil) call16 (fun w m hK => by have hle_ := KC.le hK; have hA := KC.agree hK; have hy34 := hy34.mono hle_; exact zCP (zAR true tl (ZG ZN xt 0)) (k := 8) hA hy34 (by omega))) <| .cons rfl (zZ rfl rfl) <| .cons rfl (ZM rfl rfl rfl) <| .cons rfl (zD rfl) <| .cons rfl (zX (j := 1) rfl rfl isAgg46 sizeOf46 rfl) <| .cons rfl (za rfl (.cons rfl <| .cons rfl <| .nil) call16 (fun w m hK => by have hle_ := KC.le hK; have hA := KC.agree hK; have hy34 := hy34.mono hle_; exact zCP (zAR true tl (ZG ZN xt 0)) (k := 7) hA hy34 (by omega))) <| .cons rfl (zX (j := 2) rfl rfl isAgg46 sizeOf46 rfl) <| .cons rfl (za rfl (.cons rfl <| .cons rfl <| .nil) call16 (fun w m hK => by have hle_ := KC.le hK; have hA := KC.agree hK; have hy38 := hy38.mono hle_; exact zCP (zAR false tl (ZG ZN xt 0)) (k := 7) hA hy38 (by omega))) <| .cons rfl (zX (j := 2) rfl rfl isAgg46 sizeOf46 rfl) <| .cons rfl (za rfl (.cons rfl <| .cons rfl <| .nil) call16 (fun w m hK => by have hle_ := KC.le hK; have hA := KC.agree hK; have hy38 := hy38.mono hle_; exact zCP (zAR false tl (ZG ZN xt 0)) (k := 8) hA hy38 (by omega))) <| .cons rfl (zi rfl rfl ⟨by omega, by omega⟩) <| .cons rfl (zZ rfl rfl) <| .cons rfl (ZM rfl rfl rfl) <| .cons rfl (zD rfl) <| .cons rfl (zX (j := 2) rfl rfl isAgg46 sizeOf46 rfl) <| .cons rfl (za rfl (.cons rfl <| .nil) call22 (fun w m hK => by have hle_ := KC.le hK; have hA := KC.agree hK; have hy38 := hy38.mono hle_; exact lets_c (zAR false tl (ZG ZN xt 0)) hA hy38 (low_lt tl _ (ZG ZN xt 0) 0 hlr (Nat.le_refl _)))) <| .cons rfl (ZM rfl rfl rfl) <| .cons rfl (zD rfl) <| .cons rfl (zX (j := 1) rfl rfl isAgg46 sizeOf46 rfl) <| .cons rfl (zj (φ := MP.cd (bdC (zAR true tl (ZG ZN xt 0)))) rfl (.cons rfl <| .nil) call23 (fun w m hK => by have hle_ := KC.le hK; have hA := KC.agree hK; have hy34 := hy34.mono hle_; exact FnG.mono (boundC_c (zAR true tl (ZG ZN xt 0)) hA hy34 (by omega)) fun _ _ _ _ h => h)) <| .cons rfl (zX (j := 2) rfl rfl isAgg46 sizeOf46 rfl) <| .cons rfl (zj (φ := MP.cd (bdC (zAR false tl (ZG ZN xt 0)))) rfl (.cons rfl <| .nil) call23 (fun w m hK => by have hle_ := KC.le hK; have hA := KC.agree hK; have hy38 := hy38.mono hle_; exact FnG.mono (boundC_c (zAR false tl (ZG ZN xt 0)) hA hy38 (by omega)) fun _ _ _ _ h => h)) <| .cons rfl (zAM 61 rfl rfl rfl fun y61 => zAM 63 rfl rfl rfl fun y63 => za rfl (.cons rfl <| .cons rfl <| .nil) call13 (fun w m hK => by have hle_ := KC.le hK; have hA := KC.agree hK; have hr0_ := hK.2; have hr1_ := hK.1.2; exact csame_c (bdC (zAR true tl (ZG ZN xt 0))) hA hr1_ (by rw [htwo]; exact hr0_))) <| .cons rfl (ZM rfl rfl rfl) <| .cons rfl (zC rfl) <| .nil) fun a15 w15 m15 hst15 hle15 hk15 => ?_
  have hfr15 := hk15.fr (.n 6 <| .nil)
  clear hst14 hfr14 hk15
  refine hK21 _ _ ?_
  refine zL ?_
  repeat (with_reducible first | refine zI ?_ | refine zG ?_)
  exact zM hst15 hfr15 rfl (.tmp rfl <| .nil) (by refine congrArg Value.bool ?_; simp [h80, h70])
end Go.Proofs.YtmdhhjmomilhjaaDoor
namespace Go.Proofs.YtmdhhjmomilhjaaDoor
set_option linter.all false
open Go.RowKit Go.WideShapes Go.ChangeShapes Go.Deep Go.WideElems Go.ChangeAt Go.ChangeMaps
def zBM (W : World) : Mem := ⟨fun b o => W.cell? ⟨b, o, none⟩, fun b => match W.heap[b]? with | some (.map es cl) => some (es, cl) | _ => none⟩
theorem agree_snap (W : World) : Agree W (zBM W) := ⟨fun _ _ _ h => h, fun b es h => by
 change (match W.heap[b]? with | some (.map es cl) => some (es, cl) | _ => none) = some es at h
 split at h
 ·rename_i ents cl he
  injection h with h
  subst h; exact he
 ·cases h⟩
theorem cell_spot {W : World} {a : Addr} {v : Value} (h : W.cell? a = some v) : a.spot = none := by
 unfold World.cell? at h
 split at h
 ·split at h
  ·cases h
  ·rename_i hs; cases e : a.spot with
   | none => rfl
   | some x => rw [e] at hs; exact absurd rfl hs
 ·cases h
theorem snap_of {W : World} {a : Addr} {v : Value} (h : W.cell? a = some v) : zBM W a.block a.off = some v := by
 have := cell_spot h
 show W.cell? ⟨a.block, a.off, none⟩ = some v
 rw [← h]; congr 1
 cases a; simp only at this; subst this; rfl
theorem cellsAt_snap {W : World} {base : Nat} {a : Addr} {n : Nat} {cs : List Value} (h : W.cells? base a n = some cs) (hn : 0 < n) : CellsAt (zBM W) a cs ∧ cs.length = n := by
 obtain ⟨_, hl, hat⟩ := World.cells?_some h
 have h0 := hat 0 hn
 have e0 : a.add 0 = a := by unfold Addr.add; rfl
 rw [e0, List.getElem?_eq_getElem (by omega)] at h0
 refine ⟨⟨cell_spot h0, fun i v e => ?_⟩, hl⟩
 have hi : i < n := by have := (List.getElem?_eq_some_iff.1 e).1; omega
 have := hat i hi
 rw [e] at this
 have := snap_of this
 rwa [zCZ, zEH] at this
section
variable {H : Type} {enc : TypeId × Value → H} {P : Program} {W : World} {base : Nat} {spare : Nat → Bool} {held : Bool}
theorem open_I {r : Reach} {b0 : Nat} {t : TypeId} {v : Value} {d : DataW H} {ps : List MemPlace} (ht : P.underlying t = some (.int .i64)) (hval : Value.okWide P W r b0 t v) (hd : DataW.Trod enc P W base spare held t v d ps) :
  ∃ n : Int, v = .int .i64 n ∧ zAH n := by
 obtain ⟨n, rfl, _, _, hs⟩ := open_int ht hval hd
 simp only [Lit.wf, Bool.and_eq_true, decide_eq_true_eq] at hs
 have h1 : IntKind.i64.min = -9223372036854775808 := by decide
 have h2 : IntKind.i64.max = 9223372036854775807 := by decide
 exact ⟨n, rfl, by omega, by omega⟩
theorem zCj (hl : laidOutB P = true) {W' : World} {sp : Nat → Bool} : ∀ {ts : List TypeId} {vs : List Value} {ds : List (DataW H)} {ps : List MemPlace}, (ts.all fun t => P.readableRec t && decide (t < P.types.size)) = true →
  DataW.TrodAll enc P W base (fun _ => true) true ts vs ds ps → (∀ p ∈ ps, W.sameAt W' p) → (∀ p ∈ ps, sp p.block = true) → DataW.TrodAll enc P W' base sp true ts vs ds ps
 | [], vs, ds, ps, _, h, _, _ => by
  obtain ⟨rfl, rfl, rfl⟩ := trodAll_nil h
  exact rfl
 | t :: ts, vs, ds, ps, hts, h, h1, h2 => by
  obtain ⟨v, vs', d, ds', p, q, rfl, rfl, rfl, hd, hr⟩ := trodAll_cons h
  simp only [List.all_cons, Bool.and_eq_true, decide_eq_true_eq] at hts
  obtain ⟨⟨hr1, hr2⟩, hts'⟩ := hts
  exact ⟨p, q, Trod_stays hl hr1 hr2 hd (fun x hx => h1 x (List.mem_append_left _ hx)) (fun x hx => h2 x (List.mem_append_left _ hx)),
   zCj hl hts' hr (fun x hx => h1 x (List.mem_append_right _ hx)) (fun x hx => h2 x (List.mem_append_right _ hx)), rfl⟩
theorem post_law {f : Func} {s : ChangeSpec} {W' : World} {m' : Mem} {args : Array Value} {ds : List (DataW H)} {gs : List (DataW H)} {before : List MemPlace} {t : TypeId}
  (hl : laidOutB P = true) (hts : (f.params.toList.all fun t => P.readableRec t && decide (t < P.types.size)) = true) (hvs : s.vars = []) (hres : f.resultTypes = #[t]) (ht : P.underlying t = some .bool)
  (hfn : s.fn H (ds ++ gs) = { results := [.lit (.bool true)], args := ds }) (hW : DataW.Whole enc P f.params.toList s.vars false W args.toList ds gs before) (hx : ExtG [] W (zBM W) W' m') :
  s.post enc P f false true false false W args (.bool true) W' := by
 have hb := hx.below
 have hlt : ∀ p ∈ before, p.block < W.heap.size := fun p hp => hW.lt p hp
 have hold : ∀ p ∈ before, (fun b => decide (b < W.heap.size)) p.block = true := fun p hp => by simpa using hlt p hp
 have hsame : ∀ p ∈ before, W.sameAt W' p := fun p hp => hb.same (hlt p hp)
 have hW0 := hW
 obtain ⟨pa, pv, hA, hV, hps, hz, hn⟩ := hW
 rw [hvs] at hV
 obtain ⟨rfl, rfl⟩ := trodVars_none hV
 rw [List.append_nil] at hps
 subst hps
 have hres' : ∀ (b : Nat) (sp : Nat → Bool) (hd : Bool), DataW.TrodAll enc P W' b sp hd f.resultTypes.toList ((Value.bool true).resultList f.resultTypes.size) (s.fn H (ds ++ [])).results [] := fun b sp hd => by
  rw [hfn, hres]
  exact trodAll_mk1 ⟨1, by simp [DataW.trod, Value.cells, ht]⟩
 have hargs : ∀ sp : Nat → Bool, (∀ p ∈ before, sp p.block = true) → DataW.TrodAll enc P W' 0 sp true f.params.toList args.toList (s.fn H (ds ++ [])).args before := fun sp hsp => by
  rw [hfn]; exact zCj hl hts hA hsame hsp
 have hvars : ∀ sp : Nat → Bool, DataW.TrodVars enc P W' sp s.vars (s.fn H (ds ++ [])).vars [] := fun sp => by
  rw [hvs, hfn]; exact rfl
 refine ⟨ds, [], before, [], before, [], hW0, hres' _ _ _, hargs _ hold, hvars _, World.keptBut_mono (fun p hp => ⟨hp, ?_⟩) (hb.frame (· ∈ before)), fun _ => ?_⟩
 ·exact Or.inr (Or.inl hp)
 ·refine ⟨ok_one hres rfl (okWide_bool_mk ht true), _, _, ([] ++ before) ++ [], ⟨[] ++ before, [], trodAll_append (hargs _ (fun _ _ => rfl)) (hres' _ _ _), hvars _, rfl, ?_, ?_⟩, ?_⟩
  ·intro b off hp
   have hin : MemPlace.cell b off ∈ before := by simpa using hp
   rw [hb.frozen (hlt _ hin)]
   exact hz b off hin
  ·intro ha
   have := hn ha
   simpa using this
  ·intro p hp _
   simpa using hp
end
end Go.Proofs.YtmdhhjmomilhjaaDoor
namespace Go.Proofs.YtmdhhjmomilhjaaDoor
set_option linter.all false
open Go.RowKit Go.WideShapes Go.ChangeShapes Go.Deep Go.WideElems Go.ChangeAt Go.ChangeMaps
section
variable {H : Type} {enc : TypeId × Value → H} {P : Program} {W : World} {base : Nat} {spare : Nat → Bool} {held : Bool}
theorem bulk_mem {d : DataW H} : ∀ {l : List (DataW H)}, d ∈ l → Rows.uptoBulk d ≤ Rows.uptoBulkAll l
 | x :: l, h => by
  rw [Rows.uptoBulkAll]
  rcases List.mem_cons.1 h with rfl | h
  ·omega
  ·have := bulk_mem h; omega
theorem zAp (d : DataW H) : 1 ≤ Rows.uptoBulk d := by
 cases d with
 | lit l => cases l <;> simp [Rows.uptoBulk]
 | _ => simp [Rows.uptoBulk]
theorem bulk_app : ∀ (l r : List (DataW H)), Rows.uptoBulkAll (l ++ r) = Rows.uptoBulkAll l + Rows.uptoBulkAll r
 | [], r => by simp [Rows.uptoBulkAll]
 | x :: l, r => by simp only [List.cons_append, Rows.uptoBulkAll, bulk_app l r]; omega
theorem zAT {α : Type} {R : Mem → List Value → α → Prop} {β : α → Nat} {t e : TypeId} {sz fuel : Nat} {cs : List Value} {x : DataW H × List MemPlace} (B : Nat) (ht : P.underlying t = some (.slice e)) (hc : P.cellsOf e = sz) (hsz : 0 < sz)
  (hR : ∀ n cs (x : DataW H × List MemPlace), Rows.uptoBulk x.1 < B → DataW.trod enc P W base spare held n e cs = some x → cs.length = sz → ∃ a : α, R (zBM W) cs a ∧ β a ≤ Rows.uptoBulk x.1)
  (h : DataW.trod enc P W base spare held fuel t cs = some x) (hB : Rows.uptoBulk x.1 ≤ B) :
  ∃ o n c l, cs = [.slice o n c] ∧ Sl R sz (zBM W) o n c l ∧ c ≤ maxLen ∧ (l.map β).sum + 1 ≤ Rows.uptoBulk x.1 := by
 rcases open_slice ht h with ⟨rfl, rfl⟩ | ⟨a, len, cap, m, n, D, Pl, rfl, hb, hl, hm, hmm, rfl, hi⟩
 ·exact ⟨none, 0, 0, [], rfl, ⟨rfl, Nat.le_refl _, Nat.zero_le _, fun i x hx => by simp at hx⟩, Nat.zero_le _, by simp [Rows.uptoBulk]⟩
 ·have hlm : len ≤ m := by rw [hmm]; split <;> omega
  simp only [Rows.uptoBulk] at hB ⊢
  have key : ∀ k, k ≤ len → ∃ l : List α, l.length = k ∧ (l.map β).sum ≤ Rows.uptoBulkAll ((List.range k).map D) ∧ ∀ i x, l[i]? = some x → ∃ vs, CellsAt (zBM W) (a.add (i * sz)) vs ∧ vs.length = sz ∧ R (zBM W) vs x := by
   intro k
   induction k with
   | zero => intro _; exact ⟨[], rfl, by simp, fun i x hx => by simp at hx⟩
   | succ k ih =>
    intro hk
    obtain ⟨l, hl1, hl0, hl2⟩ := ih (by omega)
    obtain ⟨cs', hcs, htr⟩ := hi k (by omega)
    rw [hc] at hcs
    obtain ⟨h1, h2⟩ := cellsAt_snap hcs hsz
    have hD : Rows.uptoBulk (D k) ≤ Rows.uptoBulkAll ((List.range len).map D) := bulk_mem (List.mem_map.2 ⟨k, List.mem_range.2 (by omega), rfl⟩)
    obtain ⟨y, hy, hβ⟩ := hR n cs' _ (by simp only; omega) htr h2
    refine ⟨l ++ [y], by simp [hl1], ?_, fun i x hx => ?_⟩
    ·simp only [List.range_succ, List.map_append, bulk_app, List.sum_append, List.map_cons, List.map_nil, List.sum_cons, List.sum_nil, Rows.uptoBulkAll] at hβ ⊢; omega
    rw [List.getElem?_append] at hx
    split at hx
    ·exact hl2 i x hx
    ·have hik : i = k := by
      have := (List.getElem?_eq_some_iff.1 hx).1
      simp at this; omega
     subst hik
     rw [hl1, Nat.sub_self] at hx
     simp only [List.getElem?_cons_zero, Option.some.injEq] at hx
     subst hx
     exact ⟨cs', h1, h2, hy⟩
  obtain ⟨l, hl1, hl0, hl2⟩ := key len (Nat.le_refl _)
  refine ⟨some a, len, cap, l, rfl, ⟨hl1, hl, ?_, fun i x hx => ?_⟩, hm, by omega⟩
  ·simp only [maxLen] at hm; omega
  ·obtain ⟨vs, h1, h2, h3⟩ := hl2 i x hx
   exact ⟨a, vs, rfl, h1, h2, h3⟩
theorem Za {e : TypeId} {fs : Array Field} {fuel : Nat} {cs : List Value} {x : DataW H × List MemPlace} (he : P.underlying e = some (.struct fs)) (h : DataW.trod enc P W base spare held fuel e cs = some x) :
  ∃ (n : Nat) (ys : List (DataW H × List MemPlace)), ys.length = fs.size ∧ Rows.uptoBulk x.1 = Rows.uptoBulkAll (ys.map (·.1)) + 1 ∧ cs.length = P.cellsOf e ∧
   ∀ (i : Nat) (f : Field), fs[i]? = some f → ∃ y, ys[i]? = some y ∧ DataW.trod enc P W base spare held n f.type ((cs.drop f.offset).take (P.cellsOf f.type)) = some y := by
 obtain ⟨xs, n, rfl, rfl, hl, hx, hf⟩ := DataW.trod_struct he h
 refine ⟨n, xs, hx, by simp [Rows.uptoBulk], hl, fun i f hi => ?_⟩
 have h1 : i < fs.size := (Array.getElem?_eq_some_iff.1 hi).1
 have h2 : xs[i]? = some (xs[i]'(by omega)) := List.getElem?_eq_getElem (by omega)
 exact ⟨_, h2, (hf i f hi).trans h2⟩
theorem zBE {t : TypeId} {n : Nat} {cs : List Value} {x : DataW H × List MemPlace} (ht : P.underlying t = some (.int .i64)) (h : DataW.trod enc P W base spare held n t cs = some x) : ∃ k : Int, cs = [.int .i64 k] ∧ zAH k ∧ Rows.uptoBulk x.1 = 1 := by
 obtain ⟨k, e, rfl, hs⟩ := DataW.trod_int ht h
 simp only [Lit.wf, Bool.and_eq_true, decide_eq_true_eq] at hs
 have h1 : IntKind.i64.min = -9223372036854775808 := by decide
 have h2 : IntKind.i64.max = 9223372036854775807 := by decide
 exact ⟨k, e, ⟨by omega, by omega⟩, by simp [Rows.uptoBulk]⟩
theorem zAV {t : TypeId} {n : Nat} {cs : List Value} {x : DataW H × List MemPlace} (ht : P.underlying t = some .string) (h : DataW.trod enc P W base spare held n t cs = some x) : ∃ l : Str, cs = [S l] ∧ l.length ≤ maxLen ∧ Rows.uptoBulk x.1 = l.length + 1 := by
 obtain ⟨s, e, rfl, hs⟩ := DataW.trod_string ht h
 obtain ⟨⟨l⟩⟩ := s
 exact ⟨l, e, by rw [S_size] at hs; exact hs, by simp [Rows.uptoBulk]⟩
end
end Go.Proofs.YtmdhhjmomilhjaaDoor
namespace Go.Proofs.YtmdhhjmomilhjaaDoor
open Go.Proofs.Tryd
set_option linter.all false
set_option maxRecDepth 4000
open Go.RowKit Go.WideShapes Go.ChangeShapes Go.Deep Go.WideElems Go.ChangeAt Go.ChangeMaps
theorem sum_two (l : List Str) : (l.map fun x => x.length + 2).sum ≤ 2 * (l.map fun s => s.length + 1).sum := by
 induction l with
 | nil => simp
 | cons x xs ih => simp only [List.map_cons, List.sum_cons]; omega
theorem zDS {H : Type} {enc : TypeId × Value → H} {W : World} {base : Nat} {spare : Nat → Bool} {held : Bool} {n : Nat} {cs : List Value} {x : DataW H × List MemPlace} (h : DataW.trod enc Tryd.prog W base spare held n 27 cs = some x) :
  ∃ o c l, cs = [.slice o l.length c] ∧ Strs (zBM W) o l.length c l ∧ (l.map fun x => x.length + 2).sum ≤ 2 * Rows.uptoBulk x.1 := by
 obtain ⟨o, q, c, l, el, hsl, hc, bl⟩ := zAT (R := fun _ vs (x : Str) => vs = [S x]) (β := fun s => s.length + 1) (sz := 1) (Rows.uptoBulk x.1) underlying27 (by kernel_rfl) (by omega)
  (fun n cs x _ ht _ => by obtain ⟨s, es, _, bs⟩ := zAV underlying9 ht; exact ⟨s, es, by omega⟩) h (Nat.le_refl _)
 obtain rfl := hsl.len
 exact ⟨o, c, l, el, hsl, by have := sum_two l; omega⟩
theorem bulkAs_c (a : Ar) (ts : List Ar) : Zq (a :: ts) = a.name.length + (a.vars.map fun x => x.length + 2).sum + ZE a.body + Zq ts := by obtain ⟨s, l, b⟩ := a; rw [Zq]; rfl
theorem zDH {α : Type} (l : List α) : (l.map fun _ => 1).sum = l.length := by induction l with | nil => rfl | cons x xs ih => rw [List.map_cons, List.sum_cons, ih, List.length_cons, Nat.add_comm]
theorem rw_open {H : Type} {enc : TypeId × Value → H} {W : World} {base : Nat} {spare : Nat → Bool} {held : Bool} {n : Nat} {cs : List Value} {x : DataW H × List MemPlace} (h : DataW.trod enc Tryd.prog W base spare held n 29 cs = some x) : ∃ r : Rw, RwR (zBM W) r cs := by
 obtain ⟨rn, rys, rhl, hx, rhcl, rhf⟩ := Za underlying29 h
 obtain ⟨ry0, re0, rh0⟩ := rhf 0 _ rfl
 obtain ⟨ry1, re1, rh1⟩ := rhf 1 _ rfl
 have rhcl2 : (cs : List Value).length = 2 := rhcl.trans (by kernel_rfl)
 obtain ⟨rc0, rc1, rfl⟩ : ∃ rc0 rc1, cs = [rc0, rc1] := by match cs, rhcl2 with | [a0, a1], _ => exact ⟨_, _, rfl⟩
 change DataW.trod enc Tryd.prog W base spare held rn 27 (([rc0, rc1].drop 0).take (Tryd.prog.cellsOf 27)) = some ry0 at rh0
 rw [show Tryd.prog.cellsOf 27 = 1 by kernel_rfl] at rh0
 change DataW.trod enc Tryd.prog W base spare held rn 27 [rc0] = some ry0 at rh0
 change DataW.trod enc Tryd.prog W base spare held rn 3 (([rc0, rc1].drop 1).take (Tryd.prog.cellsOf 3)) = some ry1 at rh1
 rw [show Tryd.prog.cellsOf 3 = 1 by kernel_rfl] at rh1
 change DataW.trod enc Tryd.prog W base spare held rn 3 [rc1] = some ry1 at rh1
 have rhys : rys = [ry0, ry1] := by
  match rys, rhl with
  | [q0, q1], _ => simp at re0 re1; subst re0 re1; rfl
 subst rhys; simp only [List.map_cons, List.map_nil, Rows.uptoBulkAll] at hx
 obtain ⟨o, c, ls, e1, hs, _⟩ := zDS rh0; injection e1 with e1; subst e1
 obtain ⟨v, e_v, h_v, b_v⟩ := zBE underlying3 rh1; injection e_v with e_v; subst e_v
 exact ⟨⟨ls, v⟩, _, _, rfl, hs, h_v⟩
theorem zDD {H : Type} {enc : TypeId × Value → H} {W : World} {base : Nat} {spare : Nat → Bool} {held : Bool} : ∀ (B n : Nat) (cs : List Value) (x : DataW H × List MemPlace), Rows.uptoBulk x.1 ≤ B → DataW.trod enc Tryd.prog W base spare held n 31 cs = some x → ∃ t : Ty, TyR (zBM W) t cs := by
 intro B
 induction B with
 | zero => intro n cs x hB h; exact absurd (zAp x.1) (by omega)
 | succ B ih =>
  intro n cs x hB h
  obtain ⟨tn, tys, thl, hx, thcl, thf⟩ := Za underlying31 h
  obtain ⟨ty0, te0, th0⟩ := thf 0 _ rfl
  obtain ⟨ty1, te1, th1⟩ := thf 1 _ rfl
  obtain ⟨ty2, te2, th2⟩ := thf 2 _ rfl
  obtain ⟨ty3, te3, th3⟩ := thf 3 _ rfl
  obtain ⟨ty4, te4, th4⟩ := thf 4 _ rfl
  have thcl2 : (cs : List Value).length = 6 := thcl.trans (by kernel_rfl)
  obtain ⟨tc0, tc1, tc2, tc3, tc4, tc5, rfl⟩ : ∃ tc0 tc1 tc2 tc3 tc4 tc5, cs = [tc0, tc1, tc2, tc3, tc4, tc5] := by match cs, thcl2 with | [a0, a1, a2, a3, a4, a5], _ => exact ⟨_, _, _, _, _, _, rfl⟩
  change DataW.trod enc Tryd.prog W base spare held tn 3 (([tc0, tc1, tc2, tc3, tc4, tc5].drop 0).take (Tryd.prog.cellsOf 3)) = some ty0 at th0
  rw [show Tryd.prog.cellsOf 3 = 1 by kernel_rfl] at th0
  change DataW.trod enc Tryd.prog W base spare held tn 3 [tc0] = some ty0 at th0
  change DataW.trod enc Tryd.prog W base spare held tn 9 (([tc0, tc1, tc2, tc3, tc4, tc5].drop 1).take (Tryd.prog.cellsOf 9)) = some ty1 at th1
  rw [show Tryd.prog.cellsOf 9 = 1 by kernel_rfl] at th1
  change DataW.trod enc Tryd.prog W base spare held tn 9 [tc1] = some ty1 at th1
  change DataW.trod enc Tryd.prog W base spare held tn 3 (([tc0, tc1, tc2, tc3, tc4, tc5].drop 2).take (Tryd.prog.cellsOf 3)) = some ty2 at th2
  rw [show Tryd.prog.cellsOf 3 = 1 by kernel_rfl] at th2
  change DataW.trod enc Tryd.prog W base spare held tn 3 [tc2] = some ty2 at th2
  change DataW.trod enc Tryd.prog W base spare held tn 26 (([tc0, tc1, tc2, tc3, tc4, tc5].drop 3).take (Tryd.prog.cellsOf 26)) = some ty3 at th3
  rw [show Tryd.prog.cellsOf 26 = 1 by kernel_rfl] at th3
  change DataW.trod enc Tryd.prog W base spare held tn 26 [tc3] = some ty3 at th3
  change DataW.trod enc Tryd.prog W base spare held tn 29 (([tc0, tc1, tc2, tc3, tc4, tc5].drop 4).take (Tryd.prog.cellsOf 29)) = some ty4 at th4
  rw [show Tryd.prog.cellsOf 29 = 2 by kernel_rfl] at th4
  change DataW.trod enc Tryd.prog W base spare held tn 29 [tc4, tc5] = some ty4 at th4
  have thys : tys = [ty0, ty1, ty2, ty3, ty4] := by
   match tys, thl with
   | [q0, q1, q2, q3, q4], _ => simp at te0 te1 te2 te3 te4; subst te0 te1 te2 te3 te4; rfl
  subst thys; simp only [List.map_cons, List.map_nil, Rows.uptoBulkAll] at hx
  obtain ⟨k, e_k, h_k, b_k⟩ := zBE underlying3 th0; injection e_k with e_k; subst e_k
  obtain ⟨s, e_s, h_s, b_s⟩ := zAV underlying9 th1; injection e_s with e_s; subst e_s
  obtain ⟨v, e_v, h_v, b_v⟩ := zBE underlying3 th2; injection e_v with e_v; subst e_v
  obtain ⟨rn, rys, rhl, hx2, rhcl, rhf⟩ := Za underlying29 th4
  obtain ⟨ry0, re0, rh0⟩ := rhf 0 _ rfl
  obtain ⟨ry1, re1, rh1⟩ := rhf 1 _ rfl
  have rhcl2 : ([tc4, tc5] : List Value).length = 2 := rhcl.trans (by kernel_rfl)
  change DataW.trod enc Tryd.prog W base spare held rn 27 (([tc4, tc5].drop 0).take (Tryd.prog.cellsOf 27)) = some ry0 at rh0
  rw [show Tryd.prog.cellsOf 27 = 1 by kernel_rfl] at rh0
  change DataW.trod enc Tryd.prog W base spare held rn 27 [tc4] = some ry0 at rh0
  change DataW.trod enc Tryd.prog W base spare held rn 3 (([tc4, tc5].drop 1).take (Tryd.prog.cellsOf 3)) = some ry1 at rh1
  rw [show Tryd.prog.cellsOf 3 = 1 by kernel_rfl] at rh1
  change DataW.trod enc Tryd.prog W base spare held rn 3 [tc5] = some ry1 at rh1
  have rhys : rys = [ry0, ry1] := by
   match rys, rhl with
   | [q0, q1], _ => simp at re0 re1; subst re0 re1; rfl
  subst rhys; simp only [List.map_cons, List.map_nil, Rows.uptoBulkAll] at hx2
  obtain ⟨ol, cl, ls, el, hls, _⟩ := zDS rh0; injection el with el; subst el
  obtain ⟨rv, e_rv, h_rv, b_rv⟩ := zBE underlying3 rh1; injection e_rv with e_rv; subst e_rv
  obtain ⟨o, q, c, l, el2, hsl, hc, bl⟩ := zAT (R := fun m vs t => TyR m t vs) (β := fun _ => 0) (sz := 6) (Rows.uptoBulk ty3.1) underlying26 (by kernel_rfl) (by omega)
   (fun n cs x hx9 ht _ => by obtain ⟨t, h1⟩ := ih n cs x (by omega) ht; exact ⟨t, h1, Nat.zero_le _⟩) th3 (Nat.le_refl _)
  obtain rfl := hsl.len
  injection el2 with el2; subst el2
  exact ⟨⟨k, s, v, l, ls, rv⟩, TyR.build hsl hls h_k h_v h_rv⟩
theorem os_open {H : Type} {enc : TypeId × Value → H} {W : World} {base : Nat} {spare : Nat → Bool} {held : Bool} {n : Nat} {cs : List Value} {x : DataW H × List MemPlace} (h : DataW.trod enc Tryd.prog W base spare held n 118 cs = some x) : ∃ r : Os, OsR (zBM W) r cs := by
 obtain ⟨sn, sys, shl, hx, shcl, shf⟩ := Za underlying118 h
 obtain ⟨sy0, se0, sh0⟩ := shf 0 _ rfl
 obtain ⟨sy1, se1, sh1⟩ := shf 1 _ rfl
 obtain ⟨sy2, se2, sh2⟩ := shf 2 _ rfl
 have shcl2 : (cs : List Value).length = 13 := shcl.trans (by kernel_rfl)
 obtain ⟨sc0, sc1, sc2, sc3, sc4, sc5, sc6, sc7, sc8, sc9, sc10, sc11, sc12, rfl⟩ : ∃ sc0 sc1 sc2 sc3 sc4 sc5 sc6 sc7 sc8 sc9 sc10 sc11 sc12, cs = [sc0, sc1, sc2, sc3, sc4, sc5, sc6, sc7, sc8, sc9, sc10, sc11, sc12] := by match cs, shcl2 with | [a0, a1, a2, a3, a4, a5, a6, a7, a8, a9, a10, a11, a12], _ => exact ⟨_, _, _, _, _, _, _, _, _, _, _, _, _, rfl⟩
 change DataW.trod enc Tryd.prog W base spare held sn 9 (([sc0, sc1, sc2, sc3, sc4, sc5, sc6, sc7, sc8, sc9, sc10, sc11, sc12].drop 0).take (Tryd.prog.cellsOf 9)) = some sy0 at sh0
 rw [show Tryd.prog.cellsOf 9 = 1 by kernel_rfl] at sh0
 change DataW.trod enc Tryd.prog W base spare held sn 9 [sc0] = some sy0 at sh0
 change DataW.trod enc Tryd.prog W base spare held sn 31 (([sc0, sc1, sc2, sc3, sc4, sc5, sc6, sc7, sc8, sc9, sc10, sc11, sc12].drop 1).take (Tryd.prog.cellsOf 31)) = some sy1 at sh1
 rw [show Tryd.prog.cellsOf 31 = 6 by kernel_rfl] at sh1
 change DataW.trod enc Tryd.prog W base spare held sn 31 [sc1, sc2, sc3, sc4, sc5, sc6] = some sy1 at sh1
 change DataW.trod enc Tryd.prog W base spare held sn 31 (([sc0, sc1, sc2, sc3, sc4, sc5, sc6, sc7, sc8, sc9, sc10, sc11, sc12].drop 7).take (Tryd.prog.cellsOf 31)) = some sy2 at sh2
 rw [show Tryd.prog.cellsOf 31 = 6 by kernel_rfl] at sh2
 change DataW.trod enc Tryd.prog W base spare held sn 31 [sc7, sc8, sc9, sc10, sc11, sc12] = some sy2 at sh2
 have shys : sys = [sy0, sy1, sy2] := by
  match sys, shl with
  | [q0, q1, q2], _ => simp at se0 se1 se2; subst se0 se1 se2; rfl
 subst shys; simp only [List.map_cons, List.map_nil, Rows.uptoBulkAll] at hx
 obtain ⟨s, e_s, h_s, b_s⟩ := zAV underlying9 sh0; injection e_s with e_s; subst e_s
 obtain ⟨a, ha⟩ := (zDD _ _ _ _ (Nat.le_refl _) sh1)
 obtain ⟨r, hr⟩ := (zDD _ _ _ _ (Nat.le_refl _) sh2)
 exact ⟨⟨s, a, r⟩, _, _, rfl, ha, hr⟩
theorem ef_open {H : Type} {enc : TypeId × Value → H} {W : World} {base : Nat} {spare : Nat → Bool} {held : Bool} {n : Nat} {cs : List Value} {x : DataW H × List MemPlace} (h : DataW.trod enc Tryd.prog W base spare held n 115 cs = some x) : ∃ r : Ef, EfR (zBM W) r cs ∧ r.ops.length ≤ Rows.uptoBulk x.1 := by
 obtain ⟨sn, sys, shl, hx, shcl, shf⟩ := Za underlying115 h
 obtain ⟨sy0, se0, sh0⟩ := shf 0 _ rfl
 obtain ⟨sy1, se1, sh1⟩ := shf 1 _ rfl
 have shcl2 : (cs : List Value).length = 2 := shcl.trans (by kernel_rfl)
 obtain ⟨sc0, sc1, rfl⟩ : ∃ sc0 sc1, cs = [sc0, sc1] := by match cs, shcl2 with | [a0, a1], _ => exact ⟨_, _, rfl⟩
 change DataW.trod enc Tryd.prog W base spare held sn 9 (([sc0, sc1].drop 0).take (Tryd.prog.cellsOf 9)) = some sy0 at sh0
 rw [show Tryd.prog.cellsOf 9 = 1 by kernel_rfl] at sh0
 change DataW.trod enc Tryd.prog W base spare held sn 9 [sc0] = some sy0 at sh0
 change DataW.trod enc Tryd.prog W base spare held sn 113 (([sc0, sc1].drop 1).take (Tryd.prog.cellsOf 113)) = some sy1 at sh1
 rw [show Tryd.prog.cellsOf 113 = 1 by kernel_rfl] at sh1
 change DataW.trod enc Tryd.prog W base spare held sn 113 [sc1] = some sy1 at sh1
 have shys : sys = [sy0, sy1] := by
  match sys, shl with
  | [q0, q1], _ => simp at se0 se1; subst se0 se1; rfl
 subst shys; simp only [List.map_cons, List.map_nil, Rows.uptoBulkAll] at hx
 obtain ⟨s, e_s, h_s, b_s⟩ := zAV underlying9 sh0; injection e_s with e_s; subst e_s
 obtain ⟨o, q, c, l, el2, hsl, hc, bl⟩ := zAT (R := fun m vs t => OsR m t vs) (β := fun _ => 1) (sz := 13) (Rows.uptoBulk sy1.1) underlying113 (by kernel_rfl) (by omega)
  (fun n cs x hx9 ht _ => by obtain ⟨t, h1⟩ := os_open ht; exact ⟨t, h1, zAp _⟩) sh1 (Nat.le_refl _)
 obtain rfl := hsl.len
 injection el2 with el2; subst el2
 have h1 := zDH l
 exact ⟨⟨s, l⟩, ⟨_, _, rfl, hsl⟩, by show l.length ≤ _; omega⟩
theorem cs_open {H : Type} {enc : TypeId × Value → H} {W : World} {base : Nat} {spare : Nat → Bool} {held : Bool} {n : Nat} {cs : List Value} {x : DataW H × List MemPlace} (h : DataW.trod enc Tryd.prog W base spare held n 124 cs = some x) : ∃ r : Cs, CsR (zBM W) r cs ∧ r.fields.length ≤ Rows.uptoBulk x.1 := by
 obtain ⟨sn, sys, shl, hx, shcl, shf⟩ := Za underlying124 h
 obtain ⟨sy0, se0, sh0⟩ := shf 0 _ rfl
 obtain ⟨sy1, se1, sh1⟩ := shf 1 _ rfl
 have shcl2 : (cs : List Value).length = 2 := shcl.trans (by kernel_rfl)
 obtain ⟨sc0, sc1, rfl⟩ : ∃ sc0 sc1, cs = [sc0, sc1] := by match cs, shcl2 with | [a0, a1], _ => exact ⟨_, _, rfl⟩
 change DataW.trod enc Tryd.prog W base spare held sn 9 (([sc0, sc1].drop 0).take (Tryd.prog.cellsOf 9)) = some sy0 at sh0
 rw [show Tryd.prog.cellsOf 9 = 1 by kernel_rfl] at sh0
 change DataW.trod enc Tryd.prog W base spare held sn 9 [sc0] = some sy0 at sh0
 change DataW.trod enc Tryd.prog W base spare held sn 26 (([sc0, sc1].drop 1).take (Tryd.prog.cellsOf 26)) = some sy1 at sh1
 rw [show Tryd.prog.cellsOf 26 = 1 by kernel_rfl] at sh1
 change DataW.trod enc Tryd.prog W base spare held sn 26 [sc1] = some sy1 at sh1
 have shys : sys = [sy0, sy1] := by
  match sys, shl with
  | [q0, q1], _ => simp at se0 se1; subst se0 se1; rfl
 subst shys; simp only [List.map_cons, List.map_nil, Rows.uptoBulkAll] at hx
 obtain ⟨s, e_s, h_s, b_s⟩ := zAV underlying9 sh0; injection e_s with e_s; subst e_s
 obtain ⟨o, q, c, l, el2, hsl, hc, bl⟩ := zAT (R := fun m vs t => TyR m t vs) (β := fun _ => 1) (sz := 6) (Rows.uptoBulk sy1.1) underlying26 (by kernel_rfl) (by omega)
  (fun n cs x hx9 ht _ => by obtain ⟨t, h1⟩ := (zDD _ _ _ _ (Nat.le_refl _) ht); exact ⟨t, h1, zAp _⟩) sh1 (Nat.le_refl _)
 obtain rfl := hsl.len
 injection el2 with el2; subst el2
 have h1 := zDH l
 exact ⟨⟨s, l⟩, ⟨_, _, rfl, hsl⟩, by show l.length ≤ _; omega⟩
theorem da_open {H : Type} {enc : TypeId × Value → H} {W : World} {base : Nat} {spare : Nat → Bool} {held : Bool} {n : Nat} {cs : List Value} {x : DataW H × List MemPlace} (h : DataW.trod enc Tryd.prog W base spare held n 122 cs = some x) : ∃ r : Da, DaR (zBM W) r cs ∧ r.cons.length ≤ Rows.uptoBulk x.1 := by
 obtain ⟨sn, sys, shl, hx, shcl, shf⟩ := Za underlying122 h
 obtain ⟨sy0, se0, sh0⟩ := shf 0 _ rfl
 obtain ⟨sy1, se1, sh1⟩ := shf 1 _ rfl
 have shcl2 : (cs : List Value).length = 2 := shcl.trans (by kernel_rfl)
 obtain ⟨sc0, sc1, rfl⟩ : ∃ sc0 sc1, cs = [sc0, sc1] := by match cs, shcl2 with | [a0, a1], _ => exact ⟨_, _, rfl⟩
 change DataW.trod enc Tryd.prog W base spare held sn 9 (([sc0, sc1].drop 0).take (Tryd.prog.cellsOf 9)) = some sy0 at sh0
 rw [show Tryd.prog.cellsOf 9 = 1 by kernel_rfl] at sh0
 change DataW.trod enc Tryd.prog W base spare held sn 9 [sc0] = some sy0 at sh0
 change DataW.trod enc Tryd.prog W base spare held sn 120 (([sc0, sc1].drop 1).take (Tryd.prog.cellsOf 120)) = some sy1 at sh1
 rw [show Tryd.prog.cellsOf 120 = 1 by kernel_rfl] at sh1
 change DataW.trod enc Tryd.prog W base spare held sn 120 [sc1] = some sy1 at sh1
 have shys : sys = [sy0, sy1] := by
  match sys, shl with
  | [q0, q1], _ => simp at se0 se1; subst se0 se1; rfl
 subst shys; simp only [List.map_cons, List.map_nil, Rows.uptoBulkAll] at hx
 obtain ⟨s, e_s, h_s, b_s⟩ := zAV underlying9 sh0; injection e_s with e_s; subst e_s
 obtain ⟨o, q, c, l, el2, hsl, hc, bl⟩ := zAT (R := fun m vs t => CsR m t vs) (β := fun _ => 1) (sz := 2) (Rows.uptoBulk sy1.1) underlying120 (by kernel_rfl) (by omega)
  (fun n cs x hx9 ht _ => by obtain ⟨t, h1, _⟩ := cs_open ht; exact ⟨t, h1, zAp _⟩) sh1 (Nat.le_refl _)
 obtain rfl := hsl.len
 injection el2 with el2; subst el2
 have h1 := zDH l
 exact ⟨⟨s, l⟩, ⟨_, _, rfl, hsl⟩, by show l.length ≤ _; omega⟩
theorem tm_open {H : Type} {enc : TypeId × Value → H} {W : World} {base : Nat} {spare : Nat → Bool} {held : Bool} : ∀ (B : Nat), (∀ (n : Nat) (cs : List Value) (x : DataW H × List MemPlace), Rows.uptoBulk x.1 ≤ B → DataW.trod enc Tryd.prog W base spare held n 33 cs = some x → ∃ t : Tm, TmR (zBM W) t cs ∧ ZE t ≤ 2 * Rows.uptoBulk x.1) ∧ (∀ (n : Nat) (cs : List Value) (x : DataW H × List MemPlace), Rows.uptoBulk x.1 ≤ B → DataW.trod enc Tryd.prog W base spare held n 72 cs = some x → ∃ a : Ar, ArR (zBM W) a cs ∧ a.name.length + (a.vars.map fun x => x.length + 2).sum + ZE a.body ≤ 2 * Rows.uptoBulk x.1) := by
 intro B
 induction B with
 | zero => exact ⟨fun n cs x hB h => absurd (zAp x.1) (by omega), fun n cs x hB h => absurd (zAp x.1) (by omega)⟩
 | succ B ih =>
  refine ⟨fun n cs x hB h => ?_, fun n cs x hB h => ?_⟩
  ·obtain ⟨tn, tys, thl, hx, thcl, thf⟩ := Za underlying33 h
   obtain ⟨ty0, te0, th0⟩ := thf 0 _ rfl
   obtain ⟨ty1, te1, th1⟩ := thf 1 _ rfl
   obtain ⟨ty2, te2, th2⟩ := thf 2 _ rfl
   obtain ⟨ty3, te3, th3⟩ := thf 3 _ rfl
   obtain ⟨ty4, te4, th4⟩ := thf 4 _ rfl
   obtain ⟨ty5, te5, th5⟩ := thf 5 _ rfl
   obtain ⟨ty6, te6, th6⟩ := thf 6 _ rfl
   obtain ⟨ty7, te7, th7⟩ := thf 7 _ rfl
   obtain ⟨ty8, te8, th8⟩ := thf 8 _ rfl
   obtain ⟨ty9, te9, th9⟩ := thf 9 _ rfl
   have thcl2 : (cs : List Value).length = 21 := thcl.trans (by kernel_rfl)
   obtain ⟨tc0, tc1, tc2, tc3, tc4, tc5, tc6, tc7, tc8, tc9, tc10, tc11, tc12, tc13, tc14, tc15, tc16, tc17, tc18, tc19, tc20, rfl⟩ : ∃ tc0 tc1 tc2 tc3 tc4 tc5 tc6 tc7 tc8 tc9 tc10 tc11 tc12 tc13 tc14 tc15 tc16 tc17 tc18 tc19 tc20, cs = [tc0, tc1, tc2, tc3, tc4, tc5, tc6, tc7, tc8, tc9, tc10, tc11, tc12, tc13, tc14, tc15, tc16, tc17, tc18, tc19, tc20] := by match cs, thcl2 with | [a0, a1, a2, a3, a4, a5, a6, a7, a8, a9, a10, a11, a12, a13, a14, a15, a16, a17, a18, a19, a20], _ => exact ⟨_, _, _, _, _, _, _, _, _, _, _, _, _, _, _, _, _, _, _, _, _, rfl⟩
   change DataW.trod enc Tryd.prog W base spare held tn 3 (([tc0, tc1, tc2, tc3, tc4, tc5, tc6, tc7, tc8, tc9, tc10, tc11, tc12, tc13, tc14, tc15, tc16, tc17, tc18, tc19, tc20].drop 0).take (Tryd.prog.cellsOf 3)) = some ty0 at th0
   rw [show Tryd.prog.cellsOf 3 = 1 by kernel_rfl] at th0
   change DataW.trod enc Tryd.prog W base spare held tn 3 [tc0] = some ty0 at th0
   change DataW.trod enc Tryd.prog W base spare held tn 3 (([tc0, tc1, tc2, tc3, tc4, tc5, tc6, tc7, tc8, tc9, tc10, tc11, tc12, tc13, tc14, tc15, tc16, tc17, tc18, tc19, tc20].drop 1).take (Tryd.prog.cellsOf 3)) = some ty1 at th1
   rw [show Tryd.prog.cellsOf 3 = 1 by kernel_rfl] at th1
   change DataW.trod enc Tryd.prog W base spare held tn 3 [tc1] = some ty1 at th1
   change DataW.trod enc Tryd.prog W base spare held tn 9 (([tc0, tc1, tc2, tc3, tc4, tc5, tc6, tc7, tc8, tc9, tc10, tc11, tc12, tc13, tc14, tc15, tc16, tc17, tc18, tc19, tc20].drop 2).take (Tryd.prog.cellsOf 9)) = some ty2 at th2
   rw [show Tryd.prog.cellsOf 9 = 1 by kernel_rfl] at th2
   change DataW.trod enc Tryd.prog W base spare held tn 9 [tc2] = some ty2 at th2
   change DataW.trod enc Tryd.prog W base spare held tn 9 (([tc0, tc1, tc2, tc3, tc4, tc5, tc6, tc7, tc8, tc9, tc10, tc11, tc12, tc13, tc14, tc15, tc16, tc17, tc18, tc19, tc20].drop 3).take (Tryd.prog.cellsOf 9)) = some ty3 at th3
   rw [show Tryd.prog.cellsOf 9 = 1 by kernel_rfl] at th3
   change DataW.trod enc Tryd.prog W base spare held tn 9 [tc3] = some ty3 at th3
   change DataW.trod enc Tryd.prog W base spare held tn 3 (([tc0, tc1, tc2, tc3, tc4, tc5, tc6, tc7, tc8, tc9, tc10, tc11, tc12, tc13, tc14, tc15, tc16, tc17, tc18, tc19, tc20].drop 4).take (Tryd.prog.cellsOf 3)) = some ty4 at th4
   rw [show Tryd.prog.cellsOf 3 = 1 by kernel_rfl] at th4
   change DataW.trod enc Tryd.prog W base spare held tn 3 [tc4] = some ty4 at th4
   change DataW.trod enc Tryd.prog W base spare held tn 24 (([tc0, tc1, tc2, tc3, tc4, tc5, tc6, tc7, tc8, tc9, tc10, tc11, tc12, tc13, tc14, tc15, tc16, tc17, tc18, tc19, tc20].drop 5).take (Tryd.prog.cellsOf 24)) = some ty5 at th5
   rw [show Tryd.prog.cellsOf 24 = 1 by kernel_rfl] at th5
   change DataW.trod enc Tryd.prog W base spare held tn 24 [tc5] = some ty5 at th5
   change DataW.trod enc Tryd.prog W base spare held tn 25 (([tc0, tc1, tc2, tc3, tc4, tc5, tc6, tc7, tc8, tc9, tc10, tc11, tc12, tc13, tc14, tc15, tc16, tc17, tc18, tc19, tc20].drop 6).take (Tryd.prog.cellsOf 25)) = some ty6 at th6
   rw [show Tryd.prog.cellsOf 25 = 1 by kernel_rfl] at th6
   change DataW.trod enc Tryd.prog W base spare held tn 25 [tc6] = some ty6 at th6
   change DataW.trod enc Tryd.prog W base spare held tn 31 (([tc0, tc1, tc2, tc3, tc4, tc5, tc6, tc7, tc8, tc9, tc10, tc11, tc12, tc13, tc14, tc15, tc16, tc17, tc18, tc19, tc20].drop 7).take (Tryd.prog.cellsOf 31)) = some ty7 at th7
   rw [show Tryd.prog.cellsOf 31 = 6 by kernel_rfl] at th7
   change DataW.trod enc Tryd.prog W base spare held tn 31 [tc7, tc8, tc9, tc10, tc11, tc12] = some ty7 at th7
   change DataW.trod enc Tryd.prog W base spare held tn 29 (([tc0, tc1, tc2, tc3, tc4, tc5, tc6, tc7, tc8, tc9, tc10, tc11, tc12, tc13, tc14, tc15, tc16, tc17, tc18, tc19, tc20].drop 13).take (Tryd.prog.cellsOf 29)) = some ty8 at th8
   rw [show Tryd.prog.cellsOf 29 = 2 by kernel_rfl] at th8
   change DataW.trod enc Tryd.prog W base spare held tn 29 [tc13, tc14] = some ty8 at th8
   change DataW.trod enc Tryd.prog W base spare held tn 31 (([tc0, tc1, tc2, tc3, tc4, tc5, tc6, tc7, tc8, tc9, tc10, tc11, tc12, tc13, tc14, tc15, tc16, tc17, tc18, tc19, tc20].drop 15).take (Tryd.prog.cellsOf 31)) = some ty9 at th9
   rw [show Tryd.prog.cellsOf 31 = 6 by kernel_rfl] at th9
   change DataW.trod enc Tryd.prog W base spare held tn 31 [tc15, tc16, tc17, tc18, tc19, tc20] = some ty9 at th9
   have thys : tys = [ty0, ty1, ty2, ty3, ty4, ty5, ty6, ty7, ty8, ty9] := by
    match tys, thl with
    | [q0, q1, q2, q3, q4, q5, q6, q7, q8, q9], _ => simp at te0 te1 te2 te3 te4 te5 te6 te7 te8 te9; subst te0 te1 te2 te3 te4 te5 te6 te7 te8 te9; rfl
   subst thys; simp only [List.map_cons, List.map_nil, Rows.uptoBulkAll] at hx
   obtain ⟨k, e_k, h_k, b_k⟩ := zBE underlying3 th0; injection e_k with e_k; subst e_k
   obtain ⟨a, e_a, h_a, b_a⟩ := zBE underlying3 th1; injection e_a with e_a; subst e_a
   obtain ⟨s, e_s, h_s, b_s⟩ := zAV underlying9 th2; injection e_s with e_s; subst e_s
   obtain ⟨p, e_p, h_p, b_p⟩ := zAV underlying9 th3; injection e_p with e_p; subst e_p
   obtain ⟨nn, e_nn, h_nn, b_nn⟩ := zBE underlying3 th4; injection e_nn with e_nn; subst e_nn
   obtain ⟨ty, hty⟩ := (zDD _ _ _ _ (Nat.le_refl _) th7)
   obtain ⟨rr, hrr⟩ := rw_open th8
   obtain ⟨tz, htz⟩ := (zDD _ _ _ _ (Nat.le_refl _) th9)
   obtain ⟨o, q, cc, l, el2, hsl, hc, bl⟩ := zAT (R := fun m vs t => TmR m t vs ∧ ZE t ≤ 2 * Rows.uptoBulk ty5.1) (β := fun t => (ZE t + 1) / 2) (sz := 21) (Rows.uptoBulk ty5.1) underlying24 (by kernel_rfl) (by omega)
    (fun n cs x hx9 ht _ => by obtain ⟨t, h1, h2⟩ := ih.1 n cs x (by omega) ht; exact ⟨t, ⟨h1, by omega⟩, by omega⟩) th5 (Nat.le_refl _)
   obtain rfl := hsl.len
   injection el2 with el2; subst el2
   have hsl2 : Tms (zBM W) o l.length cc l := ⟨rfl, hsl.cap, hsl.big, fun i x hx => by obtain ⟨p, vs, a1, a2, a3, a4⟩ := hsl.at_ i x hx; exact ⟨p, vs, a1, a2, a3, a4.1⟩⟩
   obtain ⟨o4, q4, c4, l4, el4, hsl4, hc4, bl4⟩ := zAT (R := fun m vs a => ArR m a vs ∧ a.name.length + (a.vars.map fun x => x.length + 2).sum + ZE a.body ≤ 2 * Rows.uptoBulk ty6.1) (β := fun a => (a.name.length + (a.vars.map fun x => x.length + 2).sum + ZE a.body + 1) / 2) (sz := 23) (Rows.uptoBulk ty6.1) underlying25 (by kernel_rfl) (by omega)
    (fun n cs x hx9 ht _ => by obtain ⟨t, h1, h2⟩ := ih.2 n cs x (by omega) ht; exact ⟨t, ⟨h1, by omega⟩, by omega⟩) th6 (Nat.le_refl _)
   obtain rfl := hsl4.len
   injection el4 with el4; subst el4
   have hsl5 : Ars (zBM W) o4 l4.length c4 l4 := ⟨rfl, hsl4.cap, hsl4.big, fun i x hx => by obtain ⟨p, vs, a1, a2, a3, a4⟩ := hsl4.at_ i x hx; exact ⟨p, vs, a1, a2, a3, a4.1⟩⟩
   have key : ∀ l : List Tm, Z2 l ≤ 2 * (l.map fun t => (ZE t + 1) / 2).sum := by
    intro l
    induction l with
    | nil => simp [Z2]
    | cons x xs ih => simp only [Z2, List.map_cons, List.sum_cons]; omega
   have key2 : ∀ l : List Ar, Zq l ≤ 2 * (l.map fun a => (a.name.length + (a.vars.map fun x => x.length + 2).sum + ZE a.body + 1) / 2).sum := by
    intro l
    induction l with
    | nil => simp [Zq]
    | cons x xs ih => rw [bulkAs_c, List.map_cons, List.sum_cons]; omega
   have hk := key l; have hk2 := key2 l4
   obtain ⟨o3, c3, e3, hs3, hv3⟩ := hrr
   simp only [List.cons.injEq, and_true] at e3
   obtain ⟨e3a, e3b⟩ := e3; subst e3a e3b
   have hone1 := RepR.one (R := fun m vs t => TyR m t vs) hty; have hone2 := RepR.one (R := fun m vs t => TyR m t vs) htz
   refine ⟨⟨k, a, s, p, nn, l, l4, rr⟩, TmR.build (y := ⟨o, cc, o4, c4, o3, c3, tc7, tc8, tc9, tc10, tc11, tc12, tc15, tc16, tc17, tc18, tc19, tc20⟩) ?_ hsl2 hsl5 ⟨_, _, rfl, hs3, hv3⟩, ?_⟩
   ·unfold TmY.one
    simp only [List.all_cons, List.all_nil, Bool.and_true, Bool.and_eq_true] at hone1 hone2 ⊢
    exact ⟨hone1.1, hone1.2.1, hone1.2.2.1, hone1.2.2.2.1, hone1.2.2.2.2.1, hone1.2.2.2.2.2, hone2.1, hone2.2.1, hone2.2.2.1, hone2.2.2.2.1, hone2.2.2.2.2.1, hone2.2.2.2.2.2⟩
   ·have e1 := zAp (H := H) ty0.1; rw [ZE]; omega
  ·obtain ⟨tn, tys, thl, hx, thcl, thf⟩ := Za underlying72 h
   obtain ⟨ty0, te0, th0⟩ := thf 0 _ rfl
   obtain ⟨ty1, te1, th1⟩ := thf 1 _ rfl
   obtain ⟨ty2, te2, th2⟩ := thf 2 _ rfl
   have thcl2 : (cs : List Value).length = 23 := thcl.trans (by kernel_rfl)
   obtain ⟨tc0, tc1, tc2, tc3, tc4, tc5, tc6, tc7, tc8, tc9, tc10, tc11, tc12, tc13, tc14, tc15, tc16, tc17, tc18, tc19, tc20, tc21, tc22, rfl⟩ : ∃ tc0 tc1 tc2 tc3 tc4 tc5 tc6 tc7 tc8 tc9 tc10 tc11 tc12 tc13 tc14 tc15 tc16 tc17 tc18 tc19 tc20 tc21 tc22, cs = [tc0, tc1, tc2, tc3, tc4, tc5, tc6, tc7, tc8, tc9, tc10, tc11, tc12, tc13, tc14, tc15, tc16, tc17, tc18, tc19, tc20, tc21, tc22] := by match cs, thcl2 with | [a0, a1, a2, a3, a4, a5, a6, a7, a8, a9, a10, a11, a12, a13, a14, a15, a16, a17, a18, a19, a20, a21, a22], _ => exact ⟨_, _, _, _, _, _, _, _, _, _, _, _, _, _, _, _, _, _, _, _, _, _, _, rfl⟩
   change DataW.trod enc Tryd.prog W base spare held tn 9 (([tc0, tc1, tc2, tc3, tc4, tc5, tc6, tc7, tc8, tc9, tc10, tc11, tc12, tc13, tc14, tc15, tc16, tc17, tc18, tc19, tc20, tc21, tc22].drop 0).take (Tryd.prog.cellsOf 9)) = some ty0 at th0
   rw [show Tryd.prog.cellsOf 9 = 1 by kernel_rfl] at th0
   change DataW.trod enc Tryd.prog W base spare held tn 9 [tc0] = some ty0 at th0
   change DataW.trod enc Tryd.prog W base spare held tn 27 (([tc0, tc1, tc2, tc3, tc4, tc5, tc6, tc7, tc8, tc9, tc10, tc11, tc12, tc13, tc14, tc15, tc16, tc17, tc18, tc19, tc20, tc21, tc22].drop 1).take (Tryd.prog.cellsOf 27)) = some ty1 at th1
   rw [show Tryd.prog.cellsOf 27 = 1 by kernel_rfl] at th1
   change DataW.trod enc Tryd.prog W base spare held tn 27 [tc1] = some ty1 at th1
   change DataW.trod enc Tryd.prog W base spare held tn 33 (([tc0, tc1, tc2, tc3, tc4, tc5, tc6, tc7, tc8, tc9, tc10, tc11, tc12, tc13, tc14, tc15, tc16, tc17, tc18, tc19, tc20, tc21, tc22].drop 2).take (Tryd.prog.cellsOf 33)) = some ty2 at th2
   rw [show Tryd.prog.cellsOf 33 = 21 by kernel_rfl] at th2
   change DataW.trod enc Tryd.prog W base spare held tn 33 [tc2, tc3, tc4, tc5, tc6, tc7, tc8, tc9, tc10, tc11, tc12, tc13, tc14, tc15, tc16, tc17, tc18, tc19, tc20, tc21, tc22] = some ty2 at th2
   have thys : tys = [ty0, ty1, ty2] := by
    match tys, thl with
    | [q0, q1, q2], _ => simp at te0 te1 te2; subst te0 te1 te2; rfl
   subst thys; simp only [List.map_cons, List.map_nil, Rows.uptoBulkAll] at hx
   obtain ⟨s, e_s, h_s, b_s⟩ := zAV underlying9 th0; injection e_s with e_s; subst e_s
   obtain ⟨o, c, l, e1, hs, hb⟩ := zDS th1; injection e1 with e1; subst e1
   obtain ⟨b, hbt, hbb⟩ := ih.1 _ _ _ (by omega) th2
   exact ⟨⟨s, l, b⟩, ⟨_, _, _, rfl, hs, hbt⟩, by simp only [Ar.name, Ar.vars, Ar.body]; omega⟩
theorem pg_open {H : Type} {enc : TypeId × Value → H} {W : World} {base : Nat} {spare : Nat → Bool} {held : Bool} {n : Nat} {cs : List Value} {x : DataW H × List MemPlace} (h : DataW.trod enc Tryd.prog W base spare held n 35 cs = some x) : ∃ p : Pg, PgR (zBM W) p cs ∧ zBK p.effects ≤ Rows.uptoBulk x.1 ∧ consN p.datas ≤ Rows.uptoBulk x.1 ∧ p.datas.length ≤ Rows.uptoBulk x.1 ∧ ZE p.body ≤ 2 * Rows.uptoBulk x.1 := by
 obtain ⟨tn, tys, thl, hx, thcl, thf⟩ := Za underlying35 h
 obtain ⟨ty0, te0, th0⟩ := thf 0 _ rfl
 obtain ⟨ty1, te1, th1⟩ := thf 1 _ rfl
 obtain ⟨ty2, te2, th2⟩ := thf 2 _ rfl
 have thcl2 : (cs : List Value).length = 23 := thcl.trans (by kernel_rfl)
 obtain ⟨tc0, tc1, tc2, tc3, tc4, tc5, tc6, tc7, tc8, tc9, tc10, tc11, tc12, tc13, tc14, tc15, tc16, tc17, tc18, tc19, tc20, tc21, tc22, rfl⟩ : ∃ tc0 tc1 tc2 tc3 tc4 tc5 tc6 tc7 tc8 tc9 tc10 tc11 tc12 tc13 tc14 tc15 tc16 tc17 tc18 tc19 tc20 tc21 tc22, cs = [tc0, tc1, tc2, tc3, tc4, tc5, tc6, tc7, tc8, tc9, tc10, tc11, tc12, tc13, tc14, tc15, tc16, tc17, tc18, tc19, tc20, tc21, tc22] := by match cs, thcl2 with | [a0, a1, a2, a3, a4, a5, a6, a7, a8, a9, a10, a11, a12, a13, a14, a15, a16, a17, a18, a19, a20, a21, a22], _ => exact ⟨_, _, _, _, _, _, _, _, _, _, _, _, _, _, _, _, _, _, _, _, _, _, _, rfl⟩
 change DataW.trod enc Tryd.prog W base spare held tn 22 (([tc0, tc1, tc2, tc3, tc4, tc5, tc6, tc7, tc8, tc9, tc10, tc11, tc12, tc13, tc14, tc15, tc16, tc17, tc18, tc19, tc20, tc21, tc22].drop 0).take (Tryd.prog.cellsOf 22)) = some ty0 at th0
 rw [show Tryd.prog.cellsOf 22 = 1 by kernel_rfl] at th0
 change DataW.trod enc Tryd.prog W base spare held tn 22 [tc0] = some ty0 at th0
 change DataW.trod enc Tryd.prog W base spare held tn 23 (([tc0, tc1, tc2, tc3, tc4, tc5, tc6, tc7, tc8, tc9, tc10, tc11, tc12, tc13, tc14, tc15, tc16, tc17, tc18, tc19, tc20, tc21, tc22].drop 1).take (Tryd.prog.cellsOf 23)) = some ty1 at th1
 rw [show Tryd.prog.cellsOf 23 = 1 by kernel_rfl] at th1
 change DataW.trod enc Tryd.prog W base spare held tn 23 [tc1] = some ty1 at th1
 change DataW.trod enc Tryd.prog W base spare held tn 33 (([tc0, tc1, tc2, tc3, tc4, tc5, tc6, tc7, tc8, tc9, tc10, tc11, tc12, tc13, tc14, tc15, tc16, tc17, tc18, tc19, tc20, tc21, tc22].drop 2).take (Tryd.prog.cellsOf 33)) = some ty2 at th2
 rw [show Tryd.prog.cellsOf 33 = 21 by kernel_rfl] at th2
 change DataW.trod enc Tryd.prog W base spare held tn 33 [tc2, tc3, tc4, tc5, tc6, tc7, tc8, tc9, tc10, tc11, tc12, tc13, tc14, tc15, tc16, tc17, tc18, tc19, tc20, tc21, tc22] = some ty2 at th2
 have thys : tys = [ty0, ty1, ty2] := by
  match tys, thl with
  | [q0, q1, q2], _ => simp at te0 te1 te2; subst te0 te1 te2; rfl
 subst thys; simp only [List.map_cons, List.map_nil, Rows.uptoBulkAll] at hx
 obtain ⟨o, q, cc, l, el2, hsl, hc, bl⟩ := zAT (R := fun m vs t => EfR m t vs) (β := fun e => e.ops.length) (sz := 2) (Rows.uptoBulk ty0.1) underlying22 (by kernel_rfl) (by omega) (fun n cs x hx9 ht _ => ef_open ht) th0 (Nat.le_refl _)
 obtain rfl := hsl.len
 injection el2 with el2; subst el2
 obtain ⟨o4, q4, c4, l4, el4, hsl4, hc4, bl4⟩ := zAT (R := fun m vs t => DaR m t vs) (β := fun e => e.cons.length) (sz := 2) (Rows.uptoBulk ty1.1) underlying23 (by kernel_rfl) (by omega) (fun n cs x hx9 ht _ => da_open ht) th1 (Nat.le_refl _)
 obtain rfl := hsl4.len
 injection el4 with el4; subst el4
 obtain ⟨o5, q5, c5, l5, el5, hsl5, hc5, bl5⟩ := zAT (R := fun m vs (t : Unit) => True) (β := fun _ => 1) (sz := 2) (Rows.uptoBulk ty1.1) underlying23 (by kernel_rfl) (by omega) (fun n cs x hx9 ht _ => ⟨(), trivial, zAp _⟩) th1 (Nat.le_refl _)
 have h5 := zDH l5
 have h6 : l5.length = l4.length := by have e := hsl5.len; injection el5 with el5 _; injection el5 with _ e2 _; omega
 obtain ⟨b, hbt, hbb⟩ := (tm_open _).1 _ _ _ (Nat.le_refl _) th2
 exact ⟨⟨l, l4, b⟩, ⟨_, _, _, _, _, rfl, hsl, hsl4, hbt⟩, by show (l.map fun e => e.ops.length).sum ≤ _; omega, by show (l4.map fun e => e.cons.length).sum ≤ _; omega, by show l4.length ≤ _; omega, by show ZE b ≤ _; omega⟩
theorem open_Pg {H : Type} {enc : TypeId × Value → H} {W : World} {base : Nat} {spare : Nat → Bool} {held : Bool} {r : Reach} {b0 : Nat} {v : Value} {d : DataW H} {ps : List MemPlace} (hval : Value.okWide Tryd.prog W r b0 35 v) (hd : DataW.Trod enc Tryd.prog W base spare held 35 v d ps) :
  ∃ vs p, v = .agg vs.toArray ∧ PgR (zBM W) p vs ∧ zBK p.effects ≤ Rows.uptoBulk d ∧ consN p.datas ≤ Rows.uptoBulk d ∧ p.datas.length ≤ Rows.uptoBulk d ∧ ZE p.body ≤ 2 * Rows.uptoBulk d := by
 obtain ⟨cs, rfl, _⟩ := okWide_struct underlying35 hval
 obtain ⟨fuel, hf⟩ := hd
 obtain ⟨p, h1, h2⟩ := pg_open hf
 exact ⟨cs.toList, p, rfl, h1, h2⟩
theorem open_B {H : Type} {enc : TypeId × Value → H} {W : World} {base : Nat} {spare : Nat → Bool} {held : Bool} {r : Reach} {b0 : Nat} {t : TypeId} {v : Value} {d : DataW H} {ps : List MemPlace} (ht : Tryd.prog.underlying t = some .bool) (hval : Value.okWide Tryd.prog W r b0 t v) (hd : DataW.Trod enc Tryd.prog W base spare held t v d ps) : ∃ b : Bool, v = .bool b := by
 obtain ⟨b, rfl, _⟩ := open_bool ht hval hd
 exact ⟨b, rfl⟩
end Go.Proofs.YtmdhhjmomilhjaaDoor
namespace Go.Proofs.YtmdhhjmomilhjaaDoor
open Go.Proofs.Tryd
set_option linter.all false
set_option maxRecDepth 4000
open Go.RowKit
abbrev theLaid : List (String × DataW Unit) := Rows.lowerTellsRow.laid
theorem table {W : World} (h : laidMetH Tryd.prog theLaid W) : Tab W := by
 rw [Go.MakeChecks.laidMetH_plain _ _ _ (by kernel_rfl)] at h
 have h2 := h.filter (fun x => x.1 == "internal/strconv.uint64pow10")
 have e : (theLaid.filter fun x => x.1 == "internal/strconv.uint64pow10") = [("internal/strconv.uint64pow10", Go.Lib.tabData .u64 Go.Lib.pow10Tab)] := by kernel_rfl
 rw [e] at h2
 exact Go.Lib.tabIs_of_head (g := 0) (rest := []) (by kernel_rfl) (by kernel_rfl) underlying162 underlying153 (by kernel_rfl) (by kernel_rfl) h2
def litV : DataW Unit → Value
 | .lit (.int k n) => .int k n
 | _ => undef
def zEV : DataW Unit → Array Value
 | .agg l => (l.map litV).toArray
 | _ => #[]
def layTab (h : Array Obj) (g : Nat) (cs : Array Value) : Array Obj := h.modify g fun
 | .cells _ t f => .cells cs t f
 | o => o
noncomputable def zDR (os : Go.Os) : World :=
 { World.holding Tryd.prog os ⟨#[], #[], []⟩ with heap := layTab (layTab (layTab ((World.holding Tryd.prog os ⟨#[], #[], []⟩).heap) 1 (zEV (Rows.laid_math_bits_deBruijn32tab (H := Unit)))) 2 (zEV (Rows.laid_math_bits_deBruijn64tab (H := Unit)))) 0 (zEV (Rows.laid_internal_strconv_uint64pow10 (H := Unit))) }
end Go.Proofs.YtmdhhjmomilhjaaDoor
namespace Go.Proofs.YtmdhhjmomilhjaaDoor
open Go.Proofs.Tryd
set_option linter.all false
set_option maxRecDepth 4000
open Go.ChangeShapes Go.WideShapes Go.ChangeAt Go.RowKit Go.Deep
open Go.WideElems Go.ChangeMaps
theorem rws_arg {H : Type} {enc : TypeId × Value → H} {W : World} {base : Nat} {spare : Nat → Bool} {held : Bool} {r : Reach} {b0 : Nat} {v : Value} {d : DataW H} {ps : List MemPlace} (hval : Value.okWide Tryd.prog W r b0 36 v) (hd : DataW.Trod enc Tryd.prog W base spare held 36 v d ps) :
  ∃ o c l, v = .slice o l.length c ∧ Rws (zBM W) o l.length c l := by
 obtain ⟨o, n, c, rfl⟩ := okWide_slice underlying36 hval
 obtain ⟨fuel, hf⟩ := hd
 obtain ⟨o', q, c', l, e1, hsl, hc, bl⟩ := zAT (R := fun m vs r => RwR m r vs) (β := fun _ => 0) (sz := 2) (Rows.uptoBulk d) underlying36 (by kernel_rfl) (by omega)
  (fun n cs x _ ht _ => by obtain ⟨q, h1⟩ := rw_open ht; exact ⟨q, h1, Nat.zero_le _⟩) hf (Nat.le_refl _)
 simp only [Value.cells, List.cons.injEq, and_true] at e1
 obtain rfl := hsl.len
 rw [e1]
 exact ⟨o', c', l, rfl, hsl⟩
theorem op_arg {H : Type} {enc : TypeId × Value → H} {W : World} {base : Nat} {spare : Nat → Bool} {held : Bool} {r : Reach} {b0 : Nat} {v : Value} {d : DataW H} {ps : List MemPlace} (hval : Value.okWide Tryd.prog W r b0 38 v) (hd : DataW.Trod enc Tryd.prog W base spare held 38 v d ps) : ∃ a b : Bool, v = .agg #[.bool a, .bool b] := by
 obtain ⟨cs, rfl, _⟩ := okWide_struct underlying38 hval
 obtain ⟨fuel, hf⟩ := hd
 obtain ⟨cs9, rfl⟩ : ∃ l : List Value, cs = l.toArray := ⟨cs.toList, by simp⟩
 have hx9 : True := trivial
 obtain ⟨fuel, hf⟩ : ∃ n, DataW.trod enc Tryd.prog W base spare held n 38 cs9 = some (d, ps) := ⟨fuel, by simpa [Value.cells] using hf⟩
 obtain ⟨sn, sys, shl, hx9, shcl, shf⟩ := Za underlying38 hf
 obtain ⟨sy0, se0, sh0⟩ := shf 0 _ rfl
 obtain ⟨sy1, se1, sh1⟩ := shf 1 _ rfl
 have shcl2 : (cs9 : List Value).length = 2 := shcl.trans (by kernel_rfl)
 obtain ⟨sc0, sc1, rfl⟩ : ∃ sc0 sc1, cs9 = [sc0, sc1] := by match cs9, shcl2 with | [a0, a1], _ => exact ⟨_, _, rfl⟩
 change DataW.trod enc Tryd.prog W base spare held sn 4 (([sc0, sc1].drop 0).take (Tryd.prog.cellsOf 4)) = some sy0 at sh0
 rw [show Tryd.prog.cellsOf 4 = 1 by kernel_rfl] at sh0
 change DataW.trod enc Tryd.prog W base spare held sn 4 [sc0] = some sy0 at sh0
 change DataW.trod enc Tryd.prog W base spare held sn 4 (([sc0, sc1].drop 1).take (Tryd.prog.cellsOf 4)) = some sy1 at sh1
 rw [show Tryd.prog.cellsOf 4 = 1 by kernel_rfl] at sh1
 change DataW.trod enc Tryd.prog W base spare held sn 4 [sc1] = some sy1 at sh1
 have shys : sys = [sy0, sy1] := by
  match sys, shl with
  | [q0, q1], _ => simp at se0 se1; subst se0 se1; rfl
 subst shys; simp only [List.map_cons, List.map_nil, Rows.uptoBulkAll] at hx9
 obtain ⟨a, e0, _⟩ := DataW.trod_bool underlying4 sh0; injection e0 with e0; subst e0
 obtain ⟨b, e1, _⟩ := DataW.trod_bool underlying4 sh1; injection e1 with e1; subst e1
 exact ⟨a, b, rfl⟩
theorem lowerSelects_own : ownKnob Tryd.prog.godebug = none := by kernel_rfl
theorem lowerSelects_laid : laidOutB Tryd.prog = true := by kernel_rfl
set_option maxRecDepth 100000 in
theorem lowerSelects_contract (H : Type) (enc : TypeId × Value → H) (W : World) (base : Nat) (args : Array Value) (ds gs : List (DataW H)) (before : List MemPlace)
  (hval : ∀ (j : Nat) t v, Tryd.f5.params[j]? = some t → args[j]? = some v → Value.okWide Tryd.prog W .any base t v)
  (hW : DataW.Whole enc Tryd.prog Tryd.f5.params.toList Rows.lowerSelectsSpec.vars false W args.toList ds gs before) (hc : ∀ k, (Rows.OpenSpec.upto Rows.lowerSelectsSpec).cond = some k → k H (ds ++ gs) = true) (hL : laidMetH Tryd.prog Rows.lowerSelectsUptoRow.laid W) :
  Calls Tryd.prog 5 args W fun e W' => ∃ v, e = .returned v ∧ Rows.lowerSelectsSpec.post enc Tryd.prog Tryd.f5 false true false false W args v W' := by
 have hW' := hW
 obtain ⟨p, q, hA0, hV, rfl, hfz, hnd⟩ := hW
 have hA : DataW.TrodAll enc Tryd.prog W 0 (fun _ => true) true Tryd.f5.params.toList args.toList ds p := hA0
 rw [Tryd.params5] at hA hval
 obtain ⟨v0, vs0, d0, ds0, p0, q0, e0, rfl, rfl, h0, hA0⟩ := trodAll_cons hA
 obtain ⟨v1, vs1, d1, ds1, p1, q1, e1, rfl, rfl, h1, hA1⟩ := trodAll_cons hA0
 obtain ⟨v2, vs2, d2, ds2, p2, q2, e2, rfl, rfl, h2, hA2⟩ := trodAll_cons hA1
 obtain ⟨e3, rfl, rfl⟩ := trodAll_nil hA2
 subst e3 e2 e1
 obtain rfl : args = #[v0, v1, v2] := Array.toList_inj.1 e0
 obtain ⟨rfl, rfl⟩ := trodVars_none hV
 have hbulk : Rows.uptoBulkAll [d0, d1, d2] ≤ 1048576 := by have := hc _ rfl; simpa [Rows.uptoSmall] using this
 obtain ⟨vs_p, p, rfl, hv_p, hq1_p, hq2_p, hq3_p, hq4_p⟩ := open_Pg (hval 0 35 v0 rfl rfl) h0
 obtain ⟨n, rfl, hn_⟩ := open_I underlying3 (hval 1 3 v1 rfl rfl) h1
 obtain ⟨tl, rfl⟩ := open_B underlying4 (hval 2 4 v2 rfl rfl) h2
 have hA0 := agree_snap W
 have hT : Tab W := table hL
 simp only [Rows.uptoBulkAll] at hbulk
 refine Calls.mono (zEW (n := n) (tl := tl) hA0 hv_p hT (by omega) (by omega) (by omega) (by omega)) fun e W' ⟨v, m', he, hx, hv⟩ => ?_
 subst hv
 exact ⟨_, he, post_law lowerSelects_laid (by kernel_rfl) rfl rfl underlying4 rfl hW' hx⟩
theorem lowerSelects_laidmet (os : Go.Os) : laidMetH Tryd.prog Rows.lowerSelectsUptoRow.laid ((zDR os).forCall (fun _ _ => 0) ⟨#[], #[.agg #[.slice none 0 0, .slice none 0 0, .int .i64 0, .int .i64 0, .string ⟨#[]⟩, .string ⟨#[]⟩, .int .i64 0, .slice none 0 0, .slice none 0 0, .int .i64 0, .string ⟨#[]⟩, .int .i64 0, .slice none 0 0, .slice none 0 0, .int .i64 0, .slice none 0 0, .int .i64 0, .int .i64 0, .string ⟨#[]⟩, .int .i64 0, .slice none 0 0, .slice none 0 0, .int .i64 0], .int .i64 0, .bool false], []⟩).memory :=
 laidMet_of_run' 8 (by kernel_rfl) (by kernel_rfl)
theorem lowerSelects_reads (os : Go.Os) {H : Type} (enc : TypeId × Value → H) : ∃ places, DataW.whole enc Tryd.prog ((zDR os).forCall (fun _ _ => 0) ⟨#[], #[.agg #[.slice none 0 0, .slice none 0 0, .int .i64 0, .int .i64 0, .string ⟨#[]⟩, .string ⟨#[]⟩, .int .i64 0, .slice none 0 0, .slice none 0 0, .int .i64 0, .string ⟨#[]⟩, .int .i64 0, .slice none 0 0, .slice none 0 0, .int .i64 0, .slice none 0 0, .int .i64 0, .int .i64 0, .string ⟨#[]⟩, .int .i64 0, .slice none 0 0, .slice none 0 0, .int .i64 0], .int .i64 0, .bool false], []⟩).memory Tryd.f5.params.toList Rows.lowerSelectsSpec.vars false #[.agg #[.slice none 0 0, .slice none 0 0, .int .i64 0, .int .i64 0, .string ⟨#[]⟩, .string ⟨#[]⟩, .int .i64 0, .slice none 0 0, .slice none 0 0, .int .i64 0, .string ⟨#[]⟩, .int .i64 0, .slice none 0 0, .slice none 0 0, .int .i64 0, .slice none 0 0, .int .i64 0, .int .i64 0, .string ⟨#[]⟩, .int .i64 0, .slice none 0 0, .slice none 0 0, .int .i64 0], .int .i64 0, .bool false].toList 30 = some ([.agg [.nil, .nil, .agg [.lit (.int .i64 0), .lit (.int .i64 0), .lit (.string []), .lit (.string []), .lit (.int .i64 0), .nil, .nil, .agg [.lit (.int .i64 0), .lit (.string []), .lit (.int .i64 0), .nil, .agg [.nil, .lit (.int .i64 0)]], .agg [.nil, .lit (.int .i64 0)], .agg [.lit (.int .i64 0), .lit (.string []), .lit (.int .i64 0), .nil, .agg [.nil, .lit (.int .i64 0)]]]], .lit (.int .i64 0), .lit (.bool false)], [], places) :=
 ⟨[], by kernel_rfl⟩
set_option maxRecDepth 100000 in
theorem lowerSelects_lifted (os : Go.Os) (started : os.Started) (H : Type) (enc : TypeId × Value → H) (F : Stop.Interp) :
  ReturnsInHanded {} Tryd.checked os 5 .any ((Rows.OpenSpec.upto Rows.lowerSelectsSpec).preRow enc Tryd.prog Tryd.f5 Rows.lowerSelectsUptoRow.domain false Rows.lowerSelectsUptoRow.laid) (((Rows.OpenSpec.upto Rows.lowerSelectsSpec).at F).post enc Tryd.prog Tryd.f5 false true false false) := by
 obtain ⟨places, hx⟩ := lowerSelects_reads os enc
 refine returnsInHanded_of_row (C := Tryd.checked) (s := (Rows.OpenSpec.upto Rows.lowerSelectsSpec)) lowerSelects_own started (by kernel_rfl) func5
  (witness_row_at (enc := enc) (C := Tryd.checked) false (zDR os) #[.agg #[.slice none 0 0, .slice none 0 0, .int .i64 0, .int .i64 0, .string ⟨#[]⟩, .string ⟨#[]⟩, .int .i64 0, .slice none 0 0, .slice none 0 0, .int .i64 0, .string ⟨#[]⟩, .int .i64 0, .slice none 0 0, .slice none 0 0, .int .i64 0, .slice none 0 0, .int .i64 0, .int .i64 0, .string ⟨#[]⟩, .int .i64 0, .slice none 0 0, .slice none 0 0, .int .i64 0], .int .i64 0, .bool false] rfl (by kernel_rfl) (by kernel_rfl) (by kernel_rfl)
   (OpenSpec.preRow_of_cond 30 hx (by kernel_rfl) (fun k hk => by cases hk; kernel_rfl) (by kernel_rfl) (lowerSelects_laidmet os))) ?_
 intro W base args ds gs before hval hW _ hc _ hL _ _
 exact lowerSelects_contract H enc W base args ds gs before hval hW hc hL
theorem lowerSelects_said : Rows.LowerSelectsUptoSaid :=
 OpenClaim.holds_of_cond 5 Tryd.f5 rfl rfl rfl rfl rfl rfl rfl ⟨rfl, rfl, rfl, rfl, rfl⟩ rfl rfl rfl rfl rfl (by kernel_rfl) func5 (by kernel_rfl)
  (of_decide_eq_true (by kernel_rfl)) (by unfold Func.isWrapper; first | (rw [if_pos (by decide +kernel)]; kernel_rfl) | (rw [if_neg (by decide +kernel)]; exact ⟨rfl, rfl⟩))
  (fun os started H enc _ F => by rw [OpenClaim.pre_eq_preRow]; exact lowerSelects_lifted os started H enc F)
theorem lowerSelects_plain (f : FuncId) (fn : Func) (hf : Tryd.pinned.checked.prog.funcNamed "brocade/brocadelaw17.LowerSelects" = some f) (hfn : Tryd.pinned.checked.prog.funcs[f]? = some fn) :
  false = Tryd.pinned.checked.prog.looks [] ∧ ∀ (j : Nat) t, fn.params[j]? = some t → Tryd.pinned.checked.prog.wantsStandIn t = false := by
 obtain rfl : f = 5 := Option.some.inj ((show Tryd.prog.funcNamed "brocade/brocadelaw17.LowerSelects" = some 5 by kernel_rfl).symm.trans hf) |>.symm
 obtain rfl : fn = Tryd.f5 := (Option.some.inj (func5.symm.trans hfn)).symm
 refine ⟨by kernel_rfl, fun j t ht => ?_⟩
 rw [Tryd.params5] at ht
 have hm : t ∈ [35, 3, 4] := by simpa using Array.mem_of_getElem? ht
 have hall : ([35, 3, 4].all fun u => !Tryd.prog.wantsStandIn u) = true := by kernel_rfl
 exact (show Tryd.prog.wantsStandIn t = false by simpa using List.all_eq_true.1 hall t hm)
theorem lowerSelects_holds : Rows.LowerSelectsUptoCardSaid :=
 Claim7.holds_tied_plain_at .later [] _ _ _ _ lowerSelects_said (fun _ h => by cases h) (by kernel_rfl) (fun _ h => by cases h) lowerSelectsUpto_row_tie rfl ⟨rfl, rfl⟩ (by kernel_rfl) rfl lowerSelects_plain (by kernel_rfl)
end Go.Proofs.YtmdhhjmomilhjaaDoor
