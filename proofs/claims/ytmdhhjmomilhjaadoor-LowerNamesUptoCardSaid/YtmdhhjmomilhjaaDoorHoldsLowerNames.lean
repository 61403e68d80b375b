/-
  The law's proof, whole. Conditions: those of each theorem.
-/
import Derived.Test.YtmdhhjmomilhjaaDoorSqD
import Derived.ProofKit
import Derived.Carry
import Derived.ChangeSame
import Derived.ShutString
import Derived.Deep.Slices
import Derived.Deep.Fields
import Derived.LaidSub
import Derived.MakeChecks
import Derived.LaidLaws
import Derived.Lib.LaidTab
import Derived.OpenShut
import Derived.Deep.DeepHandedRow
import Derived.Test.YtmdhhjmomilhjaaDoorRows
import Derived.Test.YtmdhhjmomilhjaaDoorCards
import Derived.Test.YtmdhhjmomilhjaaDoorTie
namespace Go.Proofs.YtmdhhjmomilhjaaDoor
open Go.Proofs.Tryd
set_option linter.all false
set_option maxRecDepth 4000
open Go.RowKit
abbrev Rws (m : Mem) (o : Option Addr) (n c : Nat) (l : List Rw) : Prop := Sl (fun m vs r => RwR m r vs) 2 m o n c l
theorem Rws.mono {m m' : Mem} {o : Option Addr} {n c : Nat} {l : List Rw} (h : Rws m o n c l) (hm : MLe m m') : Rws m' o n c l := Sl.mono h (fun _ _ e => e.mono hm) hm
def zCT (l : List Rw) (n : Nat) (r : Rw) : Rw := if l = [] then r else l.getD (n % l.length) r
mutual
def zAG (l : List Rw) : Tm → Nat → Tm
 | ⟨k, a, s, p, v, ks, az, r⟩, n => ⟨k, a, s, p, v, Zj l ks (n + 1), Zq l az (n + 1 + zQ ks), zCT l n r⟩
def Zj (l : List Rw) : List Tm → Nat → List Tm
 | [], _ => []
 | t :: ts, n => zAG l t n :: Zj l ts (n + zO t)
def Zq (l : List Rw) : List Ar → Nat → List Ar
 | [], _ => []
 | ⟨s, v, b⟩ :: ts, n => ⟨s, v, zAG l b n⟩ :: Zq l ts (n + zO b)
end
def zDZ (l : List Rw) (a : Ar) (n : Nat) : Ar := ⟨a.name, a.vars, zAG l a.body n⟩
theorem zCB (l : List Rw) (t : Tm) (n : Nat) : zAG l t n = ⟨t.kind, t.at_, t.name, t.param, t.n, Zj l t.kids (n + 1), Zq l t.arms (n + 1 + zQ t.kids), zCT l n t.row⟩ := by obtain ⟨k, a, s, p, v, ks, az, r⟩ := t; rw [zAG]; rfl
theorem zBQ (l : List Rw) (a : Ar) (ts : List Ar) (n : Nat) : Zq l (a :: ts) n = zDZ l a n :: Zq l ts (n + zO a.body) := by obtain ⟨s, v, b⟩ := a; rw [Zq]; rfl
def MP.rowsV (l : List Rw) (t : Tm) (n : Nat) : MP := MP.mem (fun y : TmY => .tuple #[.agg (tmV (zAG l t n) y).toArray, .int .i64 ((n + zO t : Nat) : Int)]) (fun y m => TmR m (zAG l t n) (tmV (zAG l t n) y)) fun hm h => h.mono hm
-- what is so of a term is so of it with other rows
theorem zCg {l : List Rw} : ∀ {ks : List Tm} {n : Nat} {u : Tm}, u ∈ Zj l ks n → ∃ v ∈ ks, ∃ k, u = zAG l v k
 | [], _, _, h => by simp [Zj] at h
 | t :: ts, n, u, h => by
  rw [Zj] at h
  rcases List.mem_cons.1 h with rfl | h
  ·exact ⟨t, .head _, n, rfl⟩
  ·obtain ⟨v, hv, k, e⟩ := zCg h; exact ⟨v, .tail _ hv, k, e⟩
theorem zCi {l : List Rw} : ∀ {az : List Ar} {n : Nat} {a : Ar}, a ∈ Zq l az n → ∃ b ∈ az, ∃ k, a = zDZ l b k
 | [], _, _, h => by simp [Zq] at h
 | t :: ts, n, u, h => by
  rw [zBQ] at h
  rcases List.mem_cons.1 h with rfl | h
  ·exact ⟨t, .head _, n, rfl⟩
  ·obtain ⟨v, hv, k, e⟩ := zCi h; exact ⟨v, .tail _ hv, k, e⟩
theorem zEQ (l : List Rw) : ∀ (ks : List Tm) (n : Nat), (Zj l ks n).length = ks.length
 | [], _ => by simp [Zj]
 | t :: ts, n => by rw [Zj, List.length_cons, zEQ l ts]; rfl
theorem LwT.rows {t : Tm} (l : List Rw) (h : LwT t) : ∀ n, LwT (zAG l t n) := by
 induction t using Tm.rec_ with
 | h t ihk iha =>
  intro n
  rw [zCB]
  refine .mk ?_ (fun u hu => ?_) (fun a ha => ?_)
  ·rcases h.here with ⟨h1, h2⟩ | ⟨h1, h2, h3, h4⟩
   ·refine .inl ⟨?_, fun a b => ?_⟩
    ·have e := zEQ l t.kids (n + 1); have h1' := h1; rw [← e] at h1'; exact h1'
    ·show Zq l t.arms _ = []; rw [h2 a b]; simp [Zq]
   ·exact .inr ⟨h1, h2, by show Zj l t.kids _ = []; rw [h3]; simp [Zj], by show Zq l t.arms _ = []; rw [h4]; simp [Zq]⟩
  ·obtain ⟨v, hv, k, rfl⟩ := zCg hu; exact ihk v hv (h.kid hv) k
  ·obtain ⟨v, hv, k, rfl⟩ := zCi ha; exact iha v hv (h.arm hv) k
theorem ClT.rows {t : Tm} (l : List Rw) (h : ClT t) : ∀ n, ClT (zAG l t n) := by
 induction t using Tm.rec_ with
 | h t ihk iha =>
  intro n
  rw [zCB]
  refine .mk h.here (fun u hu => ?_) (fun a ha => ?_)
  ·obtain ⟨v, hv, k, rfl⟩ := zCg hu; exact ihk v hv (h.kid hv) k
  ·obtain ⟨v, hv, k, rfl⟩ := zCi ha; exact iha v hv (h.arm hv) k
theorem rows_count (l : List Rw) (t : Tm) : ∀ n, zO (zAG l t n) = zO t := by
 induction t using Tm.rec_ with
 | h t ihk iha =>
  intro n
  have hk : ∀ (ks : List Tm), (∀ u ∈ ks, u ∈ t.kids) → ∀ n, zQ (Zj l ks n) = zQ ks := by
   intro ks
   induction ks with
   | nil => intro _ n; simp [Zj]
   | cons u ks ih => intro hl n; rw [Zj, zQ, zQ, ihk u (hl u (.head _)), ih (fun u hu => hl u (.tail _ hu))]
  have ha : ∀ (az : List Ar), (∀ u ∈ az, u ∈ t.arms) → ∀ n, zn (Zq l az n) = zn az := by
   intro az
   induction az with
   | nil => intro _ n; simp [Zq]
   | cons u az ih => intro hl n; rw [zBQ, zv, zv, ih (fun u hu => hl u (.tail _ hu)), show (zDZ l u n).body = zAG l u.body n from rfl, iha u (hl u (.head _))]
  rw [zr, zr t, zCB]
  show 1 + zQ (Zj l t.kids (n + 1)) + zn (Zq l t.arms (n + 1 + zQ t.kids)) = _
  rw [hk _ (fun _ h => h), ha _ (fun _ h => h)]
theorem rows_bulk (l : List Rw) (t : Tm) : ∀ n, ZA (zAG l t n) = ZA t := by
 induction t using Tm.rec_ with
 | h t ihk iha =>
  intro n
  have hk : ∀ (ks : List Tm), (∀ u ∈ ks, u ∈ t.kids) → ∀ n, Zy (Zj l ks n) = Zy ks := by
   intro ks
   induction ks with
   | nil => intro _ n; simp [Zj]
   | cons u ks ih => intro hl n; rw [Zj, Zy, Zy, ihk u (hl u (.head _)), ih (fun u hu => hl u (.tail _ hu))]
  have ha : ∀ (az : List Ar), (∀ u ∈ az, u ∈ t.arms) → ∀ n, Zm (Zq l az n) = Zm az := by
   intro az
   induction az with
   | nil => intro _ n; simp [Zq]
   | cons u az ih =>
    intro hl n
    have := iha u (hl u (.head _)) n
    have := ih (fun u hu => hl u (.tail _ hu)) (n + zO u.body)
    rw [zBQ]; obtain ⟨s, v, b⟩ := u
    simp only [zDZ, Ar.name, Ar.vars, Ar.body, Zm] at *; omega
  rw [Zk, Zk t, zCB]
  have h1 := hk t.kids (fun _ h => h) (n + 1); have h2 := ha t.arms (fun _ h => h) (n + 1 + zQ t.kids)
  simp only [Tm.name, Tm.param, Tm.kids, Tm.arms]; simp only [Tm.name, Tm.param, Tm.kids, Tm.arms] at h1 h2; omega
def MP.someV (B : Nat) : MP := MP.mem (fun y : (Tm × TmY) × Bool => .tuple #[.agg (tmV y.1.1 y.1.2).toArray, .bool y.2]) (fun y m => TmR m y.1.1 (tmV y.1.1 y.1.2) ∧ LwT y.1.1 ∧ zO y.1.1 ≤ 300 ∧ ZA y.1.1 ≤ B ∧ ClT y.1.1) fun hm h => ⟨h.1.mono hm, h.2⟩
theorem low_of {t : Tm} (h : RtT t ∨ t = Zw) : LwT t := h.elim (·.low) (fun e => e ▸ zero_low)
def intT (n : Int) : Tm := ⟨2, 0, [], [], n, [], [], ⟨[], 0⟩⟩
def shT : Tm := zDa (zDj [102]) (zDa (zDj [103]) (intT 1))
def intC (n : Int) : Cd := ⟨2, [], [], n, [], []⟩
def shA : Cd := ⟨6, [], [], 0, [zCQ [103], intC 1], []⟩
def shB : Cd := ⟨6, [], [], 0, [zCQ [102], zCQ (ZS 1)], []⟩
theorem low_var (s : Str) : LwT (zDj s) := .mk (.inl ⟨.inl rfl, fun _ _ => rfl⟩) (fun _ h => nomatch h) (fun _ h => nomatch h)
theorem low_int (n : Int) : LwT (intT n) := .mk (.inl ⟨.inl rfl, fun _ _ => rfl⟩) (fun _ h => nomatch h) (fun _ h => nomatch h)
theorem low_call {f a : Tm} (h : LwT f) (h2 : LwT a) : LwT (zDa f a) := .mk (.inl ⟨.inl rfl, fun _ _ => rfl⟩) (fun u hu => by
 rcases List.mem_cons.1 hu with rfl | hu
 ·exact h
 ·rw [List.mem_singleton] at hu; subst hu; exact h2) (fun a ha => by cases ha)
theorem nameQ_1 : ZS 1 = [39, 49] := by unfold ZS; rw [dec_eq, if_pos (by omega)]; rfl
theorem lowT_sh : zCP true false shT = cd2 8 (ZS 1) [] shA shB := by
 have h1 : zO shT = 5 := by decide
 unfold zCP; rw [h1]; rfl
theorem CdR.at_y {m : Mem} {t : Cd} {y : CdY} (h : CdR m t (cdV t y)) : Cds m y.o1 t.kids.length y.c1 t.kids ∧ Cas m y.o2 t.arms.length y.c2 t.arms := by
 obtain ⟨⟨a, b, c, d⟩, e, _, h1, h2⟩ := h.open_
 obtain ⟨a', b', c', d'⟩ := y
 simp only [cdV, List.cons.injEq, Value.slice.injEq, true_and, and_true] at e
 obtain ⟨⟨rfl, rfl⟩, rfl, rfl⟩ := e
 exact ⟨h1, h2⟩
theorem zEg {α : Type} {l r : List α} {k : Nat} {x c : α} (h : l.drop k = x :: r) (hc : l[k]? = some c) : x = c := by
 have := zAK h; rw [hc] at this; injection this with e; exact e.symm
abbrev rows_G (t : Tm) : Prop := ∀ {w : World} {m : Mem} {vs_t : List Value} {o_rl : Option Addr} {c_rl : Nat} {rl : List Rw} {n : Nat} (hA : Agree w m) (h_t : TmR m t vs_t) (h_rl : Rws m o_rl rl.length c_rl rl) (hb : n + zO t ≤ 1000000000), FnV Tryd.prog 21 #[.agg vs_t.toArray, .slice o_rl rl.length c_rl, .int .i64 (n : Int)] w m (fun _ m v => (MP.rowsV rl t n).p m v)
set_option maxHeartbeats 3200000 in
theorem rows_s {t : Tm} (ihk : ∀ u ∈ t.kids, rows_G u) (iha : ∀ a ∈ t.arms, rows_G a.body) {w : World} {m : Mem} {vs_t : List Value} {o_rl : Option Addr} {c_rl : Nat} {rl : List Rw} {n : Nat} (hA : Agree w m) (h_t : TmR m t vs_t) (h_rl : Rws m o_rl rl.length c_rl rl) (hb : n + zO t ≤ 1000000000) : FnV Tryd.prog 21 #[.agg vs_t.toArray, .slice o_rl rl.length c_rl, .int .i64 (n : Int)] w m (fun _ m v => (MP.rowsV rl t n).p m v) := by
 obtain ⟨⟨oK_t, cK_t, oA_t, cA_t, oR_t, cR_t, t0_t, t1_t, t2_t, t3_t, t4_t, t5_t, u0_t, u1_t, u2_t, u3_t, u4_t, u5_t⟩, rfl, hon_t, hkk_t, haa_t, hrr_t⟩ := h_t.open_
 dsimp only at hkk_t haa_t hrr_t
 have hbg_t := hkk_t.big; have hcp_t := hkk_t.cap; have hbh_t := haa_t.big; have hcq_t := haa_t.cap
 have hb_rl := h_rl.big; have hc_rl := h_rl.cap
 refine zW (vs := [_, _, _]) func21 rfl rfl rfl fun a0 hfr0 => ?_
 have hst0 := zV hA (zj [] _ w m)
 have hM : MLe m m := MLe.refl m
 have hce := zr t
 have hkl_ := zAC t.kids
 have hal_ := zAQ t.arms
 have htm : (n : Int).tmod (rl.length : Int) = ((n % rl.length : Nat) : Int) := rfl
 refine zB fun _ hK1 => ?_
 replace hst0 := hst0.more (r := .free) trivial List.nodup_nil (by simp [Res.blocks])
 refine ra0 (tch := [(1, 0, (fun v => .blk v _))]) hst0 hfr0 (.cons rfl (zx rfl rfl) <| .consT rfl rfl (fun _ => rfl) rfl (zR zeroValue33 rfl) <| .cons rfl (zC rfl) <| .nil) fun a1 w1 m1 hst1 hle1 hk1 => ?_
 have hfr1 := hk1.fr (.o 1 <| .o 2 <| .nil)
 obtain ⟨g2, e2, hc3⟩ := hk1.ex 3 rfl
 replace hfr1 := hfr1.cons e2
 obtain ⟨g3, e3, _⟩ := hk1.ex 6 rfl
 replace hfr1 := hfr1.cons e3
 replace hst1 := hst1.fin (L' := [_]) (.cons e3 <| .nil)
 replace h_t := h_t.mono hle1
 replace hkk_t := hkk_t.mono hle1
 replace haa_t := haa_t.mono hle1
 replace hrr_t := hrr_t.mono hle1
 replace h_rl := h_rl.mono hle1
 clear hst0 hfr0 hk1
 refine hK1 _ _ ?_
 refine zB fun _ hK4 => ?_
 replace hst1 := hst1.more (r := .free) trivial List.nodup_nil (by simp [Res.blocks])
 refine ra0 (tch := [(1, 1, (fun v => .blk v _)), (2, 1, (fun v => .blk v _))]) hst1 hfr1 (.cons rfl (zN rfl hc3 isAgg33 sizeOf33 rfl rfl) <| .consT rfl rfl (fun _ => rfl) rfl (zR zeroValue33 rfl) <| .consT rfl rfl (fun _ => rfl) rfl (zU 8 rfl rfl rfl fun y8 => zf rfl rfl rfl rfl rfl sizeOf33 rfl rfl h_t.one) <| .nil) fun a2 w2 m2 hst2 hle2 hk2 => ?_
 have hfr2 := hk2.fr (.o 1 <| .o 2 <| .o 3 <| .o 6 <| .nil)
 obtain ⟨gB, e5, _⟩ := hk2.ex 8 rfl
 replace hfr2 := hfr2.cons e5
 replace hst2 := hst2.fin (L' := [_, _]) (.cons e5 <| .cons e5 <| .nil)
 try simp only [List.take_succ_cons, List.take_zero, List.drop_succ_cons, List.drop_zero, List.cons_append, List.nil_append, List.append_nil, List.length_cons, List.length_nil, Nat.zero_add, Nat.reduceAdd] at hst2
 replace hkk_t := hkk_t.mono hle2
 replace haa_t := haa_t.mono hle2
 replace hrr_t := hrr_t.mono hle2
 replace h_rl := h_rl.mono hle2
 replace hc3 := hc3.mono hle2
 clear hst1 hfr1 hk2
 refine hK4 _ _ ?_
 refine zB fun _ hK6 => ?_
 refine ra0 (tch := [(1, 1, (fun _ => .blk _ _))]) hst2 hfr2 (.cons rfl (zA (off := 5) rfl underlying33 rfl rfl sizeOf24 rfl) <| .consT rfl rfl (fun _ => rfl) rfl (ZE rfl rfl rfl sizeOf24 rfl rfl rfl) <| .nil) fun a3 w3 m3 hst3 hle3 hk3 => ?_
 have hfr3 := hk3.fr (.o 1 <| .o 2 <| .o 3 <| .o 6 <| .o 8 <| .nil)
 replace hst3 := hst3.fin (L' := [_, _]) (.cons rfl <| .nil)
 try simp only [List.take_succ_cons, List.take_zero, List.drop_succ_cons, List.drop_zero, List.cons_append, List.nil_append, List.append_nil, List.length_cons, List.length_nil, Nat.zero_add, Nat.reduceAdd] at hst3
 replace hkk_t := hkk_t.mono hle3
 replace haa_t := haa_t.mono hle3
 replace hrr_t := hrr_t.mono hle3
 replace h_rl := h_rl.mono hle3
 replace hc3 := hc3.mono hle3
 clear hst2 hfr2 hk3
 refine hK6 _ _ ?_
 refine zB fun _ hK7 => ?_
 refine ra0 (tch := [(1, 1, (fun _ => .blk _ _))]) hst3 hfr3 (.cons rfl (zA (off := 6) rfl underlying33 rfl rfl sizeOf25 rfl) <| .consT rfl rfl (fun _ => rfl) rfl (ZE rfl rfl rfl sizeOf25 rfl rfl rfl) <| .nil) fun a4 w4 m4 hst4 hle4 hk4 => ?_
 have hfr4 := hk4.fr (.o 1 <| .o 2 <| .o 3 <| .o 6 <| .o 8 <| .nil)
 replace hst4 := hst4.fin (L' := [_, _]) (.cons rfl <| .nil)
 try simp only [List.take_succ_cons, List.take_zero, List.drop_succ_cons, List.drop_zero, List.cons_append, List.nil_append, List.append_nil, List.length_cons, List.length_nil, Nat.zero_add, Nat.reduceAdd] at hst4
 replace hkk_t := hkk_t.mono hle4
 replace haa_t := haa_t.mono hle4
 replace hrr_t := hrr_t.mono hle4
 replace h_rl := h_rl.mono hle4
 replace hc3 := hc3.mono hle4
 clear hst3 hfr3 hk4
 have hst4 := hst4.more (r := .rowx (.slice none 0 0) 0 21 33 (MP.reads (fun m vs t => TmR m t vs) 21 [])) Z7 List.nodup_nil (by simp [Res.blocks, zw])
 have hsl_K : Tms m4 none ([] : List Tm).length 0 ([] : List Tm) := Sl.empty
 have hst4 := hst4.more (r := .rowx (.slice none 0 0) 0 23 72 (MP.reads (fun m vs t => ArR m t vs) 23 [])) Z7 List.nodup_nil (by simp [Res.blocks, zw])
 have hsl_A : Ars m4 none ([] : List Ar).length 0 ([] : List Ar) := Sl.empty
 refine hK7 _ _ ?_
 refine zBI (T := [(1, _), (2, _), (3, _), (6, _), (8, _)]) (fun (y : Rw × Option Addr × Nat) => ([] : List (Nat × Value))) (fun y => [_, .blk (.pointer (some ⟨gB, 0, none⟩)) (.cells (tmV ⟨t.kind, t.at_, t.name, t.param, t.n, [], [], y.1⟩ (⟨none, 0, none, 0, y.2.1, y.2.2, t0_t, t1_t, t2_t, t3_t, t4_t, t5_t, u0_t, u1_t, u2_t, u3_t, u4_t, u5_t⟩ : TmY)).toArray 33), _, _]) (fun (y : Rw × Option Addr × Nat) m => (fun (rr : Rw) (orr : Option Addr) (crr : Nat) => (rr = zCT rl n t.row) ∧ (RwR m rr [.slice orr rr.labels.length crr, .int .i64 rr.var])) y.1 y.2.1 y.2.2) ((t.row, oR_t, cR_t)) ⟨hst4, MLe.refl _, hfr4.sub (.c <| .c <| .c <| .c <| .c <| .nil), trivial⟩ (fun y a5 w5 m5 hh5 => ?_) (fun K8 hj8 => ?_)
 ·have hst5 := hh5.st; have hle5 := hh5.le; have hfr5 := hh5.fr; have hrel := hh5.rel; clear hh5
  clear hst4 hfr4
  obtain ⟨rr, orr, crr⟩ := y
  dsimp only at hrel hfr5 hst5
  obtain ⟨hrr9, hrw9⟩ := hrel
  subst hrr9
  refine zB fun _ hK9 => ?_
  refine rp0 hst5 hfr5 (.cons rfl (zD rfl) <| .cons rfl (zh rfl rfl ⟨by omega, by omega⟩) <| .cons rfl (zC rfl) <| .nil) fun a6 w6 m6 hst6 hle6 hk6 => ?_
  have hfr6 := hk6.fr (.o 1 <| .o 3 <| .o 6 <| .o 8 <| .n 2 <| .nil)
  clear hst5 hfr5 hk6
  rw [show (n : Int) + 1 = ((n + 1 : Nat) : Int) by omega] at hfr6
  refine hK9 _ _ ?_
  refine zB fun _ hK10 => ?_
  refine zB fun _ hK11 => ?_
  refine rp0 hst6 hfr6 (.cons rfl (zC rfl) <| .nil) fun a7 w7 m7 hst7 hle7 hk7 => ?_
  have hfr7 := hk7.fr (.o 1 <| .o 3 <| .o 6 <| .o 8 <| .o 2 <| .n 9 <| .nil)
  clear hst6 hfr6 hk7
  refine hK11 _ _ ?_
  refine zK ?_
  have zq1 := hle6.trans hle7
  have zq2 := hle5.trans zq1
  replace hsl_K := hsl_K.mono zq2
  refine zZ (T := [(1, _), (3, _), (6, _), (8, _)]) (fun (y : Nat × Nat × Option Addr × Nat × List Tm) => ([(2, .int .i64 (y.2.1 : Int)), (9, .int .i64 (y.1 : Int))] : List (Nat × Value))) (fun y => [_, .blk (.pointer (some ⟨gB, 0, none⟩)) (.cells (tmV ⟨t.kind, t.at_, t.name, t.param, t.n, y.2.2.2.2, [], (zCT rl n t.row)⟩ (⟨y.2.2.1, y.2.2.2.1, none, 0, orr, crr, t0_t, t1_t, t2_t, t3_t, t4_t, t5_t, u0_t, u1_t, u2_t, u3_t, u4_t, u5_t⟩ : TmY)).toArray 33), .rowx (nz (.slice y.2.2.1 y.2.2.2.2.length y.2.2.2.1)) y.2.2.2.2.length 21 33 (MP.reads (fun m vs t => TmR m t vs) 21 y.2.2.2.2), _]) (fun (y : Nat × Nat × Option Addr × Nat × List Tm) m => (fun (y : Nat) (v : Nat) (klo : Option Addr) (klp : Nat) (kl : List Tm) => (y ≤ t.kids.length) ∧ (Tms m klo kl.length klp kl) ∧ (Zj rl t.kids (n + 1) = kl ++ Zj rl (t.kids.drop y) v ∧ kl.length = y) ∧ (v + zQ (t.kids.drop y) = n + 1 + zQ t.kids)) y.1 y.2.1 y.2.2.1 y.2.2.2.1 y.2.2.2.2) (fun y => t.kids.length - y.1) ((0, (n + 1), none, 0, ([] : List Tm))) ⟨hst7, MLe.refl _, hfr7.sub (.c <| .c <| .c <| .c <| .c <| .c <| .nil), ⟨Nat.zero_le _, hsl_K, ⟨rfl, rfl⟩, rfl⟩⟩ fun y a8 w8 m8 hh8 => ?_
  have hst8 := hh8.st; have hle8 := hh8.le; have hfr8 := hh8.fr; have hrel := hh8.rel; clear hh8
  clear hst7 hfr7
  obtain ⟨y, v, klo, klp, kl⟩ := y
  dsimp only at hrel hfr8 hst8
  obtain ⟨hyn, hsl_kl, hlen_kl, hck⟩ := hrel
  have hlh8 := hle8
  refine zB fun _ hK13 => ?_
  refine zB fun _ hK14 => ?_
  have zq3 := zq2.trans hle8
  replace hc3 := hc3.mono zq3
  refine rp0 hst8 hfr8 (.cons rfl (zD rfl) <| .cons rfl (zA (off := 5) rfl underlying33 rfl rfl sizeOf24 rfl) <| .cons rfl (zE rfl hc3 isAgg24 rfl) <| .cons rfl (zX rfl underlying24) <| .cons rfl (zt rfl rfl) <| .nil) fun a9 w9 m9 hst9 hle9 hk9 => ?_
  have hfr9 := hk9.fr (.o 2 <| .o 9 <| .o 1 <| .o 3 <| .o 6 <| .o 8 <| .n 36 <| .nil)
  clear hst8 hfr8 hk9
  refine hK14 _ _ ?_
  refine zG hfr9 rfl rfl (fun hb36 => ?_) (fun hb36 => ?_)
  ·try simp only [nqs] at hb36
   refine zJ ?_
   refine hK13 _ _ ?_
   refine zB fun _ hK15 => ?_
   refine zK ?_
   refine zB fun _ hK16 => ?_
   refine zk 8 (by kernel_rfl) ?_
   have zq4 := zq3.trans hle9
   replace hkk_t := hkk_t.mono zq4
   obtain ⟨p17, vs17, x17, ho17, hd17, hm_x17, ht17, hcv17, hl17, hv17⟩ := hkk_t.nth (k := y) (by omega)
   cases ho17
   obtain ⟨⟨oK17, cK17, oA17, cA17, oR17, cR17, t017, t117, t217, t317, t417, t517, u017, u117, u217, u317, u417, u517⟩, rfl, hon17, hkk17, haa17, hrr17⟩ := hv17.open_
   dsimp only at hkk17 haa17 hrr17
   have hbg17 := hkk17.big; have hcp17 := hkk17.cap; have hbh17 := haa17.big; have hcq17 := haa17.cap
   rw [hd17] at hlen_kl hck
   rw [Zj] at hlen_kl; rw [zQ] at hck
   replace h_rl := h_rl.mono zq4
   replace hc3 := hc3.mono hle9
   refine za (tch := []) hst9 hfr9 (by kernel_rfl) (by kernel_rfl) (by kernel_rfl) (.cons rfl (zA (off := 5) rfl underlying33 rfl rfl sizeOf24 rfl) <| .cons rfl (zE rfl hc3 isAgg24 rfl) <| .cons rfl (zD rfl) <| .cons rfl (zI (k := y) rfl rfl underlying24 sizeOf33 rfl (by omega)) <| .cons rfl (zN rfl hcv17 isAgg33 sizeOf33 rfl rfl) <| .cons rfl (zD rfl) <| .cons rfl (zD rfl) <| .cons rfl (zi (φ := MP.rowsV rl x17 v) rfl (.cons rfl <| .cons rfl <| .cons rfl <| .nil) call21 (fun w m hK => by have hle_ := KC.le hK; have hA := KC.agree hK; have h_rl := h_rl.mono hle_; have hv17 := hv17.mono hle_; exact FnG.mono (ihk _ hm_x17 hA hv17 h_rl (by omega)) fun _ _ _ _ h => h)) <| .nil) fun a10 w10 m10 hst10 hle10 hk10 => ?_
   have hfr10 := hk10.fr (.o 2 <| .o 9 <| .o 1 <| .o 3 <| .o 6 <| .o 8 <| .nil)
   obtain ⟨yr, e18, hyr⟩ := hk10.ex 47 rfl
   replace hfr10 := hfr10.cons e18
   clear hst9 hfr9 hk10
   replace hst10 := hst10.more (r := .free) trivial List.nodup_nil (by simp [Res.blocks])
   refine za (tch := [(3, 4, (fun v => .blk v _)), (4, 4, (fun v => .blk v _))]) hst10 hfr10 (by kernel_rfl) (by kernel_rfl) (by kernel_rfl) (.cons rfl (zD rfl) <| .cons rfl (zS rfl rfl) <| .cons rfl (zS rfl rfl) <| .consT rfl rfl (fun _ => rfl) rfl (zR zeroValue33 rfl) <| .consT rfl rfl (fun _ => rfl) rfl (zU 10 rfl rfl rfl fun y10 => zf rfl rfl rfl rfl rfl sizeOf33 rfl rfl hyr.one) <| .cons rfl (zC rfl) <| .nil) fun a11 w11 m11 hst11 hle11 hk11 => ?_
   have hfr11 := hk11.fr (.o 2 <| .o 9 <| .o 1 <| .o 3 <| .o 6 <| .o 8 <| .o 47 <| .n 11 <| .nil)
   obtain ⟨g19, e19, _⟩ := hk11.ex 10 rfl
   replace hfr11 := hfr11.cons e19
   replace hst11 := hst11.fin (L' := [_, _, _, _, _]) (.cons e19 <| .cons e19 <| .nil)
   try simp only [List.take_succ_cons, List.take_zero, List.drop_succ_cons, List.drop_zero, List.cons_append, List.nil_append, List.append_nil, List.length_cons, List.length_nil, Nat.zero_add, Nat.reduceAdd] at hst11
   clear hst10 hfr10 hk11
   refine hK16 _ _ ?_
   refine zB fun _ hK20 => ?_
   refine rp0 hst11 hfr11 (.cons rfl (zD rfl) <| .cons rfl (zC rfl) <| .nil) fun a12 w12 m12 hst12 hle12 hk12 => ?_
   have hfr12 := hk12.fr (.o 9 <| .o 1 <| .o 3 <| .o 6 <| .o 8 <| .o 10 <| .n 2 <| .nil)
   clear hst11 hfr11 hk12
   refine hK20 _ _ ?_
   have zq5 := hle11.trans hle12
   replace hyr := hyr.mono zq5
   refine ra0 (tch := [(4, 2, (fun v => .rowx (nz v) _ _ _ _)), (6, 1, (fun u => .blk _ (.cells (_ ++ [u] ++ _).toArray _)))]) hst12 hfr12 (.cons rfl (zA (off := 5) rfl underlying33 rfl rfl sizeOf24 rfl) <| .cons rfl (zP (j := 1) rfl rfl isAgg24 rfl) <| .cons rfl (ze (j := 4) rfl rfl isAgg33 sizeOf33 rfl) <| .cons rfl (zz rfl underlying24 sizeOf33 zeroValue33 rfl rfl rfl rfl) <| .consT rfl rfl (fun _ => rfl) rfl (zU 54 rfl rfl rfl fun y54 => ZC (size := 21) (bytes := 312) (l := kl) (l' := [zAG rl x17 v]) rfl rfl (fun _ => by first | exact .inl rfl | exact .inr (.inl rfl)) underlying24 type33 rfl rfl rfl rfl (fun w m hK => Sl.one (R := fun m vs t => TmR m t vs) hK.2 hyr.len (hyr.mono (KC.le hK))) rfl (by decide) (by simp only [maxLen]; omega) (by omega)) <| .cons rfl (zA (off := 5) rfl underlying33 rfl rfl sizeOf24 rfl) <| .consT rfl rfl (fun _ => rfl) rfl (zU 55 rfl rfl rfl fun y55 => zAP rfl rfl rfl rfl rfl sizeOf24 rfl rfl rfl) <| .nil) fun a13 w13 m13 hst13 hle13 hk13 => ?_
   have hfr13 := hk13.fr (.o 9 <| .o 1 <| .o 3 <| .o 6 <| .o 8 <| .o 2 <| .nil)
   obtain ⟨⟨K_21o, K_21p⟩, e22, hsl_K_21⟩ := hk13.ex 55 rfl
   replace hst13 := hst13.fin (L' := [_, _, _, _, _]) (.cons e22 <| .cons e22 <| .nil)
   try simp only [List.take_succ_cons, List.take_zero, List.drop_succ_cons, List.drop_zero, List.cons_append, List.nil_append, List.append_nil, List.length_cons, List.length_nil, Nat.zero_add, Nat.reduceAdd] at hst13
   clear hst12 hfr12 hk13
   replace hsl_K_21 : Tms m13 K_21o (kl ++ [zAG rl x17 v]).length K_21p (kl ++ [zAG rl x17 v]) := hsl_K_21
   refine hK15 _ _ ?_
   refine rp0 hst13 hfr13 (.cons rfl (zD rfl) <| .cons rfl (zh rfl rfl ⟨by omega, by omega⟩) <| .cons rfl (zC rfl) <| .nil) fun a14 w14 m14 hst14 hle14 hk14 => ?_
   have hfr14 := hk14.fr (.o 1 <| .o 3 <| .o 6 <| .o 8 <| .o 2 <| .n 9 <| .nil)
   clear hst13 hfr13 hk14
   have hst14 := hst14.take 4
   replace hsl_K_21 := hsl_K_21.mono hle14
   have zq6 := hle13.trans hle14
   have zq7 := zq5.trans zq6
   have zq8 := hle10.trans zq7
   have zq9 := hle9.trans zq8
   have hlh14 := hlh8.trans zq9
   exact ⟨(y + 1, (v + zO x17), K_21o, K_21p, (kl ++ [zAG rl x17 v])), m14, by show t.kids.length - (y + 1) < t.kids.length - y; omega, ⟨hst14, hlh14, hfr14.sub (.c <| .c <| .c <| .c <| .c <| .c <| .nil), ⟨by show y + 1 ≤ t.kids.length; omega, hsl_K_21, ⟨by rw [hlen_kl.1]; simp, by show (kl ++ [_]).length = y + 1; simp; exact hlen_kl.2⟩, by show v + zO x17 + zQ (t.kids.drop (y + 1)) = _; omega⟩⟩⟩
  ·try simp only [nqs] at hb36
   have hge : y = t.kids.length := by omega
   rw [List.drop_of_length_le (by omega)] at hlen_kl hck
   rw [Zj, List.append_nil] at hlen_kl
   rw [zQ] at hck
   refine zb ?_
   refine hK10 _ _ ?_
   refine zB fun _ hK23 => ?_
   refine zB fun _ hK24 => ?_
   refine rp0 hst9 hfr9 (.cons rfl (zC rfl) <| .nil) fun a10 w10 m10 hst10 hle10 hk10 => ?_
   have hfr10 := hk10.fr (.o 2 <| .o 9 <| .o 1 <| .o 3 <| .o 6 <| .o 8 <| .n 12 <| .nil)
   clear hst9 hfr9 hk10
   refine hK24 _ _ ?_
   refine zK ?_
   have zq10 := hle9.trans hle10
   have hlh10 := hlh8.trans zq10
   have hlq25 := hlh10
   have zq11 := zq3.trans zq10
   replace hsl_A := hsl_A.mono zq11
   refine zZ (T := [(9, _), (1, _), (3, _), (6, _), (8, _)]) (fun (y : Nat × Nat × Option Addr × Nat × List Ar) => ([(2, .int .i64 (y.2.1 : Int)), (12, .int .i64 (y.1 : Int))] : List (Nat × Value))) (fun y => [_, .blk (.pointer (some ⟨gB, 0, none⟩)) (.cells (tmV ⟨t.kind, t.at_, t.name, t.param, t.n, kl, y.2.2.2.2, (zCT rl n t.row)⟩ (⟨klo, klp, y.2.2.1, y.2.2.2.1, orr, crr, t0_t, t1_t, t2_t, t3_t, t4_t, t5_t, u0_t, u1_t, u2_t, u3_t, u4_t, u5_t⟩ : TmY)).toArray 33), _, .rowx (nz (.slice y.2.2.1 y.2.2.2.2.length y.2.2.2.1)) y.2.2.2.2.length 23 72 (MP.reads (fun m vs t => ArR m t vs) 23 y.2.2.2.2)]) (fun (y : Nat × Nat × Option Addr × Nat × List Ar) m => (fun (y : Nat) (u : Nat) (alo : Option Addr) (alp : Nat) (al : List Ar) => (y ≤ t.arms.length) ∧ (Ars m alo al.length alp al) ∧ (Zq rl t.arms v = al ++ Zq rl (t.arms.drop y) u ∧ al.length = y) ∧ (u + zn (t.arms.drop y) = v + zn t.arms)) y.1 y.2.1 y.2.2.1 y.2.2.2.1 y.2.2.2.2) (fun y => t.arms.length - y.1) ((0, v, none, 0, ([] : List Ar))) ⟨hst10, MLe.refl _, hfr10.sub (.c <| .c <| .c <| .c <| .c <| .c <| .c <| .nil), ⟨Nat.zero_le _, hsl_A, ⟨rfl, rfl⟩, rfl⟩⟩ fun y a11 w11 m11 hh11 => ?_
   have hst11 := hh11.st; have hle11 := hh11.le; have hfr11 := hh11.fr; have hrel := hh11.rel; clear hh11
   clear hst10 hfr10
   obtain ⟨y, u, alo, alp, al⟩ := y
   dsimp only at hrel hfr11 hst11
   obtain ⟨hyn, hsl_al, hlen_al, hcu⟩ := hrel
   have hlh11 := hle11
   refine zB fun _ hK26 => ?_
   refine zB fun _ hK27 => ?_
   have zq12 := zq10.trans hle11
   replace hc3 := hc3.mono zq12
   refine rp0 hst11 hfr11 (.cons rfl (zD rfl) <| .cons rfl (zA (off := 6) rfl underlying33 rfl rfl sizeOf25 rfl) <| .cons rfl (zE rfl hc3 isAgg25 rfl) <| .cons rfl (zX rfl underlying25) <| .cons rfl (zt rfl rfl) <| .nil) fun a12 w12 m12 hst12 hle12 hk12 => ?_
   have hfr12 := hk12.fr (.o 2 <| .o 12 <| .o 9 <| .o 1 <| .o 3 <| .o 6 <| .o 8 <| .n 61 <| .nil)
   clear hst11 hfr11 hk12
   refine hK27 _ _ ?_
   refine zG hfr12 rfl rfl (fun hb61 => ?_) (fun hb61 => ?_)
   ·try simp only [nqs] at hb61
    refine zJ ?_
    refine hK26 _ _ ?_
    refine zB fun _ hK28 => ?_
    refine zK ?_
    refine zB fun _ hK29 => ?_
    have zq13 := hle11.trans hle12
    have zq14 := zq11.trans zq13
    replace haa_t := haa_t.mono zq14
    obtain ⟨p30, vs30, x30, ho30, hd30, hm_x30, ht30, hcv30, hl30, hv30⟩ := haa_t.nth (k := y) (by omega)
    cases ho30
    obtain ⟨oV30, cV30, bs30, rfl, hva30, hbd30⟩ := hv30.open_
    have hbv30 := hva30.big; have hcv30_ := hva30.cap
    obtain ⟨⟨oK30b, cK30b, oA30b, cA30b, oR30b, cR30b, t030b, t130b, t230b, t330b, t430b, t530b, u030b, u130b, u230b, u330b, u430b, u530b⟩, rfl, hon30b, hkk30b, haa30b, hrr30b⟩ := hbd30.open_
    dsimp only at hkk30b haa30b hrr30b
    have hbg30b := hkk30b.big; have hcp30b := hkk30b.cap; have hbh30b := haa30b.big; have hcq30b := haa30b.cap
    rw [hd30] at hlen_al hcu
    rw [zBQ] at hlen_al; rw [zv] at hcu
    replace hst12 := hst12.more (r := .free) trivial List.nodup_nil (by simp [Res.blocks])
    replace hc3 := hc3.mono hle12
    refine ra0 (tch := [(5, 4, (fun v => .blk v _)), (6, 4, (fun v => .blk v _))]) hst12 hfr12 (.cons rfl (zA (off := 6) rfl underlying33 rfl rfl sizeOf25 rfl) <| .cons rfl (zE rfl hc3 isAgg25 rfl) <| .cons rfl (zD rfl) <| .cons rfl (zI (k := y) rfl rfl underlying25 sizeOf72 rfl (by omega)) <| .cons rfl (zN rfl hcv30 isAgg72 sizeOf72 rfl rfl) <| .consT rfl rfl (fun _ => rfl) rfl (zR zeroValue72 rfl) <| .consT rfl rfl (fun _ => rfl) rfl (zU 13 rfl rfl rfl fun y13 => zf rfl rfl rfl rfl rfl sizeOf72 rfl rfl hv30.one) <| .nil) fun a13 w13 m13 hst13 hle13 hk13 => ?_
    have hfr13 := hk13.fr (.o 2 <| .o 12 <| .o 9 <| .o 1 <| .o 3 <| .o 6 <| .o 8 <| .nil)
    obtain ⟨g31, e31, _⟩ := hk13.ex 13 rfl
    replace hfr13 := hfr13.cons e31
    replace hst13 := hst13.fin (L' := [_, _, _, _, _]) (.cons e31 <| .cons e31 <| .nil)
    try simp only [List.take_succ_cons, List.take_zero, List.drop_succ_cons, List.drop_zero, List.cons_append, List.nil_append, List.append_nil, List.length_cons, List.length_nil, Nat.zero_add, Nat.reduceAdd] at hst13
    clear hst12 hfr12 hk13
    refine hK29 _ _ ?_
    refine zB fun _ hK32 => ?_
    refine zk 5 (by kernel_rfl) ?_
    have zq15 := zq14.trans hle13
    replace h_rl := h_rl.mono zq15
    replace hbd30 := hbd30.mono hle13
    refine za (tch := []) hst13 hfr13 (by kernel_rfl) (by kernel_rfl) (by kernel_rfl) (.cons rfl (zA (off := 2) rfl underlying72 rfl rfl sizeOf33 rfl) <| .cons rfl (zAE (j := 4) rfl rfl isAgg33 sizeOf33 rfl rfl) <| .cons rfl (zD rfl) <| .cons rfl (zD rfl) <| .cons rfl (zi (φ := MP.rowsV rl x30.body u) rfl (.cons rfl <| .cons rfl <| .cons rfl <| .nil) call21 (fun w m hK => by have hle_ := KC.le hK; have hA := KC.agree hK; have h_rl := h_rl.mono hle_; have hbd30 := hbd30.mono hle_; exact FnG.mono (iha _ hm_x30 hA hbd30 h_rl (by omega)) fun _ _ _ _ h => h)) <| .nil) fun a14 w14 m14 hst14 hle14 hk14 => ?_
    have hfr14 := hk14.fr (.o 2 <| .o 12 <| .o 9 <| .o 1 <| .o 3 <| .o 6 <| .o 8 <| .o 13 <| .nil)
    obtain ⟨yr, e33, hyr⟩ := hk14.ex 74 rfl
    replace hfr14 := hfr14.cons e33
    clear hst13 hfr13 hk14
    replace hst14 := hst14.more (r := .free) trivial List.nodup_nil (by simp [Res.blocks])
    refine za (tch := [(3, 5, (fun v => .blk v _)), (4, 5, (fun v => .blk v _))]) hst14 hfr14 (by kernel_rfl) (by kernel_rfl) (by kernel_rfl) (.cons rfl (zD rfl) <| .cons rfl (zS rfl rfl) <| .cons rfl (zS rfl rfl) <| .consT rfl rfl (fun _ => rfl) rfl (zR zeroValue33 rfl) <| .consT rfl rfl (fun _ => rfl) rfl (zU 14 rfl rfl rfl fun y14 => zf rfl rfl rfl rfl rfl sizeOf33 rfl rfl hyr.one) <| .cons rfl (zC rfl) <| .nil) fun a15 w15 m15 hst15 hle15 hk15 => ?_
    have hfr15 := hk15.fr (.o 2 <| .o 12 <| .o 9 <| .o 1 <| .o 3 <| .o 6 <| .o 8 <| .o 13 <| .o 74 <| .n 15 <| .nil)
    obtain ⟨g34, e34, _⟩ := hk15.ex 14 rfl
    replace hfr15 := hfr15.cons e34
    replace hst15 := hst15.fin (L' := [_, _, _, _, _, _]) (.cons e34 <| .cons e34 <| .nil)
    try simp only [List.take_succ_cons, List.take_zero, List.drop_succ_cons, List.drop_zero, List.cons_append, List.nil_append, List.append_nil, List.length_cons, List.length_nil, Nat.zero_add, Nat.reduceAdd] at hst15
    clear hst14 hfr14 hk15
    refine hK32 _ _ ?_
    refine zB fun _ hK35 => ?_
    refine rp0 hst15 hfr15 (.cons rfl (zD rfl) <| .cons rfl (zC rfl) <| .nil) fun a16 w16 m16 hst16 hle16 hk16 => ?_
    have hfr16 := hk16.fr (.o 12 <| .o 9 <| .o 1 <| .o 3 <| .o 6 <| .o 8 <| .o 13 <| .o 14 <| .n 2 <| .nil)
    clear hst15 hfr15 hk16
    refine hK35 _ _ ?_
    refine zB fun _ hK36 => ?_
    have zq16 := hle15.trans hle16
    replace hyr := hyr.mono zq16
    refine ra0 (tch := [(2, 4, (fun _ => .blk _ _))]) hst16 hfr16 (.cons rfl (ze (j := 5) rfl rfl isAgg33 sizeOf33 rfl) <| .cons rfl (zA (off := 2) rfl underlying72 rfl rfl sizeOf33 rfl) <| .consT rfl rfl (fun _ => rfl) rfl (ZE rfl rfl rfl sizeOf33 rfl rfl hyr.one) <| .nil) fun a17 w17 m17 hst17 hle17 hk17 => ?_
    have hfr17 := hk17.fr (.o 12 <| .o 9 <| .o 1 <| .o 3 <| .o 6 <| .o 8 <| .o 13 <| .o 2 <| .nil)
    replace hst17 := hst17.fin (L' := [_, _, _, _, _, _]) (.cons rfl <| .nil)
    try simp only [List.take_succ_cons, List.take_zero, List.drop_succ_cons, List.drop_zero, List.cons_append, List.nil_append, List.append_nil, List.length_cons, List.length_nil, Nat.zero_add, Nat.reduceAdd] at hst17
    clear hst16 hfr16 hk17
    refine hK36 _ _ ?_
    have zq17 := zq16.trans hle17
    have zq18 := hle14.trans zq17
    have zq19 := hle13.trans zq18
    replace hva30 := hva30.mono zq19
    replace hyr := hyr.mono hle17
    refine ra0 (tch := [(4, 3, (fun v => .rowx (nz v) _ _ _ _)), (6, 1, (fun u => .blk _ (.cells (_ ++ [u] ++ _).toArray _)))]) hst17 hfr17 (.cons rfl (zA (off := 6) rfl underlying33 rfl rfl sizeOf25 rfl) <| .cons rfl (zP (j := 1) rfl rfl isAgg25 rfl) <| .cons rfl (ze (j := 4) rfl rfl isAgg72 sizeOf72 rfl) <| .cons rfl (zz rfl underlying25 sizeOf72 zeroValue72 rfl rfl rfl rfl) <| .consT rfl rfl (fun _ => rfl) rfl (zU 83 rfl rfl rfl fun y83 => ZC (size := 23) (bytes := 352) (l := al) (l' := [zDZ rl x30 u]) rfl rfl (fun _ => by first | exact .inl rfl | exact .inr (.inl rfl)) underlying25 type72 rfl rfl rfl rfl (fun w m hK => Sl.one (R := fun m vs t => ArR m t vs) hK.2 rfl ⟨_, _, _, rfl, hva30.mono (KC.le hK), hyr.mono (KC.le hK)⟩) rfl (by decide) (by simp only [maxLen]; omega) (by omega)) <| .cons rfl (zA (off := 6) rfl underlying33 rfl rfl sizeOf25 rfl) <| .consT rfl rfl (fun _ => rfl) rfl (zU 84 rfl rfl rfl fun y84 => zAP rfl rfl rfl rfl rfl sizeOf25 rfl rfl rfl) <| .nil) fun a18 w18 m18 hst18 hle18 hk18 => ?_
    have hfr18 := hk18.fr (.o 12 <| .o 9 <| .o 1 <| .o 3 <| .o 6 <| .o 8 <| .o 2 <| .nil)
    obtain ⟨⟨A_37o, A_37p⟩, e38, hsl_A_37⟩ := hk18.ex 84 rfl
    replace hst18 := hst18.fin (L' := [_, _, _, _, _, _]) (.cons e38 <| .cons e38 <| .nil)
    try simp only [List.take_succ_cons, List.take_zero, List.drop_succ_cons, List.drop_zero, List.cons_append, List.nil_append, List.append_nil, List.length_cons, List.length_nil, Nat.zero_add, Nat.reduceAdd] at hst18
    clear hst17 hfr17 hk18
    replace hsl_A_37 : Ars m18 A_37o (al ++ [zDZ rl x30 u]).length A_37p (al ++ [zDZ rl x30 u]) := hsl_A_37
    refine hK28 _ _ ?_
    refine rp0 hst18 hfr18 (.cons rfl (zD rfl) <| .cons rfl (zh rfl rfl ⟨by omega, by omega⟩) <| .cons rfl (zC rfl) <| .nil) fun a19 w19 m19 hst19 hle19 hk19 => ?_
    have hfr19 := hk19.fr (.o 9 <| .o 1 <| .o 3 <| .o 6 <| .o 8 <| .o 2 <| .n 12 <| .nil)
    clear hst18 hfr18 hk19
    have hst19 := hst19.take 4
    replace hsl_A_37 := hsl_A_37.mono hle19
    have zq20 := hle18.trans hle19
    have zq21 := zq19.trans zq20
    have zq22 := hle12.trans zq21
    have hlh19 := hlh11.trans zq22
    exact ⟨(y + 1, (u + zO x30.body), A_37o, A_37p, (al ++ [zDZ rl x30 u])), m19, by show t.arms.length - (y + 1) < t.arms.length - y; omega, ⟨hst19, hlh19, hfr19.sub (.c <| .c <| .c <| .c <| .c <| .c <| .c <| .nil), ⟨by show y + 1 ≤ t.arms.length; omega, hsl_A_37, ⟨by rw [hlen_al.1]; simp, by show (al ++ [_]).length = y + 1; simp; exact hlen_al.2⟩, by show u + zO x30.body + zn (t.arms.drop (y + 1)) = _; omega⟩⟩⟩
   ·try simp only [nqs] at hb61
    have hge : y = t.arms.length := by omega
    rw [List.drop_of_length_le (by omega)] at hlen_al hcu
    rw [Zq, List.append_nil] at hlen_al
    rw [zn] at hcu
    refine zb ?_
    refine hK23 _ _ ?_
    refine zB fun _ hK39 => ?_
    have zq23 := zq12.trans hle12
    have zq24 := hle8.trans zq23
    have zq25 := zq1.trans zq24
    replace hrw9 := hrw9.mono zq25
    replace hsl_kl := hsl_kl.mono zq23
    replace hsl_al := hsl_al.mono hle12
    have hout : TmR m12 ⟨t.kind, t.at_, t.name, t.param, t.n, kl, al, (zCT rl n t.row)⟩ (tmV ⟨t.kind, t.at_, t.name, t.param, t.n, kl, al, (zCT rl n t.row)⟩ (⟨klo, klp, alo, alp, orr, crr, t0_t, t1_t, t2_t, t3_t, t4_t, t5_t, u0_t, u1_t, u2_t, u3_t, u4_t, u5_t⟩ : TmY)) := TmR.build hon_t hsl_kl hsl_al hrw9
    have hfin : zAG rl t n = ⟨t.kind, t.at_, t.name, t.param, t.n, kl, al, (zCT rl n t.row)⟩ := by rw [zCB, hlen_kl.1, ← hlen_al.1, show v = n + 1 + zQ t.kids by omega]
    refine ra0 (tch := [(2, 0, (fun _ => .blk _ _))]) hst12 hfr12 (.cons rfl (ze (j := 1) rfl rfl isAgg33 sizeOf33 rfl) <| .cons rfl (zD rfl) <| .consT rfl rfl (fun _ => rfl) rfl (zc rfl rfl rfl sizeOf33 rfl rfl hout.one) <| .cons rfl (zC rfl) <| .nil) fun a13 w13 m13 hst13 hle13 hk13 => ?_
    have hfr13 := hk13.fr (.o 2 <| .o 12 <| .o 9 <| .o 6 <| .n 7 <| .nil)
    replace hst13 := hst13.fin (L' := [_, _, _, _]) (.cons rfl <| .nil)
    try simp only [List.take_succ_cons, List.take_zero, List.drop_succ_cons, List.drop_zero, List.cons_append, List.nil_append, List.append_nil, List.length_cons, List.length_nil, Nat.zero_add, Nat.reduceAdd] at hst13
    clear hst12 hfr12 hk13
    refine hK39 _ _ ?_
    refine zL ?_
    repeat (with_reducible first | refine zH ?_ | refine zF ?_)
    replace hout := hout.mono hle13
    exact zM hst13 hfr13 rfl (.cell rfl (zp (zm (hst13.loc.at_ (k := 0) rfl)) isAgg33 sizeOf33) <| .tmp rfl <| .nil) (⟨(⟨klo, klp, alo, alp, orr, crr, t0_t, t1_t, t2_t, t3_t, t4_t, t5_t, u0_t, u1_t, u2_t, u3_t, u4_t, u5_t⟩ : TmY), by show _ = Value.tuple #[.agg (tmV (zAG rl t n) _).toArray, .int .i64 ((n + zO t : Nat) : Int)]; rw [hfin, show n + zO t = u by omega]; rfl, by show TmR _ (zAG rl t n) (tmV (zAG rl t n) _); rw [hfin]; exact hout⟩)
 ·have hlj8 : MLe m4 m4 := MLe.refl _
  refine zB fun _ hK41 => ?_
  refine rp0 hst4 hfr4 (.cons rfl (zD rfl) <| .cons rfl (zX rfl underlying36) <| .cons rfl (zBD rfl rfl) <| .nil) fun a5 w5 m5 hst5 hle5 hk5 => ?_
  have hfr5 := hk5.fr (.o 1 <| .o 2 <| .o 3 <| .o 6 <| .o 8 <| .n 21 <| .nil)
  clear hst4 hfr4 hk5
  refine hK41 _ _ ?_
  refine zG hfr5 rfl rfl (fun hb21 => ?_) (fun hb21 => ?_)
  ·try simp only [nqs] at hb21
   have hmod : n % rl.length < rl.length := Nat.mod_lt _ (by omega)
   replace h_rl := h_rl.mono hle5
   obtain ⟨p42, vs42, x42, ho42, hd42, hm_x42, ht42, hcv42, hl42, hv42⟩ := h_rl.nth (k := (n % rl.length)) (by omega)
   cases ho42
   obtain ⟨o42, c42, rfl, hs42, hr42⟩ := hv42.open_
   have hbs42 := hs42.big; have hcs42 := hs42.cap
   refine ra0 (tch := [(8, 1, (fun _ => .blk _ _))]) hst5 hfr5 (.cons rfl (zD rfl) <| .cons rfl (zD rfl) <| .cons rfl (zD rfl) <| .cons rfl (zX rfl underlying36) <| .cons rfl (ob_rem rfl rfl (by omega)) <| .cons rfl (zI (k := (n % rl.length)) rfl rfl underlying36 sizeOf29 (by omega) (by omega)) <| .cons rfl (zN rfl hcv42 isAgg29 sizeOf29 rfl rfl) <| .cons rfl (zA (off := 13) rfl underlying33 rfl rfl sizeOf29 rfl) <| .consT rfl rfl (fun _ => rfl) rfl (ZE rfl rfl rfl sizeOf29 rfl rfl rfl) <| .nil) fun a6 w6 m6 hst6 hle6 hk6 => ?_
   have hfr6 := hk6.fr (.o 1 <| .o 2 <| .o 3 <| .o 6 <| .o 8 <| .nil)
   replace hst6 := hst6.fin (L' := [_, _, _, _]) (.cons rfl <| .nil)
   try simp only [List.take_succ_cons, List.take_zero, List.drop_succ_cons, List.drop_zero, List.cons_append, List.nil_append, List.append_nil, List.length_cons, List.length_nil, Nat.zero_add, Nat.reduceAdd] at hst6
   clear hst5 hfr5 hk6
   repeat (with_reducible first | refine ZK ?_ | refine ZG ?_ | refine z1 ?_)
   have zq26 := hle5.trans hle6
   replace hlj8 := hlj8.trans zq26
   replace hv42 := hv42.mono hle6
   exact hj8 (x42, _, _) _ _ _ ⟨hst6, hlj8, hfr6.sub (.c <| .c <| .c <| .c <| .c <| .nil), ⟨by unfold zCT; rw [if_neg (fun h => by rw [h] at hb21; simp at hb21), Zs hd42], hv42⟩⟩
  ·try simp only [nqs] at hb21
   have hnil : rl = [] := List.eq_nil_of_length_eq_zero (by omega)
   refine zJ ?_
   repeat (with_reducible first | refine ZK ?_ | refine ZG ?_ | refine z1 ?_)
   replace hrr_t := hrr_t.mono hle5
   replace hlj8 := hlj8.trans hle5
   exact hj8 (t.row, oR_t, cR_t) _ _ _ ⟨hst5, hlj8, hfr5.sub (.c <| .c <| .c <| .c <| .c <| .nil), ⟨by unfold zCT; rw [if_pos hnil], hrr_t⟩⟩
theorem rows_c (t : Tm) : rows_G t := Tm.rec_ (p := rows_G) (fun t ihk iha => rows_s ihk iha) t
set_option maxHeartbeats 1600000 in
theorem some_c {w : World} {m : Mem} {p : Pg} {vs_p : List Value} {n : Int} {o_rl : Option Addr} {c_rl : Nat} {rl : List Rw} (hA : Agree w m) (h_p : PgR m p vs_p) (h_rl : Rws m o_rl rl.length c_rl rl) (hbo : zAx p.effects ≤ 1000000000) (hbc : consN p.datas ≤ 1000000000) (hbd : p.datas.length ≤ 1000000000) (hB : ZA p.body ≤ 2100000) : FnV Tryd.prog 10 #[.agg vs_p.toArray, .int .i64 n, .slice o_rl rl.length c_rl] w m (fun _ m v => (MP.someV 2100000).p m v) := by
 obtain ⟨oE_p, cE_p, oD_p, cD_p, bs_p, rfl, hef_p, hda_p, hpb_p⟩ := id h_p
 have hbe_p := hef_p.big; have hce_p := hef_p.cap; have hbda_p := hda_p.big; have hcd_p := hda_p.cap
 obtain ⟨⟨oK_pb, cK_pb, oA_pb, cA_pb, oR_pb, cR_pb, t0_pb, t1_pb, t2_pb, t3_pb, t4_pb, t5_pb, u0_pb, u1_pb, u2_pb, u3_pb, u4_pb, u5_pb⟩, rfl, hon_pb, hkk_pb, haa_pb, hrr_pb⟩ := hpb_p.open_
 dsimp only at hkk_pb haa_pb hrr_pb
 have hbg_pb := hkk_pb.big; have hcp_pb := hkk_pb.cap; have hbh_pb := haa_pb.big; have hcq_pb := haa_pb.cap
 have hb_rl := h_rl.big; have hc_rl := h_rl.cap
 refine zW (vs := [_, _, _]) func10 rfl rfl rfl fun a0 hfr0 => ?_
 have hst0 := zV hA (zj [] _ w m)
 have hM : MLe m m := MLe.refl m
 refine zB fun _ hK1 => ?_
 replace hst0 := hst0.more (r := .free) trivial List.nodup_nil (by simp [Res.blocks])
 refine ra0 (tch := [(1, 0, (fun v => .blk v _))]) hst0 hfr0 (.cons rfl (zx rfl rfl) <| .consT rfl rfl (fun _ => rfl) rfl (zR zeroValue33 rfl) <| .cons rfl (zC rfl) <| .nil) fun a1 w1 m1 hst1 hle1 hk1 => ?_
 have hfr1 := hk1.fr (.o 1 <| .o 2 <| .nil)
 obtain ⟨g2, e2, hc3⟩ := hk1.ex 3 rfl
 replace hfr1 := hfr1.cons e2
 obtain ⟨g3, e3, _⟩ := hk1.ex 6 rfl
 replace hfr1 := hfr1.cons e3
 replace hst1 := hst1.fin (L' := [_]) (.cons e3 <| .nil)
 replace h_p := h_p.mono hle1
 replace h_rl := h_rl.mono hle1
 clear hst0 hfr0 hk1
 refine hK1 _ _ ?_
 refine zB fun _ hK4 => ?_
 refine zk 3 (by kernel_rfl) ?_
 refine za (tch := []) hst1 hfr1 (by kernel_rfl) (by kernel_rfl) (by kernel_rfl) (.cons rfl (zN rfl hc3 isAgg35 sizeOf35 rfl rfl) <| .cons rfl (zD rfl) <| .cons rfl (zi (φ := MP.partB 2100000) rfl (.cons rfl <| .cons rfl <| .nil) call20 (fun w m hK => by have hle_ := KC.le hK; have hA := KC.agree hK; have h_p := h_p.mono hle_; exact FnG.mono (part_c hA h_p hbo hbc hbd 2100000 hB (by omega)) fun _ _ _ _ h => h)) <| .nil) fun a2 w2 m2 hst2 hle2 hk2 => ?_
 have hfr2 := hk2.fr (.o 1 <| .o 2 <| .o 3 <| .o 6 <| .nil)
 obtain ⟨⟨⟨xt, yt⟩, bt⟩, e5, ht, hst_, hct, hbt, hrt, hcl⟩ := hk2.ex 16 rfl
 replace hfr2 := hfr2.cons e5
 replace h_rl := h_rl.mono hle2
 clear hst1 hfr1 hk2
 dsimp only at ht hst_ hct hbt hrt hcl
 have hlw := low_of hrt
 clear hst_
 replace hst2 := hst2.more (r := .free) trivial List.nodup_nil (by simp [Res.blocks])
 refine za (tch := [(3, 1, (fun v => .blk v _)), (4, 1, (fun v => .blk v _))]) hst2 hfr2 (by kernel_rfl) (by kernel_rfl) (by kernel_rfl) (.cons rfl (zD rfl) <| .cons rfl (zS rfl rfl) <| .cons rfl (zS rfl rfl) <| .consT rfl rfl (fun _ => rfl) rfl (zR zeroValue33 rfl) <| .consT rfl rfl (fun _ => rfl) rfl (zU 8 rfl rfl rfl fun y8 => zf rfl rfl rfl rfl rfl sizeOf33 rfl rfl ht.one) <| .cons rfl (zC rfl) <| .nil) fun a3 w3 m3 hst3 hle3 hk3 => ?_
 have hfr3 := hk3.fr (.o 1 <| .o 2 <| .o 3 <| .o 6 <| .o 16 <| .n 9 <| .nil)
 obtain ⟨g8, e6, _⟩ := hk3.ex 8 rfl
 replace hfr3 := hfr3.cons e6
 replace hst3 := hst3.fin (L' := [_, _]) (.cons e6 <| .cons e6 <| .nil)
 try simp only [List.take_succ_cons, List.take_zero, List.drop_succ_cons, List.drop_zero, List.cons_append, List.nil_append, List.append_nil, List.length_cons, List.length_nil, Nat.zero_add, Nat.reduceAdd] at hst3
 replace h_rl := h_rl.mono hle3
 replace ht := ht.mono hle3
 clear hst2 hfr2 hk3
 refine hK4 _ _ ?_
 refine zB fun _ hK7 => ?_
 refine rp0 hst3 hfr3 (.cons rfl (zC rfl) <| .nil) fun a4 w4 m4 hst4 hle4 hk4 => ?_
 have hfr4 := hk4.fr (.o 2 <| .o 6 <| .o 9 <| .o 8 <| .n 10 <| .nil)
 replace h_rl := h_rl.mono hle4
 replace ht := ht.mono hle4
 clear hst3 hfr3 hk4
 have hst4 := hst4.more (r := .rowx (.slice none 0 0) 0 2 29 (MP.reads (fun m vs r => RwR m r vs) 2 [])) Z7 List.nodup_nil (by simp [Res.blocks, zw])
 have hsl_F : Rws m4 none ([] : List Rw).length 0 ([] : List Rw) := Sl.empty
 refine hK7 _ _ ?_
 refine zB fun _ hK8 => ?_
 refine zB fun _ hK9 => ?_
 refine rp0 hst4 hfr4 (.cons rfl (zC rfl) <| .nil) fun a5 w5 m5 hst5 hle5 hk5 => ?_
 have hfr5 := hk5.fr (.o 2 <| .o 6 <| .o 9 <| .o 8 <| .o 10 <| .n 11 <| .nil)
 replace h_rl := h_rl.mono hle5
 replace ht := ht.mono hle5
 replace hsl_F := hsl_F.mono hle5
 clear hst4 hfr4 hk5
 refine hK9 _ _ ?_
 refine zK ?_
 refine zZ (T := [(2, _), (6, _), (9, _), (8, _)]) (fun (y : Nat × Option Addr × Nat × List Rw) => ([(10, .slice y.2.1 y.2.2.2.length y.2.2.1), (11, .int .i64 (y.1 : Int))] : List (Nat × Value))) (fun y => [_, _, .rowx (nz (.slice y.2.1 y.2.2.2.length y.2.2.1)) y.2.2.2.length 2 29 (MP.reads (fun m vs r => RwR m r vs) 2 y.2.2.2)]) (fun (y : Nat × Option Addr × Nat × List Rw) m => (fun (y : Nat) (flo : Option Addr) (flp : Nat) (fl : List Rw) => (y ≤ (min rl.length 10)) ∧ (Rws m flo fl.length flp fl) ∧ (fl.length = y)) y.1 y.2.1 y.2.2.1 y.2.2.2) (fun y => (min rl.length 10) - y.1) ((0, none, 0, ([] : List Rw))) ⟨hst5, MLe.refl _, hfr5.sub (.c <| .c <| .c <| .c <| .c <| .c <| .nil), ⟨Nat.zero_le _, hsl_F, rfl⟩⟩ fun y a6 w6 m6 hh6 => ?_
 have hst6 := hh6.st; have hle6 := hh6.le; have hfr6 := hh6.fr; have hrel := hh6.rel; clear hh6
 replace h_rl := h_rl.mono hle6
 replace ht := ht.mono hle6
 clear hst5 hfr5
 obtain ⟨y, flo, flp, fl⟩ := y
 dsimp only at hrel hfr6 hst6
 obtain ⟨hyn, hsl_fl, hlen_fl⟩ := hrel
 have hlh6 := hle6
 refine zB fun _ hK11 => ?_
 refine zB fun _ hK12 => ?_
 refine rp0 hst6 hfr6 (.cons rfl (zD rfl) <| .cons rfl (zD rfl) <| .cons rfl (zX rfl underlying36) <| .cons rfl (zt rfl rfl) <| .cons rfl (zD rfl) <| .cons rfl (zD rfl) <| .cons rfl (zt rfl rfl) <| .cons rfl (ZP rfl rfl rfl) <| .nil) fun a7 w7 m7 hst7 hle7 hk7 => ?_
 have hfr7 := hk7.fr (.o 10 <| .o 11 <| .o 2 <| .o 6 <| .o 9 <| .o 8 <| .n 26 <| .nil)
 replace h_rl := h_rl.mono hle7
 replace ht := ht.mono hle7
 replace hsl_fl := hsl_fl.mono hle7
 have hlh7 := hlh6.trans hle7
 clear hst6 hfr6 hk7
 refine hK12 _ _ ?_
 refine zG hfr7 rfl rfl (fun hb26 => ?_) (fun hb26 => ?_)
 ·try simp only [nqs] at hb26
  refine zJ ?_
  refine hK11 _ _ ?_
  refine zB fun _ hK13 => ?_
  refine zK ?_
  refine zB fun _ hK14 => ?_
  have hy9 : y < rl.length := by omega
  obtain ⟨p15, vs15, x15, ho15, hd15, hm_x15, ht15, hcv15, hl15, hv15⟩ := h_rl.nth (k := y) (by omega)
  cases ho15
  obtain ⟨o15, c15, rfl, hs15, hr15⟩ := hv15.open_
  have hbs15 := hs15.big; have hcs15 := hs15.cap
  replace hst7 := hst7.more (r := .free) trivial List.nodup_nil (by simp [Res.blocks])
  refine ra0 (tch := [(4, 3, (fun v => .blk v _)), (5, 3, (fun v => .blk v _))]) hst7 hfr7 (.cons rfl (zD rfl) <| .cons rfl (zD rfl) <| .cons rfl (zI (k := y) rfl rfl underlying36 sizeOf29 rfl (by omega)) <| .cons rfl (zN rfl hcv15 isAgg29 sizeOf29 rfl rfl) <| .consT rfl rfl (fun _ => rfl) rfl (zR zeroValue29 rfl) <| .consT rfl rfl (fun _ => rfl) rfl (zU 12 rfl rfl rfl fun y12 => zf rfl rfl rfl rfl rfl sizeOf29 rfl rfl rfl) <| .nil) fun a8 w8 m8 hst8 hle8 hk8 => ?_
  have hfr8 := hk8.fr (.o 10 <| .o 11 <| .o 2 <| .o 6 <| .o 9 <| .o 8 <| .nil)
  obtain ⟨g16, e16, _⟩ := hk8.ex 12 rfl
  replace hfr8 := hfr8.cons e16
  replace hst8 := hst8.fin (L' := [_, _, _, _]) (.cons e16 <| .cons e16 <| .nil)
  try simp only [List.take_succ_cons, List.take_zero, List.drop_succ_cons, List.drop_zero, List.cons_append, List.nil_append, List.append_nil, List.length_cons, List.length_nil, Nat.zero_add, Nat.reduceAdd] at hst8
  clear hst7 hfr7 hk8
  refine hK14 _ _ ?_
  refine zB fun _ hK17 => ?_
  have emin : (if (10 : Int) < (x15.labels.length : Int) then (10 : Int) else (x15.labels.length : Int)) = ((min x15.labels.length 10 : Nat) : Int) := by split <;> omega
  refine ra0 (tch := [(8, 3, (fun _ => .blk _ _))]) hst8 hfr8 (.cons rfl (zA (off := 0) rfl underlying29 rfl rfl sizeOf27 rfl) <| .cons rfl (zP (j := 3) rfl rfl isAgg27 rfl) <| .cons rfl (zA (off := 0) rfl underlying29 rfl rfl sizeOf27 rfl) <| .cons rfl (zP (j := 3) rfl rfl isAgg27 rfl) <| .cons rfl (zX rfl underlying27) <| .cons rfl (ob_min2 rfl rfl) <| .cons rfl (zCI rfl .none (.some rfl emin) underlying27 sizeOf9 (by omega) (by omega)) <| .cons rfl (zA (off := 0) rfl underlying29 rfl rfl sizeOf27 rfl) <| .consT rfl rfl (fun _ => rfl) rfl (ZE rfl rfl rfl sizeOf27 rfl rfl rfl) <| .nil) fun a9 w9 m9 hst9 hle9 hk9 => ?_
  have hfr9 := hk9.fr (.o 10 <| .o 11 <| .o 2 <| .o 6 <| .o 9 <| .o 8 <| .o 12 <| .nil)
  replace hst9 := hst9.fin (L' := [_, _, _, _]) (.cons rfl <| .nil)
  try simp only [List.take_succ_cons, List.take_zero, List.drop_succ_cons, List.drop_zero, List.cons_append, List.nil_append, List.append_nil, List.length_cons, List.length_nil, Nat.zero_add, Nat.reduceAdd] at hst9
  clear hst8 hfr8 hk9
  have zq1 := hle8.trans hle9
  replace hs15 := hs15.mono zq1
  have hcut : Strs _ _ _ _ _ := hs15.cut (l := 0) (k := min x15.labels.length 10) (Nat.zero_le _) (Nat.min_le_left _ _)
  have hlk : min x15.labels.length 10 - 0 = ((x15.labels.take (min x15.labels.length 10)).drop 0).length := by simp
  generalize (x15.labels.take (min x15.labels.length 10)).drop 0 = ls at hlk hcut
  rw [hlk] at hcut hst9
  generalize (if c15 = 0 then o15 else o15.map (·.add (0 * 1))) = oq at hcut hst9
  generalize c15 - 0 = cq at hcut hst9
  refine hK17 _ _ ?_
  refine ra0 (tch := [(3, 2, (fun v => .rowx (nz v) _ _ _ _))]) hst9 hfr9 (.cons rfl (zD rfl) <| .cons rfl (ze (j := 3) rfl rfl isAgg29 sizeOf29 rfl) <| .cons rfl (zz rfl underlying36 sizeOf29 zeroValue29 rfl rfl rfl rfl) <| .consT rfl rfl (fun _ => rfl) rfl (zU 43 rfl rfl rfl fun y43 => ZC (size := 2) (bytes := 32) (l := fl) (l' := [(⟨ls, x15.var⟩ : Rw)]) rfl rfl (fun _ => by first | exact .inl rfl | exact .inr (.inl rfl)) underlying36 type29 rfl rfl rfl rfl (fun w m hK => Sl.one (R := fun m vs r => RwR m r vs) hK.2 rfl ⟨_, _, rfl, hcut.mono (KC.le hK), hr15⟩) rfl (by decide) (by simp only [maxLen]; omega) (by omega)) <| .consA 44 rfl rfl <| .nil) fun a10 w10 m10 hst10 hle10 hk10 => ?_
  have hfr10 := hk10.fr (.o 11 <| .o 2 <| .o 6 <| .o 9 <| .o 8 <| .nil)
  obtain ⟨⟨F_18o, F_18p⟩, e19, hsl_F_18⟩ := hk10.ex 44 rfl
  replace hfr10 := hfr10.cons (hk10.same 10 rfl e19)
  replace hst10 := hst10.fin (L' := [_, _, _, _]) (.cons e19 <| .nil)
  clear hst9 hfr9 hk10
  replace hsl_F_18 : Rws m10 F_18o (fl ++ [(⟨ls, x15.var⟩ : Rw)]).length F_18p (fl ++ [(⟨ls, x15.var⟩ : Rw)]) := hsl_F_18
  refine hK13 _ _ ?_
  refine rp0 hst10 hfr10 (.cons rfl (zD rfl) <| .cons rfl (zh rfl rfl ⟨by omega, by omega⟩) <| .cons rfl (zC rfl) <| .nil) fun a11 w11 m11 hst11 hle11 hk11 => ?_
  have hfr11 := hk11.fr (.o 2 <| .o 6 <| .o 9 <| .o 8 <| .o 10 <| .n 11 <| .nil)
  clear hst10 hfr10 hk11
  have hst11 := hst11.take 3
  replace hsl_F_18 := hsl_F_18.mono hle11
  have zq2 := hle10.trans hle11
  have zq3 := zq1.trans zq2
  have hlh11 := hlh7.trans zq3
  exact ⟨(y + 1, F_18o, F_18p, (fl ++ [(⟨ls, x15.var⟩ : Rw)])), m11, by show (min rl.length 10) - (y + 1) < (min rl.length 10) - y; omega, ⟨hst11, hlh11, hfr11.sub (.c <| .c <| .c <| .c <| .c <| .c <| .nil), ⟨by show y + 1 ≤ (min rl.length 10); omega, hsl_F_18, by show (fl ++ [_]).length = y + 1; simp; exact hlen_fl⟩⟩⟩
 ·try simp only [nqs] at hb26
  refine zb ?_
  refine hK8 _ _ ?_
  refine zB fun _ hK20 => ?_
  refine zk 3 (by kernel_rfl) ?_
  refine za (tch := []) hst7 hfr7 (by kernel_rfl) (by kernel_rfl) (by kernel_rfl) (.cons rfl (ze (j := 1) rfl rfl isAgg33 sizeOf33 rfl) <| .cons rfl (zD rfl) <| .cons rfl (zi (φ := MP.rowsV fl xt 0) rfl (.cons rfl <| .cons rfl <| .cons rfl <| .nil) call21 (fun w m hK => by have hle_ := KC.le hK; have hA := KC.agree hK; have ht := ht.mono hle_; have hsl_fl := hsl_fl.mono hle_; exact FnG.mono ((rows_c xt (n := 0) hA ht hsl_fl (by omega))) fun _ _ _ _ h => h)) <| .nil) fun a8 w8 m8 hst8 hle8 hk8 => ?_
  have hfr8 := hk8.fr (.o 10 <| .o 11 <| .o 2 <| .o 6 <| .o 9 <| .o 8 <| .nil)
  obtain ⟨yr, e21, hyr⟩ := hk8.ex 48 rfl
  replace hfr8 := hfr8.cons e21
  clear hst7 hfr7 hk8
  refine za (tch := [(3, 1, (fun _ => .blk _ _))]) hst8 hfr8 (by kernel_rfl) (by kernel_rfl) (by kernel_rfl) (.cons rfl (zD rfl) <| .cons rfl (zS rfl rfl) <| .cons rfl (zS rfl rfl) <| .consT rfl rfl (fun _ => rfl) rfl (zc rfl rfl rfl sizeOf33 rfl rfl hyr.one) <| .nil) fun a9 w9 m9 hst9 hle9 hk9 => ?_
  have hfr9 := hk9.fr (.o 10 <| .o 11 <| .o 2 <| .o 6 <| .o 9 <| .o 8 <| .o 48 <| .nil)
  replace hst9 := hst9.fin (L' := [_, _, _]) (.cons rfl <| .nil)
  try simp only [List.take_succ_cons, List.take_zero, List.drop_succ_cons, List.drop_zero, List.cons_append, List.nil_append, List.append_nil, List.length_cons, List.length_nil, Nat.zero_add, Nat.reduceAdd] at hst9
  clear hst8 hfr8 hk9
  refine hK20 _ _ ?_
  refine zB fun _ hK22 => ?_
  replace hyr := hyr.mono hle9
  refine ra0 (tch := [(2, 0, (fun _ => .blk _ _))]) hst9 hfr9 (.cons rfl (ze (j := 1) rfl rfl isAgg33 sizeOf33 rfl) <| .cons rfl (zD rfl) <| .consT rfl rfl (fun _ => rfl) rfl (zc rfl rfl rfl sizeOf33 rfl rfl hyr.one) <| .cons rfl (zC rfl) <| .nil) fun a10 w10 m10 hst10 hle10 hk10 => ?_
  have hfr10 := hk10.fr (.o 10 <| .o 11 <| .o 6 <| .n 7 <| .nil)
  replace hst10 := hst10.fin (L' := [_, _, _]) (.cons rfl <| .nil)
  try simp only [List.take_succ_cons, List.take_zero, List.drop_succ_cons, List.drop_zero, List.cons_append, List.nil_append, List.append_nil, List.length_cons, List.length_nil, Nat.zero_add, Nat.reduceAdd] at hst10
  clear hst9 hfr9 hk10
  refine hK22 _ _ ?_
  refine zL ?_
  repeat (with_reducible first | refine zH ?_ | refine zF ?_)
  replace hyr := hyr.mono hle10
  exact zM hst10 hfr10 rfl (.cell rfl (zp (zm (hst10.loc.at_ (k := 0) rfl)) isAgg33 sizeOf33) <| .tmp rfl <| .nil) (⟨((_, _), bt), rfl, hyr, hlw.rows _ _, by rw [rows_count]; exact hct, by rw [rows_bulk]; exact hbt, hcl.rows _ _⟩)
set_option maxHeartbeats 1600000 in
theorem whole_c {w : World} {m : Mem} {n : Int} (hA : Agree w m)  : FnV Tryd.prog 30 #[.int .i64 n] w m (fun _ m v => (MP.tm (intT n)).p m v) := by
 refine zW (vs := [_]) func30 rfl rfl rfl fun a0 hfr0 => ?_
 have hst0 := zV hA (zj [] _ w m)
 have hM : MLe m m := MLe.refl m
 refine zB fun _ hK1 => ?_
 replace hst0 := hst0.more (r := .free) trivial List.nodup_nil (by simp [Res.blocks])
 refine ra0 (tch := [(0, 0, (fun v => .blk v _))]) hst0 hfr0 (.consT rfl rfl (fun _ => rfl) rfl (zR zeroValue33 rfl) <| .nil) fun a1 w1 m1 hst1 hle1 hk1 => ?_
 have hfr1 := hk1.fr (.o 0 <| .nil)
 obtain ⟨g2, e2, _⟩ := hk1.ex 2 rfl
 replace hfr1 := hfr1.cons e2
 replace hst1 := hst1.fin (L' := [_]) (.cons e2 <| .nil)
 clear hst0 hfr0 hk1
 refine hK1 _ _ ?_
 refine zB fun _ hK3 => ?_
 refine ra0 (tch := [(2, 0, (fun _ => .blk _ _))]) hst1 hfr1 (.cons rfl (zD rfl) <| .cons rfl (zy (.cons rfl <| .cons rfl <| .nil) underlying33 zeroValue33 (.cons sizeOf3 <| .cons sizeOf3 <| .cons sizeOf9 <| .cons sizeOf9 <| .cons sizeOf3 <| .cons sizeOf24 <| .cons sizeOf25 <| .cons sizeOf31 <| .cons sizeOf29 <| .cons sizeOf31 <| .nil) rfl) <| .consT rfl rfl (fun _ => rfl) rfl (zc rfl rfl rfl sizeOf33 rfl rfl rfl) <| .nil) fun a2 w2 m2 hst2 hle2 hk2 => ?_
 have hfr2 := hk2.fr (.o 2 <| .nil)
 replace hst2 := hst2.fin (L' := [_]) (.cons rfl <| .nil)
 try simp only [List.take_succ_cons, List.take_zero, List.drop_succ_cons, List.drop_zero, List.cons_append, List.nil_append, List.append_nil, List.length_cons, List.length_nil, Nat.zero_add, Nat.reduceAdd] at hst2
 clear hst1 hfr1 hk2
 refine hK3 _ _ ?_
 refine zL ?_
 repeat (with_reducible first | refine zH ?_ | refine zF ?_)
 exact zM hst2 hfr2 rfl (.cell rfl (zp (zm (hst2.loc.at_ (k := 0) rfl)) isAgg33 sizeOf33) <| .nil) (⟨TmY.zero none 0 none 0, rfl, TmR.build TmY.zero_one Sl.empty Sl.empty ⟨_, _, rfl, Sl.empty, inI0⟩⟩)
set_option maxHeartbeats 1600000 in
theorem shown_c {w : World} {m : Mem}  (hA : Agree w m) (hT : Tab w) : FnV Tryd.prog 9 #[] w m (fun _ _ v => v = .bool true) := by
 refine zW (vs := []) func9 rfl rfl rfl fun a0 hfr0 => ?_
 have hst0 := zV hA (zj [] _ w m)
 have hM : MLe m m := MLe.refl m
 refine zB fun _ hK1 => ?_
 refine rp0 hst0 hfr0 (.cons rfl (zC rfl) <| .nil) fun a1 w1 m1 hst1 hle1 hk1 => ?_
 have hfr1 := hk1.fr (.nil)
 clear hst0 hfr0 hk1
 refine hK1 _ _ ?_
 refine zB fun _ hK2 => ?_
 refine zk 6 (by kernel_rfl) ?_
 refine za (tch := []) hst1 hfr1 (by kernel_rfl) (by kernel_rfl) (by kernel_rfl) (.cons rfl (zi (φ := MP.tm (zDj [102])) rfl (.cons rfl <| .nil) call29 (fun w m hK => by have hle_ := KC.le hK; have hA := KC.agree hK; exact FnG.mono (v_c (s := [102]) hA) fun _ _ _ _ h => h)) <| .cons rfl (zi (φ := MP.tm (zDj [103])) rfl (.cons rfl <| .nil) call29 (fun w m hK => by have hle_ := KC.le hK; have hA := KC.agree hK; exact FnG.mono (v_c (s := [103]) hA) fun _ _ _ _ h => h)) <| .cons rfl (zi (φ := MP.tm (intT 1)) rfl (.cons rfl <| .nil) call30 (fun w m hK => by have hle_ := KC.le hK; have hA := KC.agree hK; exact FnG.mono (whole_c (n := 1) hA) fun _ _ _ _ h => h)) <| .cons rfl (zAm 3 rfl rfl rfl fun y3 => zAm 4 rfl rfl rfl fun y4 => zi (φ := MP.tm (zDa (zDj [103]) (intT 1))) rfl (.cons rfl <| .cons rfl <| .nil) call28 (fun w m hK => by have hle_ := KC.le hK; have hA := KC.agree hK; have hr0_ := hK.2; have hr1_ := hK.1.2; exact FnG.mono (call_c (f := (zDj [103])) (a := (intT 1)) hA hr1_ hr0_) fun _ _ _ _ h => h)) <| .cons rfl (zAm 2 rfl rfl rfl fun y2 => zAm 5 rfl rfl rfl fun y5 => zi (φ := MP.tm (zDa (zDj [102]) (zDa (zDj [103]) (intT 1)))) rfl (.cons rfl <| .cons rfl <| .nil) call28 (fun w m hK => by have hle_ := KC.le hK; have hA := KC.agree hK; have hr0_ := hK.2; have hr1_ := hK.1.2; exact FnG.mono (call_c (f := (zDj [102])) (a := (zDa (zDj [103]) (intT 1))) hA hr1_ hr0_) fun _ _ _ _ h => h)) <| .cons rfl (zy (.cons rfl <| .nil) underlying38 zeroValue38 (.cons sizeOf4 <| .cons sizeOf4 <| .nil) rfl) <| .nil) fun a2 w2 m2 hst2 hle2 hk2 => ?_
 have hfr2 := hk2.fr (.n 7 <| .nil)
 obtain ⟨y6, e3, hs6⟩ := hk2.ex 6 rfl
 replace hfr2 := hfr2.cons e3
 clear hst1 hfr1 hk2
 replace hst2 := hst2.more (r := .free) trivial List.nodup_nil (by simp [Res.blocks])
 refine za (tch := [(1, 0, (fun v => .blk v _)), (2, 0, (fun v => .blkx v _ _))]) hst2 hfr2 (by kernel_rfl) (by kernel_rfl) (by kernel_rfl) (.cons rfl (zi (φ := MP.cd (zCP true false shT)) rfl (.cons rfl <| .cons rfl <| .nil) call12 (fun w m hK => by have hle_ := KC.le hK; have hA := KC.agree hK; have hT := zCy hT hK.st.ext; have hs6 := hs6.mono hle_; exact FnG.mono (lower_c (t := shT) (sel := true) (tl := false) hA hs6 hT (low_call (low_var _) (low_call (low_var _) (low_int _))) (by decide) (by decide)) fun _ _ _ _ h => h)) <| .consT rfl rfl (fun _ => rfl) rfl (zR zeroValue46 rfl) <| .consT rfl rfl (fun _ => rfl) rfl (zU 1 rfl rfl rfl fun y1 => ZM 8 rfl rfl rfl fun y8 => zAD rfl rfl rfl rfl rfl sizeOf46 rfl rfl (fun w m hK => hK.2.one)) <| .nil) fun a3 w3 m3 hst3 hle3 hk3 => ?_
 have hfr3 := hk3.fr (.o 7 <| .o 6 <| .nil)
 obtain ⟨g4, e4, _⟩ := hk3.ex 1 rfl
 replace hfr3 := hfr3.cons e4
 replace hst3 := hst3.fin (L' := [_]) (.cons e4 <| .cons e4 <| .nil)
 try simp only [List.take_succ_cons, List.take_zero, List.drop_succ_cons, List.drop_zero, List.cons_append, List.nil_append, List.append_nil, List.length_cons, List.length_nil, Nat.zero_add, Nat.reduceAdd] at hst3
 obtain ⟨yl, hyl, hst3⟩ := hst3.unx (k := 0) rfl (fun _ => rfl)
 clear hst2 hfr2 hk3
 rw [lowT_sh] at hyl hst3
 obtain ⟨oK9, cK9, oA9, cA9⟩ := yl
 obtain ⟨hk9, -⟩ := hyl.at_y
 dsimp only at hk9
 refine hK2 _ _ ?_
 refine zB fun _ hK6 => ?_
 have hn1 := nameQ_1
 have hl8 : (cd2 8 (ZS 1) [] shA shB).kids.length = 2 := rfl
 have hl9 : ([shA, shB] : List Cd).length = 2 := rfl
 obtain ⟨p7, vs7, x7, ho7, hd7, hm_x7, ht7, hcv7, hl7, hv7⟩ := hk9.nth (k := 0) (by omega)
 cases ho7
 obtain ⟨⟨oK7, cK7, oA7, cA7⟩, rfl, ⟨hik7, hin7⟩, hkk7, haa7⟩ := hv7.open_
 dsimp only at hkk7 haa7
 have hbg7 := hkk7.big; have hcp7 := hkk7.cap; have hbh7 := haa7.big; have hcq7 := haa7.cap
 have hx0 : x7 = shA := zEg hd7 rfl
 obtain ⟨p8, vs8, x8, ho8, hd8, hm_x8, ht8, hcv8, hl8, hv8⟩ := hk9.nth (k := 1) (by omega)
 cases ho8
 obtain ⟨⟨oK8, cK8, oA8, cA8⟩, rfl, ⟨hik8, hin8⟩, hkk8, haa8⟩ := hv8.open_
 dsimp only at hkk8 haa8
 have hbg8 := hkk8.big; have hcp8 := hkk8.cap; have hbh8 := haa8.big; have hcq8 := haa8.cap
 have hx1 : x8 = shB := zEg hd8 rfl
 have hln9 : x8.kids.length = 2 := by rw [hx1]; rfl
 obtain ⟨p9, vs9, x9, ho9, hd9, hm_x9, ht9, hcv9, hl9, hv9⟩ := hkk8.nth (k := 1) (by omega)
 cases ho9
 obtain ⟨⟨oK9, cK9, oA9, cA9⟩, rfl, ⟨hik9, hin9⟩, hkk9, haa9⟩ := hv9.open_
 dsimp only at hkk9 haa9
 have hbg9 := hkk9.big; have hcp9 := hkk9.cap; have hbh9 := haa9.big; have hcq9 := haa9.cap
 have hx2 : x9 = zCQ (ZS 1) := zEg hd9 (by rw [hx1]; rfl)
 refine rp0 hst3 hfr3 (.cons rfl (zA (off := 0) rfl underlying46 rfl rfl sizeOf3 rfl) <| .cons rfl (zP (j := 0) rfl rfl isAgg3 rfl) <| .cons rfl (zY rfl rfl) <| .cons rfl (zD rfl) <| .cons rfl (zA (off := 1) rfl underlying46 rfl rfl sizeOf9 rfl) <| .cons rfl (zP (j := 0) rfl rfl isAgg9 rfl) <| .cons rfl (z7 rfl rfl) <| .cons rfl (ZP rfl rfl rfl) <| .cons rfl (zD rfl) <| .cons rfl (zA (off := 4) rfl underlying46 rfl rfl sizeOf43 rfl) <| .cons rfl (zP (j := 0) rfl rfl isAgg43 rfl) <| .cons rfl (zX rfl underlying43) <| .cons rfl (zY rfl rfl) <| .cons rfl (ZP rfl rfl rfl) <| .cons rfl (zD rfl) <| .cons rfl (zA (off := 4) rfl underlying46 rfl rfl sizeOf43 rfl) <| .cons rfl (zP (j := 0) rfl rfl isAgg43 rfl) <| .cons rfl (zI (k := 0) rfl rfl underlying43 sizeOf46 rfl (by omega)) <| .cons rfl (zA (off := 0) rfl underlying46 rfl rfl sizeOf3 rfl) <| .cons rfl (zE rfl hcv7 isAgg3 rfl) <| .cons rfl (zY rfl rfl) <| .cons rfl (ZP rfl rfl rfl) <| .cons rfl (zD rfl) <| .cons rfl (zA (off := 4) rfl underlying46 rfl rfl sizeOf43 rfl) <| .cons rfl (zP (j := 0) rfl rfl isAgg43 rfl) <| .cons rfl (zI (k := 1) rfl rfl underlying43 sizeOf46 rfl (by omega)) <| .cons rfl (zA (off := 0) rfl underlying46 rfl rfl sizeOf3 rfl) <| .cons rfl (zE rfl hcv8 isAgg3 rfl) <| .cons rfl (zY rfl rfl) <| .cons rfl (ZP rfl rfl rfl) <| .cons rfl (zD rfl) <| .cons rfl (zA (off := 4) rfl underlying46 rfl rfl sizeOf43 rfl) <| .cons rfl (zP (j := 0) rfl rfl isAgg43 rfl) <| .cons rfl (zI (k := 1) rfl rfl underlying43 sizeOf46 rfl (by omega)) <| .cons rfl (zA (off := 4) rfl underlying46 rfl rfl sizeOf43 rfl) <| .cons rfl (zE rfl hcv8 isAgg43 rfl) <| .cons rfl (zX rfl underlying43) <| .cons rfl (zY rfl rfl) <| .cons rfl (ZP rfl rfl rfl) <| .cons rfl (zD rfl) <| .cons rfl (zA (off := 4) rfl underlying46 rfl rfl sizeOf43 rfl) <| .cons rfl (zP (j := 0) rfl rfl isAgg43 rfl) <| .cons rfl (zI (k := 1) rfl rfl underlying43 sizeOf46 rfl (by omega)) <| .cons rfl (zA (off := 4) rfl underlying46 rfl rfl sizeOf43 rfl) <| .cons rfl (zE rfl hcv8 isAgg43 rfl) <| .cons rfl (zI (k := 1) rfl rfl underlying43 sizeOf46 rfl (by omega)) <| .cons rfl (zA (off := 1) rfl underlying46 rfl rfl sizeOf9 rfl) <| .cons rfl (zE rfl hcv9 isAgg9 rfl) <| .cons rfl (z7 rfl rfl) <| .cons rfl (ZP rfl rfl rfl) <| .cons rfl (zD rfl) <| .cons rfl (ze (j := 0) rfl rfl isAgg46 sizeOf46 rfl) <| .cons rfl (zg rfl (.cons rfl <| .cons rfl <| .nil) call16 (fun w m hK => by have hle_ := KC.le hK; have hA := KC.agree hK; have hyl := hyl.mono hle_; exact lcount_c (cd2 8 (ZS 1) [] shA shB) (k := 6) hA hyl (by decide))) <| .cons rfl (zY rfl rfl) <| .cons rfl (ZP rfl rfl rfl) <| .cons rfl (zC rfl) <| .nil) fun a4 w4 m4 hst4 hle4 hk4 => ?_
 have hfr4 := hk4.fr (.n 0 <| .nil)
 clear hst3 hfr3 hk4
 refine hK6 _ _ ?_
 refine zL ?_
 repeat (with_reducible first | refine zH ?_ | refine zF ?_)
 exact zM hst4 hfr4 rfl (.tmp rfl <| .nil) (by refine congrArg Value.bool ?_; simp [hx0, hx1, hx2, hn1, shA, shB, zCQ]; try decide)
end Go.Proofs.YtmdhhjmomilhjaaDoor
namespace Go.Proofs.YtmdhhjmomilhjaaDoor
set_option linter.all false
set_option maxRecDepth 4000
open Go.RowKit
theorem u8_39 {b : UInt8} : ((b.toNat : Nat) : Int) = 39 ↔ b = 39 := ⟨fun h => UInt8.toNat_inj.1 (by have h2 : (39 : UInt8).toNat = 39 := rfl; omega), fun h => by subst h; rfl⟩
def Z6 (s : Str) : Bool := decide (s.head? = some 39)
mutual
def zAa : Tm → Bool
 | ⟨_, _, s, _, _, ks, az, _⟩ => Z6 s || (zAA ks || zAL az)
def zAA : List Tm → Bool
 | [] => false
 | t :: ts => zAa t || zAA ts
def zAL : List Ar → Bool
 | [] => false
 | ⟨_, _, b⟩ :: ts => zAa b || zAL ts
end
theorem zCz (t : Tm) : zAa t = (Z6 t.name || (zAA t.kids || zAL t.arms)) := by obtain ⟨k, a, s, p, n, ks, az, r⟩ := t; rw [zAa]; rfl
theorem zAr (a : Ar) (ts : List Ar) : zAL (a :: ts) = (zAa a.body || zAL ts) := by obtain ⟨x, v, b⟩ := a; rw [zAL]; rfl
def tlA (a : Ca) : Nat := if a.tail then (if a.vars.length = 1 then 1 else 1000001) else 0
mutual
/-- How many arms are Tail. -/
def tlC : Cd → Nat
 | ⟨_, _, _, _, ks, az⟩ => tlKs ks + tlAs az
def tlKs : List Cd → Nat
 | [] => 0
 | t :: ts => tlC t + tlKs ts
def tlAs : List Ca → Nat
 | [] => 0
 | ⟨s, v, l, b⟩ :: ts => tlC b + tlA ⟨s, v, l, b⟩ + tlAs ts
end
def tkH (t : Cd) : List Str := if (decide (t.kind = 7 ∨ t.kind = 8) && Z6 t.name) = true then [t.name] else []
mutual
/-- The names that are taken. -/
def tkC : Cd → List Str
 | ⟨k, s, p, n, ks, az⟩ => tkH ⟨k, s, p, n, ks, az⟩ ++ (Zx ks ++ zAN az)
def Zx : List Cd → List Str
 | [] => []
 | t :: ts => tkC t ++ Zx ts
def zAN : List Ca → List Str
 | [] => []
 | ⟨_, _, _, b⟩ :: ts => tkC b ++ zAN ts
end
theorem zBz (t : Cd) : tkC t = tkH t ++ (Zx t.kids ++ zAN t.arms) := by obtain ⟨k, s, p, n, ks, az⟩ := t; rw [tkC]; rfl
theorem zBA (a : Ca) (ts : List Ca) : zAN (a :: ts) = tkC a.body ++ zAN ts := by obtain ⟨s, v, l, b⟩ := a; rw [zAN]; rfl
mutual
/-- How many pieces. -/
def szC : Cd → Nat
 | ⟨_, _, _, _, ks, az⟩ => 1 + (zBl ks + zDA az)
def zBl : List Cd → Nat
 | [] => 0
 | t :: ts => szC t + zBl ts
def zDA : List Ca → Nat
 | [] => 0
 | ⟨_, _, _, b⟩ :: ts => szC b + zDA ts
end
theorem zBg (t : Cd) : szC t = 1 + (zBl t.kids + zDA t.arms) := by obtain ⟨k, s, p, n, ks, az⟩ := t; rw [szC]; rfl
theorem zDK (a : Ca) (ts : List Ca) : zDA (a :: ts) = szC a.body + zDA ts := by obtain ⟨s, v, l, b⟩ := a; rw [zDA]; rfl
end Go.Proofs.YtmdhhjmomilhjaaDoor
namespace Go.Proofs.YtmdhhjmomilhjaaDoor
set_option linter.all false
set_option maxRecDepth 4000
open Go.RowKit
theorem low_cases {t : Tm} (h : LwT t) : (t.kind = 7 ∧ (∃ a b, t.kids = [a, b]) ∧ t.arms = []) ∨ (t.kind = 8 ∧ (∃ a b, t.kids = [a, b]) ∧ t.arms = []) ∨ (t.kind = 14 ∧ ∃ a, t.kids = [a]) ∨ (t.kind = 5 ∧ (∃ a, t.kids = [a]) ∧ t.arms = []) ∨
  ((t.kind = 1 ∨ t.kind = 2 ∨ t.kind = 3 ∨ t.kind = 4) ∧ t.kids = [] ∧ t.arms = []) ∨ (t.kind = 12 ∧ ∃ a, t.kids = [a]) ∨ ((t.kind = 0 ∨ t.kind = 6 ∨ t.kind = 9 ∨ t.kind = 10 ∨ t.kind = 11 ∨ t.kind = 13) ∧ t.arms = []) := by
 rcases h.here with ⟨h1, h2⟩ | ⟨h1, h2, h3, h4⟩
 ·have one : (t.kids.length : Int) = 1 → ∃ a, t.kids = [a] := fun h => by
   match t.kids, h with
   | [a], _ => exact ⟨a, rfl⟩
  have two : (t.kids.length : Int) = 2 → ∃ a b, t.kids = [a, b] := fun h => by
   match t.kids, h with
   | [a, b], _ => exact ⟨a, b, rfl⟩
  have nil : (t.kids.length : Int) = 0 → t.kids = [] := fun h => len0.1 h
  unfold Z9 at h1
  repeat' split at h1
  ·exact .inr (.inr (.inr (.inr (.inl ⟨by assumption, nil (by omega), h2 (by omega) (by omega)⟩))))
  ·rename_i hk; rcases hk with hk | hk | hk | hk
   ·exact .inr (.inr (.inr (.inl ⟨hk, one (by omega), h2 (by omega) (by omega)⟩)))
   ·exact .inr (.inr (.inr (.inr (.inr (.inl ⟨hk, one (by omega)⟩)))))
   ·exact .inr (.inr (.inr (.inr (.inr (.inr ⟨by omega, h2 (by omega) (by omega)⟩)))))
   ·exact .inr (.inr (.inl ⟨hk, one (by omega)⟩))
  ·rename_i hk; rcases hk with hk | hk | hk
   ·exact .inr (.inr (.inr (.inr (.inr (.inr ⟨by omega, h2 (by omega) (by omega)⟩)))))
   ·exact .inl ⟨hk, two (by omega), h2 (by omega) (by omega)⟩
   ·exact .inr (.inl ⟨hk, two (by omega), h2 (by omega) (by omega)⟩)
  ·exact .inr (.inr (.inr (.inr (.inr (.inr ⟨by omega, h2 (by omega) (by omega)⟩)))))
  ·exact .inr (.inr (.inr (.inr (.inr (.inr ⟨by omega, h2 (by omega) (by omega)⟩)))))
  ·omega
 ·exact .inr (.inr (.inr (.inr (.inr (.inr ⟨by omega, h4⟩)))))
theorem light_iff {t : Tm} : Zl t = true ↔ 1 ≤ t.kind ∧ t.kind ≤ 5 := by unfold Zl; simp
theorem bindK_two (sel : Bool) (t : Tm) : zAR sel t = 7 ∨ zAR sel t = 8 := by unfold zAR; split <;> simp
-- what is in the rows that are made
theorem takeB_mem {sel : Bool} {g : Gen} : ∀ {l : List Tm} {n : Nat} {b : Bd}, b ∈ Zn sel g l n → ∃ u ∈ l, ∃ m, Zl u = false ∧ b = ⟨zAR sel u, ZS ((g u m).2 + 1), (g u m).1⟩
 | [], _, _, h => by simp [Zn] at h
 | t :: ts, n, b, h => by
  rw [Zn, List.mem_append] at h
  rcases h with h | h
  ·unfold kidB at h
   split at h
   ·cases h
   ·rename_i hl; rw [List.mem_singleton] at h; exact ⟨t, .head _, n, by simpa using hl, h⟩
  ·obtain ⟨u, hu, m, h1⟩ := takeB_mem h; exact ⟨u, .tail _ hu, m, h1⟩
theorem zDV {t a : Tm} {r : List Tm} (h : t.kids = a :: r) : kid t 0 = a := by unfold kid; rw [h]; rfl
theorem kid_1 {t a b : Tm} {r : List Tm} (h : t.kids = a :: b :: r) : kid t 1 = b := by unfold kid; rw [h]; rfl
theorem body_core {sel tl : Bool} {g : Gen} {t : Tm} {n : Nat} (hk : t.kind = 0 ∨ t.kind = 6 ∨ t.kind = 9 ∨ t.kind = 10 ∨ t.kind = 11 ∨ t.kind = 12 ∨ t.kind = 13) : ZW sel tl g t n = (ZT (Zn sel g (t.kids.take (zq t)) n) (zBq g t n), zDI g t.arms (zCU g t n)) :=
 bodyC (by omega) (by omega) (by omega) (by omega) (fun h => by rw [light_iff] at h; omega)
theorem zEA {sel tl : Bool} {g : Gen} {t : Tm} {n : Nat} (hk : t.kind = 1 ∨ t.kind = 2 ∨ t.kind = 3 ∨ t.kind = 4) : ZW sel tl g t n = (⟨t.kind, if t.kind = 1 then t.name else [], [], if t.kind = 2 ∨ t.kind = 3 then t.n else 0, [], []⟩, n) :=
 bodyA (by omega) (by omega) (by omega) (by omega) (by rw [light_iff]; omega)
-- how large
theorem around_sz : ∀ (bl : List Bd) (c : Cd), szC (ZT bl c) = bl.length + (bl.map fun b => szC b.code).sum + szC c
 | [], c => by simp [ZT]
 | b :: bl, c => by
  rw [ZT, zBg]
  show 1 + (szC b.code + (szC (ZT bl c) + 0) + 0) = _
  rw [around_sz bl c]; simp; omega
theorem take_sz {sel : Bool} {g : Gen} : ∀ (l : List Tm) (n : Nat), (∀ u ∈ l, ∀ n, szC (g u n).1 + 2 ≤ 3 * zO u) → (Zn sel g l n).length + ((Zn sel g l n).map fun b => szC b.code).sum + zBl (Zc g l n) ≤ 3 * zQ l
 | [], n, _ => by simp [Zn, Zc, zBl, zQ]
 | t :: ts, n, h => by
  have ih := take_sz (sel := sel) ts (zBG g t n) fun u hu => h u (.tail _ hu)
  have ht := h t (.head _) n
  rw [Zn, Zc, zBl, zQ, List.length_append, List.map_append, List.sum_append]
  unfold kidB kidA
  split
  ·simp; omega
  ·have : szC (zCQ (ZS ((g t n).2 + 1))) = 1 := by rw [zBg]; rfl
   rw [this]; simp; omega
theorem seq_sz {g : Gen} : ∀ (l : List Tm) (n : Nat), (∀ u ∈ l, ∀ n, szC (g u n).1 + 2 ≤ 3 * zO u) → zBl (zDD g l n) ≤ 3 * zQ l
 | [], n, _ => by simp [zDD, zBl, zQ]
 | t :: ts, n, h => by
  have ih := seq_sz ts (g t n).2 fun u hu => h u (.tail _ hu)
  have ht := h t (.head _) n
  rw [zDD, zBl, zQ]; omega
theorem arm_sz {g : Gen} : ∀ (l : List Ar) (n : Nat), (∀ a ∈ l, ∀ n, szC (g a.body n).1 + 2 ≤ 3 * zO a.body) → zDA (zDh g l n) ≤ 3 * zn l
 | [], n, _ => by simp [zDh, zDA, zn]
 | t :: ts, n, h => by
  have ih := arm_sz ts (g t.body n).2 fun u hu => h u (.tail _ hu)
  have ht := h t (.head _) n
  rw [zDh, zDK, zv]; show szC (g t.body n).1 + _ ≤ _; omega
theorem pro_sz {tl : Bool} {g : Gen} : ∀ (l : List Ar) (i n : Nat), (∀ a ∈ l, ∀ i n, szC (g (Zv tl i a) n).1 + 2 ≤ 3 * zO a.body) → zDA (zCd tl g i l n) ≤ 3 * zn l
 | [], i, n, _ => by simp [zCd, zDA, zn]
 | t :: ts, i, n, h => by
  have ih := pro_sz ts (i + 1) (g (Zv tl i t) n).2 fun u hu => h u (.tail _ hu)
  have ht := h t (.head _) i n
  rw [zCd, zDK, zv]; show szC (g (Zv tl i t) n).1 + _ ≤ _; omega
theorem low_sz (sel tl : Bool) : ∀ (f : Nat) (t : Tm) (n : Nat), LwT t → zO t ≤ f → szC (zT sel tl f t n).1 + 2 ≤ 3 * zO t
 | 0, t, n, _, hc => by have := zr t; omega
 | f + 1, t, n, hl, hc => by
  have hce := zr t
  have hks : ∀ u ∈ t.kids, ∀ n, szC (zT sel tl f u n).1 + 2 ≤ 3 * zO u := fun u hu n => low_sz sel tl f u n (hl.kid hu) (by have := ZF hu; omega)
  have has : ∀ a ∈ t.arms, ∀ n, szC (zT sel tl f a.body n).1 + 2 ≤ 3 * zO a.body := fun a ha n => low_sz sel tl f a.body n (hl.arm ha) (by have := Zg ha; omega)
  have hps : ∀ a ∈ t.arms, ∀ i n, szC (zT sel tl f (Zv tl i a) n).1 + 2 ≤ 3 * zO a.body := fun a ha i n => by
   have h1 := zDu (tl := tl) (i := i) (hl.arm ha)
   have h2 := low_sz sel tl f (Zv tl i a) n h1.1 (by have := Zg ha; omega)
   omega
  rw [show zT sel tl (f + 1) t n = ZW sel tl (zT sel tl f) t n from rfl]
  generalize zT sel tl f = g at hks has hps
  rcases low_cases hl with ⟨hk, ⟨a, b, e⟩, e2⟩ | ⟨hk, ⟨a, b, e⟩, e2⟩ | ⟨hk, a, e⟩ | ⟨hk, ⟨a, e⟩, e2⟩ | ⟨hk, e, e2⟩ | hc
  ·rw [body7 hk, zDV e, kid_1 e, zBg]; rw [e] at hce hks
   have h1 := hks a (.head _) n; have h2 := hks b (.tail _ (.head _)) (g a n).2
   show 1 + (szC (g a n).1 + (szC (g b (g a n).2).1 + 0) + 0) + 2 ≤ _
   simp only [zQ] at hce; omega
  ·rw [body8 hk, zDV e, kid_1 e, zBg]; rw [e] at hce hks
   have h1 := hks a (.head _) n; have h2 := hks b (.tail _ (.head _)) (g a n).2
   show 1 + (szC (g a n).1 + (szC (g b (g a n).2).1 + 0) + 0) + 2 ≤ _
   simp only [zQ] at hce; omega
  ·rw [zDQ hk, zDV e, zBg]; rw [e] at hce hks
   have h1 := hks a (.head _) n; have h2 := pro_sz t.arms 0 (g a n).2 hps
   show 1 + ((szC (g a n).1 + 0) + zDA (zCd tl g 0 t.arms (g a n).2)) + 2 ≤ _
   simp only [zQ] at hce; omega
  ·rw [body5 hk, zDV e, zBg]; rw [e] at hce hks
   have h1 := hks a (.head _) n
   show 1 + ((szC (g a n).1 + 0) + 0) + 2 ≤ _
   simp only [zQ] at hce; omega
  ·rw [zEA hk, zBg]; show 1 + (0 + 0) + 2 ≤ _; omega
  ·rw [body_core (by rcases hc with ⟨h, _⟩ | ⟨h, _⟩ <;> omega)]
   dsimp only
   rw [around_sz, zBg]
   have h1 := take_sz (sel := sel) (t.kids.take (zq t)) n fun u hu => hks u (List.mem_of_mem_take hu)
   have h2 := seq_sz (t.kids.drop (zq t)) (Z3 g (t.kids.take (zq t)) n) fun u hu => hks u (List.mem_of_mem_drop hu)
   have h3 := arm_sz t.arms (zCU g t n) has
   have h4 := zAk t.kids (zq t)
   have h5 : ∀ (l k : List Cd), zBl (l ++ k) = zBl l + zBl k := fun l k => by
    induction l with
    | nil => simp [zBl]
    | cons x l ih => simp only [List.cons_append, zBl, ih]; omega
   have h6 : zBl (zBq g t n).kids = zBl (Zc g (t.kids.take (zq t)) n) + zBl (zDD g (t.kids.drop (zq t)) (Z3 g (t.kids.take (zq t)) n)) := h5 _ _
   have h7 : zDA (zBq g t n).arms = zDA (zDh g t.arms (zCU g t n)) := rfl
   omega
-- what is counted
end Go.Proofs.YtmdhhjmomilhjaaDoor
namespace Go.Proofs.YtmdhhjmomilhjaaDoor
open Go.Proofs.Tryd
set_option linter.all false
set_option maxRecDepth 4000
open Go.RowKit
abbrev bare_G (t : Tm) : Prop := ∀ {w : World} {m : Mem} {vs_t : List Value} (hA : Agree w m) (h_t : TmR m t vs_t), FnV Tryd.prog 26 #[.agg vs_t.toArray] w m (fun _ _ v => v = .bool (zAa t))
set_option maxHeartbeats 800000 in
theorem bare_s {t : Tm} (ihk : ∀ u ∈ t.kids, bare_G u) (iha : ∀ a ∈ t.arms, bare_G a.body) {w : World} {m : Mem} {vs_t : List Value} (hA : Agree w m) (h_t : TmR m t vs_t) : FnV Tryd.prog 26 #[.agg vs_t.toArray] w m (fun _ _ v => v = .bool (zAa t)) := by
 obtain ⟨⟨oK_t, cK_t, oA_t, cA_t, oR_t, cR_t, t0_t, t1_t, t2_t, t3_t, t4_t, t5_t, u0_t, u1_t, u2_t, u3_t, u4_t, u5_t⟩, rfl, hon_t, hkk_t, haa_t, hrr_t⟩ := h_t.open_
 dsimp only at hkk_t haa_t hrr_t
 have hbg_t := hkk_t.big; have hcp_t := hkk_t.cap; have hbh_t := haa_t.big; have hcq_t := haa_t.cap
 refine zW (vs := [_]) func26 rfl rfl rfl fun a0 hfr0 => ?_
 have hst0 := zV hA (zj [] _ w m)
 have hM : MLe m m := MLe.refl m
 have hce := zCz t
 refine zB fun _ hK1 => ?_
 refine rp0 hst0 hfr0 (.cons rfl (zx rfl rfl) <| .cons rfl (zC rfl) <| .nil) fun a1 w1 m1 hst1 hle1 hk1 => ?_
 have hfr1 := hk1.fr (.nil)
 obtain ⟨g2, e2, hc1⟩ := hk1.ex 1 rfl
 replace hfr1 := hfr1.cons e2
 replace h_t := h_t.mono hle1
 replace hkk_t := hkk_t.mono hle1
 replace haa_t := haa_t.mono hle1
 replace hrr_t := hrr_t.mono hle1
 clear hst0 hfr0 hk1
 refine hK1 _ _ ?_
 refine zB fun _ hK3 => ?_
 refine zB fun _ hK4 => ?_
 rcases hnm : t.name with _ | ⟨c9, r9⟩
 ·skip
  refine rp0 hst1 hfr1 (.cons rfl (zA (off := 2) rfl underlying33 rfl rfl sizeOf9 rfl) <| .cons rfl (zE rfl hc1 isAgg9 rfl) <| .cons rfl (Z4 rfl rfl) <| .cons rfl (zD rfl) <| .cons rfl (zu (κ := .eq (.bool false)) (b := true) 10 rfl rfl (fun h => by first | (simp at h; done) | (simp [hnm] at h; done) | (simp_all; done))) <| .cons rfl (zu (κ := .eq (.bool false)) (b := true) 10 rfl rfl (fun h => by first | (simp at h; done) | (simp [hnm] at h; done) | (simp_all; done))) <| .cons rfl (zu (κ := .eq (.bool false)) (b := true) 10 rfl rfl (fun h => by first | (simp at h; done) | (simp [hnm] at h; done) | (simp_all; done))) <| .cons rfl (zu (κ := .eq (.bool false)) (b := true) 10 rfl rfl (fun h => by first | (simp at h; done) | (simp [hnm] at h; done) | (simp_all; done))) <| .cons rfl (ZP rfl rfl rfl) <| .nil) fun a2 w2 m2 hst2 hle2 hk2 => ?_
  have hfr2 := hk2.fr (.o 1 <| .n 15 <| .nil)
  clear hst1 hfr1 hk2
  have hbh9 : Z6 t.name = false := by unfold Z6; rw [hnm]; rfl
  refine hK4 _ _ ?_
  refine zG hfr2 rfl rfl (fun hb15 => ?_) (fun hb15 => ?_)
  ·exfalso; simp [hnm] at hb15
  ·try simp only [nqs] at hb15
   refine zJ ?_
   refine hK3 _ _ ?_
   refine zB fun _ hK5 => ?_
   refine zB fun _ hK6 => ?_
   refine rp0 hst2 hfr2 (.cons rfl (zC rfl) <| .nil) fun a3 w3 m3 hst3 hle3 hk3 => ?_
   have hfr3 := hk3.fr (.o 1 <| .n 3 <| .nil)
   clear hst2 hfr2 hk3
   refine hK6 _ _ ?_
   refine zK ?_
   refine zZ (T := [(1, _)]) (fun (y : Nat) => ([(3, .int .i64 (y : Int))] : List (Nat × Value))) (fun _ => _) (fun (y : Nat) m => (y ≤ t.kids.length) ∧ (zAA t.kids = zAA (t.kids.drop y))) (fun y => t.kids.length - y) (0) ⟨hst3, MLe.refl _, hfr3.sub (.c <| .c <| .nil), ⟨Nat.zero_le _, rfl⟩⟩ fun y a4 w4 m4 hh4 => ?_
   have hst4 := hh4.st; have hle4 := hh4.le; have hfr4 := hh4.fr; have hrel := hh4.rel; clear hh4
   clear hst3 hfr3
   obtain ⟨hyn, hj⟩ := hrel
   have hlh4 := hle4
   refine zB fun _ hK8 => ?_
   refine zB fun _ hK9 => ?_
   have zq1 := hle3.trans hle4
   have zq2 := hle2.trans zq1
   replace hc1 := hc1.mono zq2
   refine rp0 hst4 hfr4 (.cons rfl (zD rfl) <| .cons rfl (zA (off := 5) rfl underlying33 rfl rfl sizeOf24 rfl) <| .cons rfl (zE rfl hc1 isAgg24 rfl) <| .cons rfl (zX rfl underlying24) <| .cons rfl (zt rfl rfl) <| .nil) fun a5 w5 m5 hst5 hle5 hk5 => ?_
   have hfr5 := hk5.fr (.o 3 <| .o 1 <| .n 20 <| .nil)
   clear hst4 hfr4 hk5
   refine hK9 _ _ ?_
   refine zG hfr5 rfl rfl (fun hb20 => ?_) (fun hb20 => ?_)
   ·try simp only [nqs] at hb20
    refine zJ ?_
    refine hK8 _ _ ?_
    refine zB fun _ hK10 => ?_
    refine zK ?_
    refine zB fun _ hK11 => ?_
    have zq3 := zq2.trans hle5
    replace hkk_t := hkk_t.mono zq3
    obtain ⟨p12, vs12, x12, ho12, hd12, hm_x12, ht12, hcv12, hl12, hv12⟩ := hkk_t.nth (k := y) (by omega)
    cases ho12
    obtain ⟨⟨oK12, cK12, oA12, cA12, oR12, cR12, t012, t112, t212, t312, t412, t512, u012, u112, u212, u312, u412, u512⟩, rfl, hon12, hkk12, haa12, hrr12⟩ := hv12.open_
    dsimp only at hkk12 haa12 hrr12
    have hbg12 := hkk12.big; have hcp12 := hkk12.cap; have hbh12 := haa12.big; have hcq12 := haa12.cap
    replace h_t := h_t.mono zq3
    replace haa_t := haa_t.mono zq3
    replace hrr_t := hrr_t.mono zq3
    replace hc1 := hc1.mono hle5
    refine rp0 hst5 hfr5 (.cons rfl (zA (off := 5) rfl underlying33 rfl rfl sizeOf24 rfl) <| .cons rfl (zE rfl hc1 isAgg24 rfl) <| .cons rfl (zD rfl) <| .cons rfl (zI (k := y) rfl rfl underlying24 sizeOf33 rfl (by omega)) <| .cons rfl (zN rfl hcv12 isAgg33 sizeOf33 rfl rfl) <| .cons rfl (zg rfl (.cons rfl <| .nil) call26 (fun w m hK => by have hle_ := KC.le hK; have hA := KC.agree hK; have h_t := h_t.mono hle_; have hkk_t := hkk_t.mono hle_; have haa_t := haa_t.mono hle_; have hrr_t := hrr_t.mono hle_; have hc1 := hc1.mono hle_; have hcv12 := hcv12.mono hle_; have hv12 := hv12.mono hle_; have hkk12 := hkk12.mono hle_; have haa12 := haa12.mono hle_; have hrr12 := hrr12.mono hle_; exact ihk _ (by assumption) hA hv12)) <| .cons rfl (zC rfl) <| .nil) fun a6 w6 m6 hst6 hle6 hk6 => ?_
    have hfr6 := hk6.fr (.o 3 <| .o 1 <| .n 4 <| .nil)
    clear hst5 hfr5 hk6
    refine hK11 _ _ ?_
    refine zB fun _ hK13 => ?_
    refine rp0 hst6 hfr6 (.cons rfl (zD rfl) <| .nil) fun a7 w7 m7 hst7 hle7 hk7 => ?_
    have hfr7 := hk7.fr (.o 3 <| .o 1 <| .n 29 <| .nil)
    clear hst6 hfr6 hk7
    refine hK13 _ _ ?_
    refine zG hfr7 rfl rfl (fun hb29 => ?_) (fun hb29 => ?_)
    ·try simp only [nqs] at hb29
     have hbad : zAA t.kids = true := by rw [hj, hd12, zAA, hb29]; rfl
     refine zB fun _ hK14 => ?_
     refine rp0 hst7 hfr7 (.cons rfl (zC rfl) <| .nil) fun a8 w8 m8 hst8 hle8 hk8 => ?_
     have hfr8 := hk8.fr (.o 3 <| .n 2 <| .nil)
     clear hst7 hfr7 hk8
     refine hK14 _ _ ?_
     refine zL ?_
     repeat (with_reducible first | refine zH ?_ | refine zF ?_)
     exact zM hst8 hfr8 rfl (.tmp rfl <| .nil) (by refine congrArg Value.bool ?_; rw [hce, hbh9, hbad]; rfl)
    ·try simp only [nqs] at hb29
     refine zJ ?_
     refine hK10 _ _ ?_
     refine rp0 hst7 hfr7 (.cons rfl (zD rfl) <| .cons rfl (zh rfl rfl ⟨by omega, by omega⟩) <| .cons rfl (zC rfl) <| .nil) fun a8 w8 m8 hst8 hle8 hk8 => ?_
     have hfr8 := hk8.fr (.o 1 <| .n 3 <| .nil)
     clear hst7 hfr7 hk8
     have zq4 := hle7.trans hle8
     have zq5 := hle6.trans zq4
     have zq6 := hle5.trans zq5
     have hlh8 := hlh4.trans zq6
     exact ⟨y + 1, m8, by show t.kids.length - (y + 1) < t.kids.length - y; omega, ⟨hst8, hlh8, hfr8.sub (.c <| .c <| .nil), ⟨by show y + 1 ≤ t.kids.length; omega, by rw [hj, hd12, zAA, hb29]; rfl⟩⟩⟩
   ·try simp only [nqs] at hb20
    have hge : y = t.kids.length := by omega
    rw [List.drop_of_length_le (by omega), zAA] at hj
    refine zb ?_
    refine hK5 _ _ ?_
    refine zB fun _ hK16 => ?_
    refine zB fun _ hK17 => ?_
    refine rp0 hst5 hfr5 (.cons rfl (zC rfl) <| .nil) fun a6 w6 m6 hst6 hle6 hk6 => ?_
    have hfr6 := hk6.fr (.o 3 <| .o 1 <| .n 5 <| .nil)
    clear hst5 hfr5 hk6
    refine hK17 _ _ ?_
    refine zK ?_
    have zq7 := hle5.trans hle6
    have hlh6 := hlh4.trans zq7
    have hlq18 := hlh6
    refine zZ (T := [(3, _), (1, _)]) (fun (y : Nat) => ([(5, .int .i64 (y : Int))] : List (Nat × Value))) (fun _ => _) (fun (y : Nat) m => (y ≤ t.arms.length) ∧ (zAL t.arms = zAL (t.arms.drop y))) (fun y => t.arms.length - y) (0) ⟨hst6, MLe.refl _, hfr6.sub (.c <| .c <| .c <| .nil), ⟨Nat.zero_le _, rfl⟩⟩ fun y a7 w7 m7 hh7 => ?_
    have hst7 := hh7.st; have hle7 := hh7.le; have hfr7 := hh7.fr; have hrel := hh7.rel; clear hh7
    clear hst6 hfr6
    obtain ⟨hyn, hj2⟩ := hrel
    have hlh7 := hle7
    refine zB fun _ hK19 => ?_
    refine zB fun _ hK20 => ?_
    have zq8 := zq7.trans hle7
    replace hc1 := hc1.mono zq8
    refine rp0 hst7 hfr7 (.cons rfl (zD rfl) <| .cons rfl (zA (off := 6) rfl underlying33 rfl rfl sizeOf25 rfl) <| .cons rfl (zE rfl hc1 isAgg25 rfl) <| .cons rfl (zX rfl underlying25) <| .cons rfl (zt rfl rfl) <| .nil) fun a8 w8 m8 hst8 hle8 hk8 => ?_
    have hfr8 := hk8.fr (.o 5 <| .o 3 <| .o 1 <| .n 34 <| .nil)
    clear hst7 hfr7 hk8
    refine hK20 _ _ ?_
    refine zG hfr8 rfl rfl (fun hb34 => ?_) (fun hb34 => ?_)
    ·try simp only [nqs] at hb34
     refine zJ ?_
     refine hK19 _ _ ?_
     refine zB fun _ hK21 => ?_
     refine zK ?_
     refine zB fun _ hK22 => ?_
     have zq9 := zq8.trans hle8
     have zq10 := zq2.trans zq9
     replace haa_t := haa_t.mono zq10
     obtain ⟨p23, vs23, x23, ho23, hd23, hm_x23, ht23, hcv23, hl23, hv23⟩ := haa_t.nth (k := y) (by omega)
     cases ho23
     obtain ⟨oV23, cV23, bs23, rfl, hva23, hbd23⟩ := hv23.open_
     have hbv23 := hva23.big; have hcv23_ := hva23.cap
     obtain ⟨⟨oK23b, cK23b, oA23b, cA23b, oR23b, cR23b, t023b, t123b, t223b, t323b, t423b, t523b, u023b, u123b, u223b, u323b, u423b, u523b⟩, rfl, hon23b, hkk23b, haa23b, hrr23b⟩ := hbd23.open_
     dsimp only at hkk23b haa23b hrr23b
     have hbg23b := hkk23b.big; have hcp23b := hkk23b.cap; have hbh23b := haa23b.big; have hcq23b := haa23b.cap
     replace h_t := h_t.mono zq10
     replace hkk_t := hkk_t.mono zq10
     replace hrr_t := hrr_t.mono zq10
     replace hc1 := hc1.mono hle8
     refine rp0 hst8 hfr8 (.cons rfl (zA (off := 6) rfl underlying33 rfl rfl sizeOf25 rfl) <| .cons rfl (zE rfl hc1 isAgg25 rfl) <| .cons rfl (zD rfl) <| .cons rfl (zI (k := y) rfl rfl underlying25 sizeOf72 rfl (by omega)) <| .cons rfl (zA (off := 2) rfl underlying72 rfl rfl sizeOf33 rfl) <| .cons rfl (ZU rfl hcv23 isAgg33 sizeOf33 rfl rfl) <| .cons rfl (zg rfl (.cons rfl <| .nil) call26 (fun w m hK => by have hle_ := KC.le hK; have hA := KC.agree hK; have h_t := h_t.mono hle_; have hkk_t := hkk_t.mono hle_; have haa_t := haa_t.mono hle_; have hrr_t := hrr_t.mono hle_; have hc1 := hc1.mono hle_; have hcv23 := hcv23.mono hle_; have hv23 := hv23.mono hle_; have hva23 := hva23.mono hle_; have hbd23 := hbd23.mono hle_; have hkk23b := hkk23b.mono hle_; have haa23b := haa23b.mono hle_; have hrr23b := hrr23b.mono hle_; exact iha _ (by assumption) hA hbd23)) <| .cons rfl (zC rfl) <| .nil) fun a9 w9 m9 hst9 hle9 hk9 => ?_
     have hfr9 := hk9.fr (.o 5 <| .o 3 <| .o 1 <| .n 6 <| .nil)
     clear hst8 hfr8 hk9
     refine hK22 _ _ ?_
     refine zB fun _ hK24 => ?_
     refine rp0 hst9 hfr9 (.cons rfl (zD rfl) <| .nil) fun a10 w10 m10 hst10 hle10 hk10 => ?_
     have hfr10 := hk10.fr (.o 5 <| .o 3 <| .o 1 <| .n 44 <| .nil)
     clear hst9 hfr9 hk10
     refine hK24 _ _ ?_
     refine zG hfr10 rfl rfl (fun hb44 => ?_) (fun hb44 => ?_)
     ·try simp only [nqs] at hb44
      have hbad2 : zAL t.arms = true := by rw [hj2, hd23, zAr, hb44]; rfl
      refine zB fun _ hK25 => ?_
      refine rp0 hst10 hfr10 (.cons rfl (zC rfl) <| .nil) fun a11 w11 m11 hst11 hle11 hk11 => ?_
      have hfr11 := hk11.fr (.o 5 <| .o 3 <| .n 2 <| .nil)
      clear hst10 hfr10 hk11
      refine hK25 _ _ ?_
      refine zL ?_
      repeat (with_reducible first | refine zH ?_ | refine zF ?_)
      exact zM hst11 hfr11 rfl (.tmp rfl <| .nil) (by refine congrArg Value.bool ?_; rw [hce, hbh9, hj, hbad2]; rfl)
     ·try simp only [nqs] at hb44
      refine zJ ?_
      refine hK21 _ _ ?_
      refine rp0 hst10 hfr10 (.cons rfl (zD rfl) <| .cons rfl (zh rfl rfl ⟨by omega, by omega⟩) <| .cons rfl (zC rfl) <| .nil) fun a11 w11 m11 hst11 hle11 hk11 => ?_
      have hfr11 := hk11.fr (.o 3 <| .o 1 <| .n 5 <| .nil)
      clear hst10 hfr10 hk11
      have zq11 := hle10.trans hle11
      have zq12 := hle9.trans zq11
      have zq13 := hle8.trans zq12
      have hlh11 := hlh7.trans zq13
      exact ⟨y + 1, m11, by show t.arms.length - (y + 1) < t.arms.length - y; omega, ⟨hst11, hlh11, hfr11.sub (.c <| .c <| .c <| .nil), ⟨by show y + 1 ≤ t.arms.length; omega, by rw [hj2, hd23, zAr, hb44]; rfl⟩⟩⟩
    ·try simp only [nqs] at hb34
     have hge : y = t.arms.length := by omega
     rw [List.drop_of_length_le (by omega), zAL] at hj2
     refine zb ?_
     refine hK16 _ _ ?_
     refine zB fun _ hK27 => ?_
     refine rp0 hst8 hfr8 (.cons rfl (zC rfl) <| .nil) fun a9 w9 m9 hst9 hle9 hk9 => ?_
     have hfr9 := hk9.fr (.o 5 <| .o 3 <| .n 2 <| .nil)
     clear hst8 hfr8 hk9
     refine hK27 _ _ ?_
     refine zL ?_
     repeat (with_reducible first | refine zH ?_ | refine zF ?_)
     exact zM hst9 hfr9 rfl (.tmp rfl <| .nil) (by refine congrArg Value.bool ?_; rw [hce, hbh9, hj, hj2]; rfl)
 ·skip
  have hls9 : 0 < t.name.length := by rw [hnm]; simp
  obtain ⟨b29, hb_29, hd29⟩ := nth_str (s := t.name) (k := 0) (by omega)
  clear hd29
  refine rp0 hst1 hfr1 (.cons rfl (zA (off := 2) rfl underlying33 rfl rfl sizeOf9 rfl) <| .cons rfl (zE rfl hc1 isAgg9 rfl) <| .cons rfl (Z4 rfl rfl) <| .cons rfl (zD rfl) <| .cons rfl (zA (off := 2) rfl underlying33 rfl rfl sizeOf9 rfl) <| .cons rfl (zE rfl hc1 isAgg9 rfl) <| .cons rfl (ob_sindex (k := 0) (b := _) rfl rfl underlying9 rfl hb_29) <| .cons rfl (zY rfl rfl) <| .cons rfl (ZP rfl rfl rfl) <| .nil) fun a2 w2 m2 hst2 hle2 hk2 => ?_
  have hfr2 := hk2.fr (.o 1 <| .n 15 <| .nil)
  clear hst1 hfr1 hk2
  refine hK4 _ _ ?_
  refine zG hfr2 rfl rfl (fun hb15 => ?_) (fun hb15 => ?_)
  ·try simp only [nqs] at hb15
   have hbh9 : Z6 t.name = true := by unfold Z6; simp_all [u8_39]
   refine zB fun _ hK30 => ?_
   refine rp0 hst2 hfr2 (.cons rfl (zC rfl) <| .nil) fun a3 w3 m3 hst3 hle3 hk3 => ?_
   have hfr3 := hk3.fr (.n 2 <| .nil)
   clear hst2 hfr2 hk3
   refine hK30 _ _ ?_
   refine zL ?_
   repeat (with_reducible first | refine zH ?_ | refine zF ?_)
   exact zM hst3 hfr3 rfl (.tmp rfl <| .nil) (by refine congrArg Value.bool ?_; rw [hce, hbh9]; rfl)
  ·try simp only [nqs] at hb15
   have hbh9 : Z6 t.name = false := by unfold Z6; simp_all [u8_39]
   refine zJ ?_
   refine hK3 _ _ ?_
   refine zB fun _ hK32 => ?_
   refine zB fun _ hK33 => ?_
   refine rp0 hst2 hfr2 (.cons rfl (zC rfl) <| .nil) fun a3 w3 m3 hst3 hle3 hk3 => ?_
   have hfr3 := hk3.fr (.o 1 <| .n 3 <| .nil)
   clear hst2 hfr2 hk3
   refine hK33 _ _ ?_
   refine zK ?_
   refine zZ (T := [(1, _)]) (fun (y : Nat) => ([(3, .int .i64 (y : Int))] : List (Nat × Value))) (fun _ => _) (fun (y : Nat) m => (y ≤ t.kids.length) ∧ (zAA t.kids = zAA (t.kids.drop y))) (fun y => t.kids.length - y) (0) ⟨hst3, MLe.refl _, hfr3.sub (.c <| .c <| .nil), ⟨Nat.zero_le _, rfl⟩⟩ fun y a4 w4 m4 hh4 => ?_
   have hst4 := hh4.st; have hle4 := hh4.le; have hfr4 := hh4.fr; have hrel := hh4.rel; clear hh4
   clear hst3 hfr3
   obtain ⟨hyn, hj⟩ := hrel
   have hlh4 := hle4
   refine zB fun _ hK35 => ?_
   refine zB fun _ hK36 => ?_
   have zq14 := hle3.trans hle4
   have zq15 := hle2.trans zq14
   replace hc1 := hc1.mono zq15
   refine rp0 hst4 hfr4 (.cons rfl (zD rfl) <| .cons rfl (zA (off := 5) rfl underlying33 rfl rfl sizeOf24 rfl) <| .cons rfl (zE rfl hc1 isAgg24 rfl) <| .cons rfl (zX rfl underlying24) <| .cons rfl (zt rfl rfl) <| .nil) fun a5 w5 m5 hst5 hle5 hk5 => ?_
   have hfr5 := hk5.fr (.o 3 <| .o 1 <| .n 20 <| .nil)
   clear hst4 hfr4 hk5
   refine hK36 _ _ ?_
   refine zG hfr5 rfl rfl (fun hb20 => ?_) (fun hb20 => ?_)
   ·try simp only [nqs] at hb20
    refine zJ ?_
    refine hK35 _ _ ?_
    refine zB fun _ hK37 => ?_
    refine zK ?_
    refine zB fun _ hK38 => ?_
    have zq16 := zq15.trans hle5
    replace hkk_t := hkk_t.mono zq16
    obtain ⟨p39, vs39, x39, ho39, hd39, hm_x39, ht39, hcv39, hl39, hv39⟩ := hkk_t.nth (k := y) (by omega)
    cases ho39
    obtain ⟨⟨oK39, cK39, oA39, cA39, oR39, cR39, t039, t139, t239, t339, t439, t539, u039, u139, u239, u339, u439, u539⟩, rfl, hon39, hkk39, haa39, hrr39⟩ := hv39.open_
    dsimp only at hkk39 haa39 hrr39
    have hbg39 := hkk39.big; have hcp39 := hkk39.cap; have hbh39 := haa39.big; have hcq39 := haa39.cap
    replace h_t := h_t.mono zq16
    replace haa_t := haa_t.mono zq16
    replace hrr_t := hrr_t.mono zq16
    replace hc1 := hc1.mono hle5
    refine rp0 hst5 hfr5 (.cons rfl (zA (off := 5) rfl underlying33 rfl rfl sizeOf24 rfl) <| .cons rfl (zE rfl hc1 isAgg24 rfl) <| .cons rfl (zD rfl) <| .cons rfl (zI (k := y) rfl rfl underlying24 sizeOf33 rfl (by omega)) <| .cons rfl (zN rfl hcv39 isAgg33 sizeOf33 rfl rfl) <| .cons rfl (zg rfl (.cons rfl <| .nil) call26 (fun w m hK => by have hle_ := KC.le hK; have hA := KC.agree hK; have h_t := h_t.mono hle_; have hkk_t := hkk_t.mono hle_; have haa_t := haa_t.mono hle_; have hrr_t := hrr_t.mono hle_; have hc1 := hc1.mono hle_; have hcv39 := hcv39.mono hle_; have hv39 := hv39.mono hle_; have hkk39 := hkk39.mono hle_; have haa39 := haa39.mono hle_; have hrr39 := hrr39.mono hle_; exact ihk _ (by assumption) hA hv39)) <| .cons rfl (zC rfl) <| .nil) fun a6 w6 m6 hst6 hle6 hk6 => ?_
    have hfr6 := hk6.fr (.o 3 <| .o 1 <| .n 4 <| .nil)
    clear hst5 hfr5 hk6
    refine hK38 _ _ ?_
    refine zB fun _ hK40 => ?_
    refine rp0 hst6 hfr6 (.cons rfl (zD rfl) <| .nil) fun a7 w7 m7 hst7 hle7 hk7 => ?_
    have hfr7 := hk7.fr (.o 3 <| .o 1 <| .n 29 <| .nil)
    clear hst6 hfr6 hk7
    refine hK40 _ _ ?_
    refine zG hfr7 rfl rfl (fun hb29 => ?_) (fun hb29 => ?_)
    ·try simp only [nqs] at hb29
     have hbad : zAA t.kids = true := by rw [hj, hd39, zAA, hb29]; rfl
     refine zB fun _ hK41 => ?_
     refine rp0 hst7 hfr7 (.cons rfl (zC rfl) <| .nil) fun a8 w8 m8 hst8 hle8 hk8 => ?_
     have hfr8 := hk8.fr (.o 3 <| .n 2 <| .nil)
     clear hst7 hfr7 hk8
     refine hK41 _ _ ?_
     refine zL ?_
     repeat (with_reducible first | refine zH ?_ | refine zF ?_)
     exact zM hst8 hfr8 rfl (.tmp rfl <| .nil) (by refine congrArg Value.bool ?_; rw [hce, hbh9, hbad]; rfl)
    ·try simp only [nqs] at hb29
     refine zJ ?_
     refine hK37 _ _ ?_
     refine rp0 hst7 hfr7 (.cons rfl (zD rfl) <| .cons rfl (zh rfl rfl ⟨by omega, by omega⟩) <| .cons rfl (zC rfl) <| .nil) fun a8 w8 m8 hst8 hle8 hk8 => ?_
     have hfr8 := hk8.fr (.o 1 <| .n 3 <| .nil)
     clear hst7 hfr7 hk8
     have zq17 := hle7.trans hle8
     have zq18 := hle6.trans zq17
     have zq19 := hle5.trans zq18
     have hlh8 := hlh4.trans zq19
     exact ⟨y + 1, m8, by show t.kids.length - (y + 1) < t.kids.length - y; omega, ⟨hst8, hlh8, hfr8.sub (.c <| .c <| .nil), ⟨by show y + 1 ≤ t.kids.length; omega, by rw [hj, hd39, zAA, hb29]; rfl⟩⟩⟩
   ·try simp only [nqs] at hb20
    have hge : y = t.kids.length := by omega
    rw [List.drop_of_length_le (by omega), zAA] at hj
    refine zb ?_
    refine hK32 _ _ ?_
    refine zB fun _ hK43 => ?_
    refine zB fun _ hK44 => ?_
    refine rp0 hst5 hfr5 (.cons rfl (zC rfl) <| .nil) fun a6 w6 m6 hst6 hle6 hk6 => ?_
    have hfr6 := hk6.fr (.o 3 <| .o 1 <| .n 5 <| .nil)
    clear hst5 hfr5 hk6
    refine hK44 _ _ ?_
    refine zK ?_
    have zq20 := hle5.trans hle6
    have hlh6 := hlh4.trans zq20
    have hlq45 := hlh6
    refine zZ (T := [(3, _), (1, _)]) (fun (y : Nat) => ([(5, .int .i64 (y : Int))] : List (Nat × Value))) (fun _ => _) (fun (y : Nat) m => (y ≤ t.arms.length) ∧ (zAL t.arms = zAL (t.arms.drop y))) (fun y => t.arms.length - y) (0) ⟨hst6, MLe.refl _, hfr6.sub (.c <| .c <| .c <| .nil), ⟨Nat.zero_le _, rfl⟩⟩ fun y a7 w7 m7 hh7 => ?_
    have hst7 := hh7.st; have hle7 := hh7.le; have hfr7 := hh7.fr; have hrel := hh7.rel; clear hh7
    clear hst6 hfr6
    obtain ⟨hyn, hj2⟩ := hrel
    have hlh7 := hle7
    refine zB fun _ hK46 => ?_
    refine zB fun _ hK47 => ?_
    have zq21 := zq20.trans hle7
    replace hc1 := hc1.mono zq21
    refine rp0 hst7 hfr7 (.cons rfl (zD rfl) <| .cons rfl (zA (off := 6) rfl underlying33 rfl rfl sizeOf25 rfl) <| .cons rfl (zE rfl hc1 isAgg25 rfl) <| .cons rfl (zX rfl underlying25) <| .cons rfl (zt rfl rfl) <| .nil) fun a8 w8 m8 hst8 hle8 hk8 => ?_
    have hfr8 := hk8.fr (.o 5 <| .o 3 <| .o 1 <| .n 34 <| .nil)
    clear hst7 hfr7 hk8
    refine hK47 _ _ ?_
    refine zG hfr8 rfl rfl (fun hb34 => ?_) (fun hb34 => ?_)
    ·try simp only [nqs] at hb34
     refine zJ ?_
     refine hK46 _ _ ?_
     refine zB fun _ hK48 => ?_
     refine zK ?_
     refine zB fun _ hK49 => ?_
     have zq22 := zq21.trans hle8
     have zq23 := zq15.trans zq22
     replace haa_t := haa_t.mono zq23
     obtain ⟨p50, vs50, x50, ho50, hd50, hm_x50, ht50, hcv50, hl50, hv50⟩ := haa_t.nth (k := y) (by omega)
     cases ho50
     obtain ⟨oV50, cV50, bs50, rfl, hva50, hbd50⟩ := hv50.open_
     have hbv50 := hva50.big; have hcv50_ := hva50.cap
     obtain ⟨⟨oK50b, cK50b, oA50b, cA50b, oR50b, cR50b, t050b, t150b, t250b, t350b, t450b, t550b, u050b, u150b, u250b, u350b, u450b, u550b⟩, rfl, hon50b, hkk50b, haa50b, hrr50b⟩ := hbd50.open_
     dsimp only at hkk50b haa50b hrr50b
     have hbg50b := hkk50b.big; have hcp50b := hkk50b.cap; have hbh50b := haa50b.big; have hcq50b := haa50b.cap
     replace h_t := h_t.mono zq23
     replace hkk_t := hkk_t.mono zq23
     replace hrr_t := hrr_t.mono zq23
     replace hc1 := hc1.mono hle8
     refine rp0 hst8 hfr8 (.cons rfl (zA (off := 6) rfl underlying33 rfl rfl sizeOf25 rfl) <| .cons rfl (zE rfl hc1 isAgg25 rfl) <| .cons rfl (zD rfl) <| .cons rfl (zI (k := y) rfl rfl underlying25 sizeOf72 rfl (by omega)) <| .cons rfl (zA (off := 2) rfl underlying72 rfl rfl sizeOf33 rfl) <| .cons rfl (ZU rfl hcv50 isAgg33 sizeOf33 rfl rfl) <| .cons rfl (zg rfl (.cons rfl <| .nil) call26 (fun w m hK => by have hle_ := KC.le hK; have hA := KC.agree hK; have h_t := h_t.mono hle_; have hkk_t := hkk_t.mono hle_; have haa_t := haa_t.mono hle_; have hrr_t := hrr_t.mono hle_; have hc1 := hc1.mono hle_; have hcv50 := hcv50.mono hle_; have hv50 := hv50.mono hle_; have hva50 := hva50.mono hle_; have hbd50 := hbd50.mono hle_; have hkk50b := hkk50b.mono hle_; have haa50b := haa50b.mono hle_; have hrr50b := hrr50b.mono hle_; exact iha _ (by assumption) hA hbd50)) <| .cons rfl (zC rfl) <| .nil) fun a9 w9 m9 hst9 hle9 hk9 => ?_
     have hfr9 := hk9.fr (.o 5 <| .o 3 <| .o 1 <| .n 6 <| .nil)
     clear hst8 hfr8 hk9
     refine hK49 _ _ ?_
     refine zB fun _ hK51 => ?_
     refine rp0 hst9 hfr9 (.cons rfl (zD rfl) <| .nil) fun a10 w10 m10 hst10 hle10 hk10 => ?_
     have hfr10 := hk10.fr (.o 5 <| .o 3 <| .o 1 <| .n 44 <| .nil)
     clear hst9 hfr9 hk10
     refine hK51 _ _ ?_
     refine zG hfr10 rfl rfl (fun hb44 => ?_) (fun hb44 => ?_)
     ·try simp only [nqs] at hb44
      have hbad2 : zAL t.arms = true := by rw [hj2, hd50, zAr, hb44]; rfl
      refine zB fun _ hK52 => ?_
      refine rp0 hst10 hfr10 (.cons rfl (zC rfl) <| .nil) fun a11 w11 m11 hst11 hle11 hk11 => ?_
      have hfr11 := hk11.fr (.o 5 <| .o 3 <| .n 2 <| .nil)
      clear hst10 hfr10 hk11
      refine hK52 _ _ ?_
      refine zL ?_
      repeat (with_reducible first | refine zH ?_ | refine zF ?_)
      exact zM hst11 hfr11 rfl (.tmp rfl <| .nil) (by refine congrArg Value.bool ?_; rw [hce, hbh9, hj, hbad2]; rfl)
     ·try simp only [nqs] at hb44
      refine zJ ?_
      refine hK48 _ _ ?_
      refine rp0 hst10 hfr10 (.cons rfl (zD rfl) <| .cons rfl (zh rfl rfl ⟨by omega, by omega⟩) <| .cons rfl (zC rfl) <| .nil) fun a11 w11 m11 hst11 hle11 hk11 => ?_
      have hfr11 := hk11.fr (.o 3 <| .o 1 <| .n 5 <| .nil)
      clear hst10 hfr10 hk11
      have zq24 := hle10.trans hle11
      have zq25 := hle9.trans zq24
      have zq26 := hle8.trans zq25
      have hlh11 := hlh7.trans zq26
      exact ⟨y + 1, m11, by show t.arms.length - (y + 1) < t.arms.length - y; omega, ⟨hst11, hlh11, hfr11.sub (.c <| .c <| .c <| .nil), ⟨by show y + 1 ≤ t.arms.length; omega, by rw [hj2, hd50, zAr, hb44]; rfl⟩⟩⟩
    ·try simp only [nqs] at hb34
     have hge : y = t.arms.length := by omega
     rw [List.drop_of_length_le (by omega), zAL] at hj2
     refine zb ?_
     refine hK43 _ _ ?_
     refine zB fun _ hK54 => ?_
     refine rp0 hst8 hfr8 (.cons rfl (zC rfl) <| .nil) fun a9 w9 m9 hst9 hle9 hk9 => ?_
     have hfr9 := hk9.fr (.o 5 <| .o 3 <| .n 2 <| .nil)
     clear hst8 hfr8 hk9
     refine hK54 _ _ ?_
     refine zL ?_
     repeat (with_reducible first | refine zH ?_ | refine zF ?_)
     exact zM hst9 hfr9 rfl (.tmp rfl <| .nil) (by refine congrArg Value.bool ?_; rw [hce, hbh9, hj, hj2]; rfl)
theorem bare_c (t : Tm) : bare_G t := Tm.rec_ (p := bare_G) (fun t ihk iha => bare_s ihk iha) t
abbrev zDo (t : Cd) : Prop := ∀ {w : World} {m : Mem} {vs_t : List Value} (hA : Agree w m) (h_t : CdR m t vs_t) (hb : (tkC t).length ≤ 1000000000), FnV Tryd.prog 27 #[.agg vs_t.toArray] w m (fun _ m v => (MP.strs (tkC t)).p m v)
set_option maxHeartbeats 1600000 in
theorem taken_s {t : Cd} (ihk : ∀ u ∈ t.kids, zDo u) (iha : ∀ a ∈ t.arms, zDo a.body) {w : World} {m : Mem} {vs_t : List Value} (hA : Agree w m) (h_t : CdR m t vs_t) (hb : (tkC t).length ≤ 1000000000) : FnV Tryd.prog 27 #[.agg vs_t.toArray] w m (fun _ m v => (MP.strs (tkC t)).p m v) := by
 obtain ⟨⟨oK_t, cK_t, oA_t, cA_t⟩, rfl, ⟨hik_t, hin_t⟩, hkk_t, haa_t⟩ := h_t.open_
 dsimp only at hkk_t haa_t
 have hbg_t := hkk_t.big; have hcp_t := hkk_t.cap; have hbh_t := haa_t.big; have hcq_t := haa_t.cap
 refine zW (vs := [_]) func27 rfl rfl rfl fun a0 hfr0 => ?_
 have hst0 := zV hA (zj [] _ w m)
 have hM : MLe m m := MLe.refl m
 have hce := zBz t
 have hcl : (tkC t).length = (tkH t).length + ((Zx t.kids).length + (zAN t.arms).length) := by rw [hce]; simp
 refine zB fun _ hK1 => ?_
 refine rp0 hst0 hfr0 (.cons rfl (zx rfl rfl) <| .cons rfl (zC rfl) <| .nil) fun a1 w1 m1 hst1 hle1 hk1 => ?_
 have hfr1 := hk1.fr (.nil)
 obtain ⟨g2, e2, hc1⟩ := hk1.ex 1 rfl
 replace hfr1 := hfr1.cons e2
 replace h_t := h_t.mono hle1
 replace hkk_t := hkk_t.mono hle1
 replace haa_t := haa_t.mono hle1
 clear hst0 hfr0 hk1
 refine hK1 _ _ ?_
 refine zB fun _ hK3 => ?_
 refine rp0 hst1 hfr1 (.cons rfl (zC rfl) <| .nil) fun a2 w2 m2 hst2 hle2 hk2 => ?_
 have hfr2 := hk2.fr (.o 1 <| .n 3 <| .nil)
 replace h_t := h_t.mono hle2
 replace hkk_t := hkk_t.mono hle2
 replace haa_t := haa_t.mono hle2
 replace hc1 := hc1.mono hle2
 clear hst1 hfr1 hk2
 have hst2 := hst2.more (r := .rowx (.slice none 0 0) 0 1 9 (MP.reads (fun _ vs (x : Str) => vs = [S x]) 1 [])) Z7 List.nodup_nil (by simp [Res.blocks, zw])
 have hsl_out : Strs m2 none ([] : List Str).length 0 ([] : List Str) := Sl.empty
 refine hK3 _ _ ?_
 refine zB fun _ hK4 => ?_
 refine zB fun _ hK5 => ?_
 rcases hnm : t.name with _ | ⟨c9, r9⟩
 ·skip
  refine rp0 hst2 hfr2 (.cons rfl (zA (off := 0) rfl underlying46 rfl rfl sizeOf3 rfl) <| .cons rfl (zE rfl hc1 isAgg3 rfl) <| .cons rfl (zY rfl rfl) <| .cons rfl (zD rfl) <| .cons rfl (zA (off := 0) rfl underlying46 rfl rfl sizeOf3 rfl) <| .cons rfl (zE rfl hc1 isAgg3 rfl) <| .cons rfl (zY rfl rfl) <| .cons rfl (ZB rfl rfl rfl) <| .cons rfl (zD rfl) <| .cons rfl (zA (off := 1) rfl underlying46 rfl rfl sizeOf9 rfl) <| .cons rfl (zE rfl hc1 isAgg9 rfl) <| .cons rfl (Z4 rfl rfl) <| .cons rfl (ZP rfl rfl rfl) <| .cons rfl (zD rfl) <| .cons rfl (zu (κ := .eq (.bool false)) (b := true) 19 rfl rfl (fun h => by first | (simp at h; done) | (simp [hnm] at h; done) | (simp_all; done))) <| .cons rfl (zu (κ := .eq (.bool false)) (b := true) 19 rfl rfl (fun h => by first | (simp at h; done) | (simp [hnm] at h; done) | (simp_all; done))) <| .cons rfl (zu (κ := .eq (.bool false)) (b := true) 19 rfl rfl (fun h => by first | (simp at h; done) | (simp [hnm] at h; done) | (simp_all; done))) <| .cons rfl (zu (κ := .eq (.bool false)) (b := true) 19 rfl rfl (fun h => by first | (simp at h; done) | (simp [hnm] at h; done) | (simp_all; done))) <| .cons rfl (ZP rfl rfl rfl) <| .nil) fun a3 w3 m3 hst3 hle3 hk3 => ?_
  have hfr3 := hk3.fr (.o 1 <| .o 3 <| .n 24 <| .nil)
  clear hst2 hfr2 hk3
  refine hK5 _ _ ?_
  refine zG hfr3 rfl rfl (fun hb24 => ?_) (fun hb24 => ?_)
  ·exfalso; simp [hnm] at hb24
  ·try simp only [nqs] at hb24
   have htk9 : tkH t = [] := by unfold tkH Z6; rw [hnm]; simp
   refine zJ ?_
   refine hK4 _ _ ?_
   refine zB fun _ hK6 => ?_
   refine zB fun _ hK7 => ?_
   refine rp0 hst3 hfr3 (.cons rfl (zC rfl) <| .nil) fun a4 w4 m4 hst4 hle4 hk4 => ?_
   have hfr4 := hk4.fr (.o 1 <| .o 3 <| .n 4 <| .nil)
   clear hst3 hfr3 hk4
   refine hK7 _ _ ?_
   refine zK ?_
   have zq1 := hle3.trans hle4
   replace hsl_out := hsl_out.mono zq1
   refine zZ (T := [(1, _)]) (fun (y : Nat × Option Addr × Nat × List Str) => ([(3, .slice y.2.1 y.2.2.2.length y.2.2.1), (4, .int .i64 (y.1 : Int))] : List (Nat × Value))) (fun y => [.rowx (nz (.slice y.2.1 y.2.2.2.length y.2.2.1)) y.2.2.2.length 1 9 (MP.reads (fun _ vs (x : Str) => vs = [S x]) 1 y.2.2.2)]) (fun (y : Nat × Option Addr × Nat × List Str) m => (fun (y : Nat) (ouo : Option Addr) (oup : Nat) (ou : List Str) => (y ≤ t.kids.length) ∧ (Strs m ouo ou.length oup ou) ∧ (tkC t = ou ++ (Zx (t.kids.drop y) ++ zAN t.arms))) y.1 y.2.1 y.2.2.1 y.2.2.2) (fun y => t.kids.length - y.1) ((0, none, 0, ([] : List Str))) ⟨hst4, MLe.refl _, hfr4.sub (.c <| .c <| .c <| .nil), ⟨Nat.zero_le _, hsl_out, by rw [hce, htk9]; rfl⟩⟩ fun y a5 w5 m5 hh5 => ?_
   have hst5 := hh5.st; have hle5 := hh5.le; have hfr5 := hh5.fr; have hrel := hh5.rel; clear hh5
   clear hst4 hfr4
   obtain ⟨y, ouo, oup, ou⟩ := y
   dsimp only at hrel hfr5 hst5
   obtain ⟨hyn, hsl_ou, hlen_ou⟩ := hrel
   have hlh5 := hle5
   refine zB fun _ hK9 => ?_
   refine zB fun _ hK10 => ?_
   have zq2 := zq1.trans hle5
   replace hc1 := hc1.mono zq2
   refine rp0 hst5 hfr5 (.cons rfl (zD rfl) <| .cons rfl (zA (off := 4) rfl underlying46 rfl rfl sizeOf43 rfl) <| .cons rfl (zE rfl hc1 isAgg43 rfl) <| .cons rfl (zX rfl underlying43) <| .cons rfl (zt rfl rfl) <| .nil) fun a6 w6 m6 hst6 hle6 hk6 => ?_
   have hfr6 := hk6.fr (.o 3 <| .o 4 <| .o 1 <| .n 34 <| .nil)
   clear hst5 hfr5 hk6
   refine hK10 _ _ ?_
   refine zG hfr6 rfl rfl (fun hb34 => ?_) (fun hb34 => ?_)
   ·try simp only [nqs] at hb34
    refine zJ ?_
    refine hK9 _ _ ?_
    refine zB fun _ hK11 => ?_
    refine zK ?_
    refine zk 7 (by kernel_rfl) ?_
    have zq3 := zq2.trans hle6
    replace hkk_t := hkk_t.mono zq3
    obtain ⟨p12, vs12, x12, ho12, hd12, hm_x12, ht12, hcv12, hl12, hv12⟩ := hkk_t.nth (k := y) (by omega)
    cases ho12
    obtain ⟨⟨oK12, cK12, oA12, cA12⟩, rfl, ⟨hik12, hin12⟩, hkk12, haa12⟩ := hv12.open_
    dsimp only at hkk12 haa12
    have hbg12 := hkk12.big; have hcp12 := hkk12.cap; have hbh12 := haa12.big; have hcq12 := haa12.cap
    rw [hd12, Zx] at hlen_ou
    have hln9 : (tkC t).length = ou.length + ((tkC x12).length + (Zx (t.kids.drop (y + 1))).length + (zAN t.arms).length) := by rw [hlen_ou]; simp; omega
    replace h_t := h_t.mono zq3
    replace haa_t := haa_t.mono zq3
    have zq4 := hle5.trans hle6
    replace hsl_out := hsl_out.mono zq4
    replace hc1 := hc1.mono hle6
    replace hsl_ou := hsl_ou.mono hle6
    refine za (tch := []) hst6 hfr6 (by kernel_rfl) (by kernel_rfl) (by kernel_rfl) (.cons rfl (zD rfl) <| .cons rfl (zA (off := 4) rfl underlying46 rfl rfl sizeOf43 rfl) <| .cons rfl (zE rfl hc1 isAgg43 rfl) <| .cons rfl (zD rfl) <| .cons rfl (zI (k := y) rfl rfl underlying43 sizeOf46 rfl (by omega)) <| .cons rfl (zN rfl hcv12 isAgg46 sizeOf46 rfl rfl) <| .cons rfl (zi (φ := MP.strs (tkC x12)) rfl (.cons rfl <| .nil) call27 (fun w m hK => by have hle_ := KC.le hK; have hA := KC.agree hK; have h_t := h_t.mono hle_; have hkk_t := hkk_t.mono hle_; have haa_t := haa_t.mono hle_; have hc1 := hc1.mono hle_; have hsl_out := hsl_out.mono hle_; have hsl_ou := hsl_ou.mono hle_; have hcv12 := hcv12.mono hle_; have hv12 := hv12.mono hle_; have hkk12 := hkk12.mono hle_; have haa12 := haa12.mono hle_; exact FnG.mono (ihk _ (by assumption) hA hv12 (by omega)) fun _ _ _ _ h => h)) <| .nil) fun a7 w7 m7 hst7 hle7 hk7 => ?_
    have hfr7 := hk7.fr (.o 3 <| .o 4 <| .o 1 <| .n 37 <| .nil)
    obtain ⟨⟨oN, cN⟩, e13, hN⟩ := hk7.ex 43 rfl
    replace hfr7 := hfr7.cons e13
    clear hst6 hfr6 hk7
    dsimp only [MP.strs, MP.mem] at hN
    refine za (tch := [(0, 0, (fun v => .rowx (nz v) _ _ _ _))]) hst7 hfr7 (by kernel_rfl) (by kernel_rfl) (by kernel_rfl) (.consT rfl rfl (fun _ => rfl) rfl (ZC (size := 1) (bytes := 16) (l := ou) (l' := (tkC x12)) rfl rfl (fun _ => by first | exact .inl rfl | exact .inr (.inl rfl)) underlying27 type9 rfl rfl rfl rfl (fun w m hK => hN.mono (KC.le hK)) rfl (by decide) (by simp only [maxLen]; omega) (by omega)) <| .consA 44 rfl rfl <| .nil) fun a8 w8 m8 hst8 hle8 hk8 => ?_
    have hfr8 := hk8.fr (.o 4 <| .o 1 <| .o 37 <| .o 43 <| .nil)
    obtain ⟨⟨out_14o, out_14p⟩, e15, hsl_out_14⟩ := hk8.ex 44 rfl
    replace hfr8 := hfr8.cons e15
    replace hfr8 := hfr8.cons (hk8.same 3 rfl e15)
    replace hst8 := hst8.fin (L' := [_]) (.cons e15 <| .nil)
    clear hst7 hfr7 hk8
    replace hsl_out_14 : Strs m8 out_14o (ou ++ (tkC x12)).length out_14p (ou ++ (tkC x12)) := hsl_out_14
    refine hK11 _ _ ?_
    refine rp0 hst8 hfr8 (.cons rfl (zD rfl) <| .cons rfl (zh rfl rfl ⟨by omega, by omega⟩) <| .cons rfl (zC rfl) <| .nil) fun a9 w9 m9 hst9 hle9 hk9 => ?_
    have hfr9 := hk9.fr (.o 1 <| .o 3 <| .n 4 <| .nil)
    clear hst8 hfr8 hk9
    replace hsl_out_14 := hsl_out_14.mono hle9
    have zq5 := hle8.trans hle9
    have zq6 := hle7.trans zq5
    have zq7 := hle6.trans zq6
    have hlh9 := hlh5.trans zq7
    exact ⟨(y + 1, out_14o, out_14p, (ou ++ (tkC x12))), m9, by show t.kids.length - (y + 1) < t.kids.length - y; omega, ⟨hst9, hlh9, hfr9.sub (.c <| .c <| .c <| .nil), ⟨by show y + 1 ≤ t.kids.length; omega, hsl_out_14, by rw [hlen_ou]; simp⟩⟩⟩
   ·try simp only [nqs] at hb34
    have hge : y = t.kids.length := by omega
    rw [List.drop_of_length_le (by omega), Zx, List.nil_append] at hlen_ou
    refine zb ?_
    refine hK6 _ _ ?_
    refine zB fun _ hK16 => ?_
    refine zB fun _ hK17 => ?_
    refine rp0 hst6 hfr6 (.cons rfl (zC rfl) <| .nil) fun a7 w7 m7 hst7 hle7 hk7 => ?_
    have hfr7 := hk7.fr (.o 3 <| .o 4 <| .o 1 <| .n 5 <| .nil)
    clear hst6 hfr6 hk7
    refine hK17 _ _ ?_
    refine zK ?_
    have zq8 := hle6.trans hle7
    have hlh7 := hlh5.trans zq8
    have hlq18 := hlh7
    replace hsl_ou := hsl_ou.mono zq8
    refine zZ (T := [(4, _), (1, _)]) (fun (y : Nat × Option Addr × Nat × List Str) => ([(3, .slice y.2.1 y.2.2.2.length y.2.2.1), (5, .int .i64 (y.1 : Int))] : List (Nat × Value))) (fun y => [.rowx (nz (.slice y.2.1 y.2.2.2.length y.2.2.1)) y.2.2.2.length 1 9 (MP.reads (fun _ vs (x : Str) => vs = [S x]) 1 y.2.2.2)]) (fun (y : Nat × Option Addr × Nat × List Str) m => (fun (y : Nat) (ovo : Option Addr) (ovp : Nat) (ov : List Str) => (y ≤ t.arms.length) ∧ (Strs m ovo ov.length ovp ov) ∧ (tkC t = ov ++ zAN (t.arms.drop y))) y.1 y.2.1 y.2.2.1 y.2.2.2) (fun y => t.arms.length - y.1) ((0, ouo, oup, ou)) ⟨hst7, MLe.refl _, hfr7.sub (.c <| .c <| .c <| .c <| .nil), ⟨Nat.zero_le _, hsl_ou, hlen_ou⟩⟩ fun y a8 w8 m8 hh8 => ?_
    have hst8 := hh8.st; have hle8 := hh8.le; have hfr8 := hh8.fr; have hrel := hh8.rel; clear hh8
    clear hst7 hfr7
    obtain ⟨y, ovo, ovp, ov⟩ := y
    dsimp only at hrel hfr8 hst8
    obtain ⟨hyn, hsl_ov, hlen_ov⟩ := hrel
    have hlh8 := hle8
    refine zB fun _ hK19 => ?_
    refine zB fun _ hK20 => ?_
    have zq9 := zq8.trans hle8
    replace hc1 := hc1.mono zq9
    refine rp0 hst8 hfr8 (.cons rfl (zD rfl) <| .cons rfl (zA (off := 5) rfl underlying46 rfl rfl sizeOf44 rfl) <| .cons rfl (zE rfl hc1 isAgg44 rfl) <| .cons rfl (zX rfl underlying44) <| .cons rfl (zt rfl rfl) <| .nil) fun a9 w9 m9 hst9 hle9 hk9 => ?_
    have hfr9 := hk9.fr (.o 3 <| .o 5 <| .o 4 <| .o 1 <| .n 49 <| .nil)
    clear hst8 hfr8 hk9
    refine hK20 _ _ ?_
    refine zG hfr9 rfl rfl (fun hb49 => ?_) (fun hb49 => ?_)
    ·try simp only [nqs] at hb49
     refine zJ ?_
     refine hK19 _ _ ?_
     refine zB fun _ hK21 => ?_
     refine zK ?_
     refine zk 8 (by kernel_rfl) ?_
     have zq10 := zq9.trans hle9
     have zq11 := zq2.trans zq10
     replace haa_t := haa_t.mono zq11
     obtain ⟨p22, vs22, x22, ho22, hd22, hm_x22, ht22, hcv22, hl22, hv22⟩ := haa_t.nth (k := y) (by omega)
     cases ho22
     obtain ⟨oV22, cV22, bs22, rfl, hva22, hbd22⟩ := hv22.open_
     have hbv22 := hva22.big; have hcv22_ := hva22.cap
     obtain ⟨⟨oK22b, cK22b, oA22b, cA22b⟩, rfl, ⟨hik22b, hin22b⟩, hkk22b, haa22b⟩ := hbd22.open_
     dsimp only at hkk22b haa22b
     have hbg22b := hkk22b.big; have hcp22b := hkk22b.cap; have hbh22b := haa22b.big; have hcq22b := haa22b.cap
     rw [hd22, zBA] at hlen_ov
     have hln9 : (tkC t).length = ov.length + ((tkC x22.body).length + (zAN (t.arms.drop (y + 1))).length) := by rw [hlen_ov]; simp <;> omega
     replace h_t := h_t.mono zq11
     replace hkk_t := hkk_t.mono zq11
     have zq12 := hle5.trans zq10
     replace hsl_out := hsl_out.mono zq12
     have zq13 := hle8.trans hle9
     replace hsl_ou := hsl_ou.mono zq13
     replace hc1 := hc1.mono hle9
     replace hsl_ov := hsl_ov.mono hle9
     refine za (tch := []) hst9 hfr9 (by kernel_rfl) (by kernel_rfl) (by kernel_rfl) (.cons rfl (zD rfl) <| .cons rfl (zA (off := 5) rfl underlying46 rfl rfl sizeOf44 rfl) <| .cons rfl (zE rfl hc1 isAgg44 rfl) <| .cons rfl (zD rfl) <| .cons rfl (zI (k := y) rfl rfl underlying44 sizeOf78 rfl (by omega)) <| .cons rfl (zA (off := 3) rfl underlying78 rfl rfl sizeOf46 rfl) <| .cons rfl (ZU rfl hcv22 isAgg46 sizeOf46 rfl rfl) <| .cons rfl (zi (φ := MP.strs (tkC x22.body)) rfl (.cons rfl <| .nil) call27 (fun w m hK => by have hle_ := KC.le hK; have hA := KC.agree hK; have h_t := h_t.mono hle_; have hkk_t := hkk_t.mono hle_; have haa_t := haa_t.mono hle_; have hc1 := hc1.mono hle_; have hsl_out := hsl_out.mono hle_; have hsl_ou := hsl_ou.mono hle_; have hsl_ov := hsl_ov.mono hle_; have hcv22 := hcv22.mono hle_; have hv22 := hv22.mono hle_; have hva22 := hva22.mono hle_; have hbd22 := hbd22.mono hle_; have hkk22b := hkk22b.mono hle_; have haa22b := haa22b.mono hle_; exact FnG.mono (iha _ (by assumption) hA hbd22 (by omega)) fun _ _ _ _ h => h)) <| .nil) fun a10 w10 m10 hst10 hle10 hk10 => ?_
     have hfr10 := hk10.fr (.o 3 <| .o 5 <| .o 4 <| .o 1 <| .n 52 <| .nil)
     obtain ⟨⟨oN, cN⟩, e23, hN⟩ := hk10.ex 59 rfl
     replace hfr10 := hfr10.cons e23
     clear hst9 hfr9 hk10
     dsimp only [MP.strs, MP.mem] at hN
     refine za (tch := [(0, 0, (fun v => .rowx (nz v) _ _ _ _))]) hst10 hfr10 (by kernel_rfl) (by kernel_rfl) (by kernel_rfl) (.consT rfl rfl (fun _ => rfl) rfl (ZC (size := 1) (bytes := 16) (l := ov) (l' := (tkC x22.body)) rfl rfl (fun _ => by first | exact .inl rfl | exact .inr (.inl rfl)) underlying27 type9 rfl rfl rfl rfl (fun w m hK => hN.mono (KC.le hK)) rfl (by decide) (by simp only [maxLen]; omega) (by omega)) <| .consA 60 rfl rfl <| .nil) fun a11 w11 m11 hst11 hle11 hk11 => ?_
     have hfr11 := hk11.fr (.o 5 <| .o 4 <| .o 1 <| .o 52 <| .o 59 <| .nil)
     obtain ⟨⟨out_24o, out_24p⟩, e25, hsl_out_24⟩ := hk11.ex 60 rfl
     replace hfr11 := hfr11.cons e25
     replace hfr11 := hfr11.cons (hk11.same 3 rfl e25)
     replace hst11 := hst11.fin (L' := [_]) (.cons e25 <| .nil)
     clear hst10 hfr10 hk11
     replace hsl_out_24 : Strs m11 out_24o (ov ++ (tkC x22.body)).length out_24p (ov ++ (tkC x22.body)) := hsl_out_24
     refine hK21 _ _ ?_
     refine rp0 hst11 hfr11 (.cons rfl (zD rfl) <| .cons rfl (zh rfl rfl ⟨by omega, by omega⟩) <| .cons rfl (zC rfl) <| .nil) fun a12 w12 m12 hst12 hle12 hk12 => ?_
     have hfr12 := hk12.fr (.o 4 <| .o 1 <| .o 3 <| .n 5 <| .nil)
     clear hst11 hfr11 hk12
     replace hsl_out_24 := hsl_out_24.mono hle12
     have zq14 := hle11.trans hle12
     have zq15 := hle10.trans zq14
     have zq16 := hle9.trans zq15
     have hlh12 := hlh8.trans zq16
     exact ⟨(y + 1, out_24o, out_24p, (ov ++ (tkC x22.body))), m12, by show t.arms.length - (y + 1) < t.arms.length - y; omega, ⟨hst12, hlh12, hfr12.sub (.c <| .c <| .c <| .c <| .nil), ⟨by show y + 1 ≤ t.arms.length; omega, hsl_out_24, by rw [hlen_ov]; simp⟩⟩⟩
    ·try simp only [nqs] at hb49
     have hge : y = t.arms.length := by omega
     rw [List.drop_of_length_le (by omega), zAN, List.append_nil] at hlen_ov
     refine zb ?_
     refine hK16 _ _ ?_
     refine zB fun _ hK26 => ?_
     refine rp0 hst9 hfr9 (.cons rfl (zD rfl) <| .cons rfl (zC rfl) <| .nil) fun a10 w10 m10 hst10 hle10 hk10 => ?_
     have hfr10 := hk10.fr (.o 3 <| .o 5 <| .o 4 <| .n 2 <| .nil)
     clear hst9 hfr9 hk10
     refine hK26 _ _ ?_
     refine zL ?_
     repeat (with_reducible first | refine zH ?_ | refine zF ?_)
     have zq17 := hle9.trans hle10
     replace hsl_ov := hsl_ov.mono zq17
     exact zM hst10 hfr10 rfl (.tmp rfl <| .nil) (⟨(_, _), by rw [hlen_ov]; rfl, by rw [hlen_ov]; exact hsl_ov⟩)
 ·skip
  have hls9 : 0 < t.name.length := by rw [hnm]; simp
  obtain ⟨b28, hb_28, hd28⟩ := nth_str (s := t.name) (k := 0) (by omega)
  clear hd28
  refine rp0 hst2 hfr2 (.cons rfl (zA (off := 0) rfl underlying46 rfl rfl sizeOf3 rfl) <| .cons rfl (zE rfl hc1 isAgg3 rfl) <| .cons rfl (zY rfl rfl) <| .cons rfl (zD rfl) <| .cons rfl (zA (off := 0) rfl underlying46 rfl rfl sizeOf3 rfl) <| .cons rfl (zE rfl hc1 isAgg3 rfl) <| .cons rfl (zY rfl rfl) <| .cons rfl (ZB rfl rfl rfl) <| .cons rfl (zD rfl) <| .cons rfl (zA (off := 1) rfl underlying46 rfl rfl sizeOf9 rfl) <| .cons rfl (zE rfl hc1 isAgg9 rfl) <| .cons rfl (Z4 rfl rfl) <| .cons rfl (ZP rfl rfl rfl) <| .cons rfl (zD rfl) <| .cons rfl (zA (off := 1) rfl underlying46 rfl rfl sizeOf9 rfl) <| .cons rfl (zE rfl hc1 isAgg9 rfl) <| .cons rfl (ob_sindex (k := 0) (b := _) rfl rfl underlying9 rfl hb_28) <| .cons rfl (zY rfl rfl) <| .cons rfl (ZP rfl rfl rfl) <| .nil) fun a3 w3 m3 hst3 hle3 hk3 => ?_
  have hfr3 := hk3.fr (.o 1 <| .o 3 <| .n 24 <| .nil)
  clear hst2 hfr2 hk3
  refine hK5 _ _ ?_
  refine zG hfr3 rfl rfl (fun hb24 => ?_) (fun hb24 => ?_)
  ·try simp only [nqs] at hb24
   have htk9 : tkH t = [t.name] := by unfold tkH Z6; rw [if_pos (by simp_all [u8_39])]
   replace hc1 := hc1.mono hle3
   refine ra0 (tch := [(4, 0, (fun v => .rowx (nz v) _ _ _ _))]) hst3 hfr3 (.cons rfl (zD rfl) <| .cons rfl (zA (off := 1) rfl underlying46 rfl rfl sizeOf9 rfl) <| .cons rfl (zE rfl hc1 isAgg9 rfl) <| .cons rfl (z8 (.cons rfl <| .nil) underlying27 sizeOf9 zeroValue9 rfl rfl rfl rfl) <| .consT rfl rfl (fun _ => rfl) rfl (zU 28 rfl rfl rfl fun y28 => ZC (size := 1) (bytes := 16) (l := ([] : List Str)) (l' := [t.name]) rfl rfl (fun _ => by first | exact .inl rfl | exact .inr (.inl rfl)) underlying27 type9 rfl rfl rfl rfl (fun w m hK => Sl.one (vs := [_]) hK.2 rfl rfl) rfl (by decide) (by simp only [maxLen]; omega) (by omega)) <| .consA 29 rfl rfl <| .nil) fun a4 w4 m4 hst4 hle4 hk4 => ?_
   have hfr4 := hk4.fr (.o 1 <| .nil)
   obtain ⟨⟨out_29o, out_29p⟩, e30, hsl_out_29⟩ := hk4.ex 29 rfl
   replace hfr4 := hfr4.cons (hk4.same 3 rfl e30)
   replace hst4 := hst4.fin (L' := [_]) (.cons e30 <| .nil)
   clear hst3 hfr3 hk4
   replace hsl_out_29 : Strs m4 out_29o (([] : List Str) ++ [t.name]).length out_29p (([] : List Str) ++ [t.name]) := hsl_out_29
   refine hK4 _ _ ?_
   refine zB fun _ hK31 => ?_
   refine zB fun _ hK32 => ?_
   refine rp0 hst4 hfr4 (.cons rfl (zC rfl) <| .nil) fun a5 w5 m5 hst5 hle5 hk5 => ?_
   have hfr5 := hk5.fr (.o 1 <| .o 3 <| .n 4 <| .nil)
   clear hst4 hfr4 hk5
   refine hK32 _ _ ?_
   refine zK ?_
   replace hsl_out_29 := hsl_out_29.mono hle5
   refine zZ (T := [(1, _)]) (fun (y : Nat × Option Addr × Nat × List Str) => ([(3, .slice y.2.1 y.2.2.2.length y.2.2.1), (4, .int .i64 (y.1 : Int))] : List (Nat × Value))) (fun y => [.rowx (nz (.slice y.2.1 y.2.2.2.length y.2.2.1)) y.2.2.2.length 1 9 (MP.reads (fun _ vs (x : Str) => vs = [S x]) 1 y.2.2.2)]) (fun (y : Nat × Option Addr × Nat × List Str) m => (fun (y : Nat) (ouo : Option Addr) (oup : Nat) (ou : List Str) => (y ≤ t.kids.length) ∧ (Strs m ouo ou.length oup ou) ∧ (tkC t = ou ++ (Zx (t.kids.drop y) ++ zAN t.arms))) y.1 y.2.1 y.2.2.1 y.2.2.2) (fun y => t.kids.length - y.1) ((0, out_29o, out_29p, (([] : List Str) ++ [t.name]))) ⟨hst5, MLe.refl _, hfr5.sub (.c <| .c <| .c <| .nil), ⟨Nat.zero_le _, hsl_out_29, by rw [hce, htk9]; rfl⟩⟩ fun y a6 w6 m6 hh6 => ?_
   have hst6 := hh6.st; have hle6 := hh6.le; have hfr6 := hh6.fr; have hrel := hh6.rel; clear hh6
   clear hst5 hfr5
   obtain ⟨y, ouo, oup, ou⟩ := y
   dsimp only at hrel hfr6 hst6
   obtain ⟨hyn, hsl_ou, hlen_ou⟩ := hrel
   have hlh6 := hle6
   refine zB fun _ hK34 => ?_
   refine zB fun _ hK35 => ?_
   have zq18 := hle5.trans hle6
   have zq19 := hle4.trans zq18
   replace hc1 := hc1.mono zq19
   refine rp0 hst6 hfr6 (.cons rfl (zD rfl) <| .cons rfl (zA (off := 4) rfl underlying46 rfl rfl sizeOf43 rfl) <| .cons rfl (zE rfl hc1 isAgg43 rfl) <| .cons rfl (zX rfl underlying43) <| .cons rfl (zt rfl rfl) <| .nil) fun a7 w7 m7 hst7 hle7 hk7 => ?_
   have hfr7 := hk7.fr (.o 3 <| .o 4 <| .o 1 <| .n 34 <| .nil)
   clear hst6 hfr6 hk7
   refine hK35 _ _ ?_
   refine zG hfr7 rfl rfl (fun hb34 => ?_) (fun hb34 => ?_)
   ·try simp only [nqs] at hb34
    refine zJ ?_
    refine hK34 _ _ ?_
    refine zB fun _ hK36 => ?_
    refine zK ?_
    refine zk 7 (by kernel_rfl) ?_
    have zq20 := zq19.trans hle7
    have zq21 := hle3.trans zq20
    replace hkk_t := hkk_t.mono zq21
    obtain ⟨p37, vs37, x37, ho37, hd37, hm_x37, ht37, hcv37, hl37, hv37⟩ := hkk_t.nth (k := y) (by omega)
    cases ho37
    obtain ⟨⟨oK37, cK37, oA37, cA37⟩, rfl, ⟨hik37, hin37⟩, hkk37, haa37⟩ := hv37.open_
    dsimp only at hkk37 haa37
    have hbg37 := hkk37.big; have hcp37 := hkk37.cap; have hbh37 := haa37.big; have hcq37 := haa37.cap
    rw [hd37, Zx] at hlen_ou
    have hln9 : (tkC t).length = ou.length + ((tkC x37).length + (Zx (t.kids.drop (y + 1))).length + (zAN t.arms).length) := by rw [hlen_ou]; simp; omega
    replace h_t := h_t.mono zq21
    replace haa_t := haa_t.mono zq21
    replace hsl_out := hsl_out.mono zq21
    have zq22 := hle6.trans hle7
    replace hsl_out_29 := hsl_out_29.mono zq22
    replace hc1 := hc1.mono hle7
    replace hsl_ou := hsl_ou.mono hle7
    refine za (tch := []) hst7 hfr7 (by kernel_rfl) (by kernel_rfl) (by kernel_rfl) (.cons rfl (zD rfl) <| .cons rfl (zA (off := 4) rfl underlying46 rfl rfl sizeOf43 rfl) <| .cons rfl (zE rfl hc1 isAgg43 rfl) <| .cons rfl (zD rfl) <| .cons rfl (zI (k := y) rfl rfl underlying43 sizeOf46 rfl (by omega)) <| .cons rfl (zN rfl hcv37 isAgg46 sizeOf46 rfl rfl) <| .cons rfl (zi (φ := MP.strs (tkC x37)) rfl (.cons rfl <| .nil) call27 (fun w m hK => by have hle_ := KC.le hK; have hA := KC.agree hK; have h_t := h_t.mono hle_; have hkk_t := hkk_t.mono hle_; have haa_t := haa_t.mono hle_; have hc1 := hc1.mono hle_; have hsl_out := hsl_out.mono hle_; have hsl_out_29 := hsl_out_29.mono hle_; have hsl_ou := hsl_ou.mono hle_; have hcv37 := hcv37.mono hle_; have hv37 := hv37.mono hle_; have hkk37 := hkk37.mono hle_; have haa37 := haa37.mono hle_; exact FnG.mono (ihk _ (by assumption) hA hv37 (by omega)) fun _ _ _ _ h => h)) <| .nil) fun a8 w8 m8 hst8 hle8 hk8 => ?_
    have hfr8 := hk8.fr (.o 3 <| .o 4 <| .o 1 <| .n 37 <| .nil)
    obtain ⟨⟨oN, cN⟩, e38, hN⟩ := hk8.ex 43 rfl
    replace hfr8 := hfr8.cons e38
    clear hst7 hfr7 hk8
    dsimp only [MP.strs, MP.mem] at hN
    refine za (tch := [(0, 0, (fun v => .rowx (nz v) _ _ _ _))]) hst8 hfr8 (by kernel_rfl) (by kernel_rfl) (by kernel_rfl) (.consT rfl rfl (fun _ => rfl) rfl (ZC (size := 1) (bytes := 16) (l := ou) (l' := (tkC x37)) rfl rfl (fun _ => by first | exact .inl rfl | exact .inr (.inl rfl)) underlying27 type9 rfl rfl rfl rfl (fun w m hK => hN.mono (KC.le hK)) rfl (by decide) (by simp only [maxLen]; omega) (by omega)) <| .consA 44 rfl rfl <| .nil) fun a9 w9 m9 hst9 hle9 hk9 => ?_
    have hfr9 := hk9.fr (.o 4 <| .o 1 <| .o 37 <| .o 43 <| .nil)
    obtain ⟨⟨out_39o, out_39p⟩, e40, hsl_out_39⟩ := hk9.ex 44 rfl
    replace hfr9 := hfr9.cons e40
    replace hfr9 := hfr9.cons (hk9.same 3 rfl e40)
    replace hst9 := hst9.fin (L' := [_]) (.cons e40 <| .nil)
    clear hst8 hfr8 hk9
    replace hsl_out_39 : Strs m9 out_39o (ou ++ (tkC x37)).length out_39p (ou ++ (tkC x37)) := hsl_out_39
    refine hK36 _ _ ?_
    refine rp0 hst9 hfr9 (.cons rfl (zD rfl) <| .cons rfl (zh rfl rfl ⟨by omega, by omega⟩) <| .cons rfl (zC rfl) <| .nil) fun a10 w10 m10 hst10 hle10 hk10 => ?_
    have hfr10 := hk10.fr (.o 1 <| .o 3 <| .n 4 <| .nil)
    clear hst9 hfr9 hk10
    replace hsl_out_39 := hsl_out_39.mono hle10
    have zq23 := hle9.trans hle10
    have zq24 := hle8.trans zq23
    have zq25 := hle7.trans zq24
    have hlh10 := hlh6.trans zq25
    exact ⟨(y + 1, out_39o, out_39p, (ou ++ (tkC x37))), m10, by show t.kids.length - (y + 1) < t.kids.length - y; omega, ⟨hst10, hlh10, hfr10.sub (.c <| .c <| .c <| .nil), ⟨by show y + 1 ≤ t.kids.length; omega, hsl_out_39, by rw [hlen_ou]; simp⟩⟩⟩
   ·try simp only [nqs] at hb34
    have hge : y = t.kids.length := by omega
    rw [List.drop_of_length_le (by omega), Zx, List.nil_append] at hlen_ou
    refine zb ?_
    refine hK31 _ _ ?_
    refine zB fun _ hK41 => ?_
    refine zB fun _ hK42 => ?_
    refine rp0 hst7 hfr7 (.cons rfl (zC rfl) <| .nil) fun a8 w8 m8 hst8 hle8 hk8 => ?_
    have hfr8 := hk8.fr (.o 3 <| .o 4 <| .o 1 <| .n 5 <| .nil)
    clear hst7 hfr7 hk8
    refine hK42 _ _ ?_
    refine zK ?_
    have zq26 := hle7.trans hle8
    have hlh8 := hlh6.trans zq26
    have hlq43 := hlh8
    replace hsl_ou := hsl_ou.mono zq26
    refine zZ (T := [(4, _), (1, _)]) (fun (y : Nat × Option Addr × Nat × List Str) => ([(3, .slice y.2.1 y.2.2.2.length y.2.2.1), (5, .int .i64 (y.1 : Int))] : List (Nat × Value))) (fun y => [.rowx (nz (.slice y.2.1 y.2.2.2.length y.2.2.1)) y.2.2.2.length 1 9 (MP.reads (fun _ vs (x : Str) => vs = [S x]) 1 y.2.2.2)]) (fun (y : Nat × Option Addr × Nat × List Str) m => (fun (y : Nat) (ovo : Option Addr) (ovp : Nat) (ov : List Str) => (y ≤ t.arms.length) ∧ (Strs m ovo ov.length ovp ov) ∧ (tkC t = ov ++ zAN (t.arms.drop y))) y.1 y.2.1 y.2.2.1 y.2.2.2) (fun y => t.arms.length - y.1) ((0, ouo, oup, ou)) ⟨hst8, MLe.refl _, hfr8.sub (.c <| .c <| .c <| .c <| .nil), ⟨Nat.zero_le _, hsl_ou, hlen_ou⟩⟩ fun y a9 w9 m9 hh9 => ?_
    have hst9 := hh9.st; have hle9 := hh9.le; have hfr9 := hh9.fr; have hrel := hh9.rel; clear hh9
    clear hst8 hfr8
    obtain ⟨y, ovo, ovp, ov⟩ := y
    dsimp only at hrel hfr9 hst9
    obtain ⟨hyn, hsl_ov, hlen_ov⟩ := hrel
    have hlh9 := hle9
    refine zB fun _ hK44 => ?_
    refine zB fun _ hK45 => ?_
    have zq27 := zq26.trans hle9
    replace hc1 := hc1.mono zq27
    refine rp0 hst9 hfr9 (.cons rfl (zD rfl) <| .cons rfl (zA (off := 5) rfl underlying46 rfl rfl sizeOf44 rfl) <| .cons rfl (zE rfl hc1 isAgg44 rfl) <| .cons rfl (zX rfl underlying44) <| .cons rfl (zt rfl rfl) <| .nil) fun a10 w10 m10 hst10 hle10 hk10 => ?_
    have hfr10 := hk10.fr (.o 3 <| .o 5 <| .o 4 <| .o 1 <| .n 49 <| .nil)
    clear hst9 hfr9 hk10
    refine hK45 _ _ ?_
    refine zG hfr10 rfl rfl (fun hb49 => ?_) (fun hb49 => ?_)
    ·try simp only [nqs] at hb49
     refine zJ ?_
     refine hK44 _ _ ?_
     refine zB fun _ hK46 => ?_
     refine zK ?_
     refine zk 8 (by kernel_rfl) ?_
     have zq28 := zq27.trans hle10
     have zq29 := zq19.trans zq28
     have zq30 := hle3.trans zq29
     replace haa_t := haa_t.mono zq30
     obtain ⟨p47, vs47, x47, ho47, hd47, hm_x47, ht47, hcv47, hl47, hv47⟩ := haa_t.nth (k := y) (by omega)
     cases ho47
     obtain ⟨oV47, cV47, bs47, rfl, hva47, hbd47⟩ := hv47.open_
     have hbv47 := hva47.big; have hcv47_ := hva47.cap
     obtain ⟨⟨oK47b, cK47b, oA47b, cA47b⟩, rfl, ⟨hik47b, hin47b⟩, hkk47b, haa47b⟩ := hbd47.open_
     dsimp only at hkk47b haa47b
     have hbg47b := hkk47b.big; have hcp47b := hkk47b.cap; have hbh47b := haa47b.big; have hcq47b := haa47b.cap
     rw [hd47, zBA] at hlen_ov
     have hln9 : (tkC t).length = ov.length + ((tkC x47.body).length + (zAN (t.arms.drop (y + 1))).length) := by rw [hlen_ov]; simp <;> omega
     replace h_t := h_t.mono zq30
     replace hkk_t := hkk_t.mono zq30
     replace hsl_out := hsl_out.mono zq30
     have zq31 := hle6.trans zq28
     replace hsl_out_29 := hsl_out_29.mono zq31
     have zq32 := hle9.trans hle10
     replace hsl_ou := hsl_ou.mono zq32
     replace hc1 := hc1.mono hle10
     replace hsl_ov := hsl_ov.mono hle10
     refine za (tch := []) hst10 hfr10 (by kernel_rfl) (by kernel_rfl) (by kernel_rfl) (.cons rfl (zD rfl) <| .cons rfl (zA (off := 5) rfl underlying46 rfl rfl sizeOf44 rfl) <| .cons rfl (zE rfl hc1 isAgg44 rfl) <| .cons rfl (zD rfl) <| .cons rfl (zI (k := y) rfl rfl underlying44 sizeOf78 rfl (by omega)) <| .cons rfl (zA (off := 3) rfl underlying78 rfl rfl sizeOf46 rfl) <| .cons rfl (ZU rfl hcv47 isAgg46 sizeOf46 rfl rfl) <| .cons rfl (zi (φ := MP.strs (tkC x47.body)) rfl (.cons rfl <| .nil) call27 (fun w m hK => by have hle_ := KC.le hK; have hA := KC.agree hK; have h_t := h_t.mono hle_; have hkk_t := hkk_t.mono hle_; have haa_t := haa_t.mono hle_; have hc1 := hc1.mono hle_; have hsl_out := hsl_out.mono hle_; have hsl_out_29 := hsl_out_29.mono hle_; have hsl_ou := hsl_ou.mono hle_; have hsl_ov := hsl_ov.mono hle_; have hcv47 := hcv47.mono hle_; have hv47 := hv47.mono hle_; have hva47 := hva47.mono hle_; have hbd47 := hbd47.mono hle_; have hkk47b := hkk47b.mono hle_; have haa47b := haa47b.mono hle_; exact FnG.mono (iha _ (by assumption) hA hbd47 (by omega)) fun _ _ _ _ h => h)) <| .nil) fun a11 w11 m11 hst11 hle11 hk11 => ?_
     have hfr11 := hk11.fr (.o 3 <| .o 5 <| .o 4 <| .o 1 <| .n 52 <| .nil)
     obtain ⟨⟨oN, cN⟩, e48, hN⟩ := hk11.ex 59 rfl
     replace hfr11 := hfr11.cons e48
     clear hst10 hfr10 hk11
     dsimp only [MP.strs, MP.mem] at hN
     refine za (tch := [(0, 0, (fun v => .rowx (nz v) _ _ _ _))]) hst11 hfr11 (by kernel_rfl) (by kernel_rfl) (by kernel_rfl) (.consT rfl rfl (fun _ => rfl) rfl (ZC (size := 1) (bytes := 16) (l := ov) (l' := (tkC x47.body)) rfl rfl (fun _ => by first | exact .inl rfl | exact .inr (.inl rfl)) underlying27 type9 rfl rfl rfl rfl (fun w m hK => hN.mono (KC.le hK)) rfl (by decide) (by simp only [maxLen]; omega) (by omega)) <| .consA 60 rfl rfl <| .nil) fun a12 w12 m12 hst12 hle12 hk12 => ?_
     have hfr12 := hk12.fr (.o 5 <| .o 4 <| .o 1 <| .o 52 <| .o 59 <| .nil)
     obtain ⟨⟨out_49o, out_49p⟩, e50, hsl_out_49⟩ := hk12.ex 60 rfl
     replace hfr12 := hfr12.cons e50
     replace hfr12 := hfr12.cons (hk12.same 3 rfl e50)
     replace hst12 := hst12.fin (L' := [_]) (.cons e50 <| .nil)
     clear hst11 hfr11 hk12
     replace hsl_out_49 : Strs m12 out_49o (ov ++ (tkC x47.body)).length out_49p (ov ++ (tkC x47.body)) := hsl_out_49
     refine hK46 _ _ ?_
     refine rp0 hst12 hfr12 (.cons rfl (zD rfl) <| .cons rfl (zh rfl rfl ⟨by omega, by omega⟩) <| .cons rfl (zC rfl) <| .nil) fun a13 w13 m13 hst13 hle13 hk13 => ?_
     have hfr13 := hk13.fr (.o 4 <| .o 1 <| .o 3 <| .n 5 <| .nil)
     clear hst12 hfr12 hk13
     replace hsl_out_49 := hsl_out_49.mono hle13
     have zq33 := hle12.trans hle13
     have zq34 := hle11.trans zq33
     have zq35 := hle10.trans zq34
     have hlh13 := hlh9.trans zq35
     exact ⟨(y + 1, out_49o, out_49p, (ov ++ (tkC x47.body))), m13, by show t.arms.length - (y + 1) < t.arms.length - y; omega, ⟨hst13, hlh13, hfr13.sub (.c <| .c <| .c <| .c <| .nil), ⟨by show y + 1 ≤ t.arms.length; omega, hsl_out_49, by rw [hlen_ov]; simp⟩⟩⟩
    ·try simp only [nqs] at hb49
     have hge : y = t.arms.length := by omega
     rw [List.drop_of_length_le (by omega), zAN, List.append_nil] at hlen_ov
     refine zb ?_
     refine hK41 _ _ ?_
     refine zB fun _ hK51 => ?_
     refine rp0 hst10 hfr10 (.cons rfl (zD rfl) <| .cons rfl (zC rfl) <| .nil) fun a11 w11 m11 hst11 hle11 hk11 => ?_
     have hfr11 := hk11.fr (.o 3 <| .o 5 <| .o 4 <| .n 2 <| .nil)
     clear hst10 hfr10 hk11
     refine hK51 _ _ ?_
     refine zL ?_
     repeat (with_reducible first | refine zH ?_ | refine zF ?_)
     have zq36 := hle10.trans hle11
     replace hsl_ov := hsl_ov.mono zq36
     exact zM hst11 hfr11 rfl (.tmp rfl <| .nil) (⟨(_, _), by rw [hlen_ov]; rfl, by rw [hlen_ov]; exact hsl_ov⟩)
  ·try simp only [nqs] at hb24
   have htk9 : tkH t = [] := by unfold tkH Z6; rw [if_neg (by simp_all [u8_39]; intro hh; rcases hb24 with h | h; (rcases hh with g | g; exact absurd g h.1; exact absurd g h.2); exact h)]
   refine zJ ?_
   refine hK4 _ _ ?_
   refine zB fun _ hK53 => ?_
   refine zB fun _ hK54 => ?_
   refine rp0 hst3 hfr3 (.cons rfl (zC rfl) <| .nil) fun a4 w4 m4 hst4 hle4 hk4 => ?_
   have hfr4 := hk4.fr (.o 1 <| .o 3 <| .n 4 <| .nil)
   clear hst3 hfr3 hk4
   refine hK54 _ _ ?_
   refine zK ?_
   have zq37 := hle3.trans hle4
   replace hsl_out := hsl_out.mono zq37
   refine zZ (T := [(1, _)]) (fun (y : Nat × Option Addr × Nat × List Str) => ([(3, .slice y.2.1 y.2.2.2.length y.2.2.1), (4, .int .i64 (y.1 : Int))] : List (Nat × Value))) (fun y => [.rowx (nz (.slice y.2.1 y.2.2.2.length y.2.2.1)) y.2.2.2.length 1 9 (MP.reads (fun _ vs (x : Str) => vs = [S x]) 1 y.2.2.2)]) (fun (y : Nat × Option Addr × Nat × List Str) m => (fun (y : Nat) (ouo : Option Addr) (oup : Nat) (ou : List Str) => (y ≤ t.kids.length) ∧ (Strs m ouo ou.length oup ou) ∧ (tkC t = ou ++ (Zx (t.kids.drop y) ++ zAN t.arms))) y.1 y.2.1 y.2.2.1 y.2.2.2) (fun y => t.kids.length - y.1) ((0, none, 0, ([] : List Str))) ⟨hst4, MLe.refl _, hfr4.sub (.c <| .c <| .c <| .nil), ⟨Nat.zero_le _, hsl_out, by rw [hce, htk9]; rfl⟩⟩ fun y a5 w5 m5 hh5 => ?_
   have hst5 := hh5.st; have hle5 := hh5.le; have hfr5 := hh5.fr; have hrel := hh5.rel; clear hh5
   clear hst4 hfr4
   obtain ⟨y, ouo, oup, ou⟩ := y
   dsimp only at hrel hfr5 hst5
   obtain ⟨hyn, hsl_ou, hlen_ou⟩ := hrel
   have hlh5 := hle5
   refine zB fun _ hK56 => ?_
   refine zB fun _ hK57 => ?_
   have zq38 := zq37.trans hle5
   replace hc1 := hc1.mono zq38
   refine rp0 hst5 hfr5 (.cons rfl (zD rfl) <| .cons rfl (zA (off := 4) rfl underlying46 rfl rfl sizeOf43 rfl) <| .cons rfl (zE rfl hc1 isAgg43 rfl) <| .cons rfl (zX rfl underlying43) <| .cons rfl (zt rfl rfl) <| .nil) fun a6 w6 m6 hst6 hle6 hk6 => ?_
   have hfr6 := hk6.fr (.o 3 <| .o 4 <| .o 1 <| .n 34 <| .nil)
   clear hst5 hfr5 hk6
   refine hK57 _ _ ?_
   refine zG hfr6 rfl rfl (fun hb34 => ?_) (fun hb34 => ?_)
   ·try simp only [nqs] at hb34
    refine zJ ?_
    refine hK56 _ _ ?_
    refine zB fun _ hK58 => ?_
    refine zK ?_
    refine zk 7 (by kernel_rfl) ?_
    have zq39 := zq38.trans hle6
    replace hkk_t := hkk_t.mono zq39
    obtain ⟨p59, vs59, x59, ho59, hd59, hm_x59, ht59, hcv59, hl59, hv59⟩ := hkk_t.nth (k := y) (by omega)
    cases ho59
    obtain ⟨⟨oK59, cK59, oA59, cA59⟩, rfl, ⟨hik59, hin59⟩, hkk59, haa59⟩ := hv59.open_
    dsimp only at hkk59 haa59
    have hbg59 := hkk59.big; have hcp59 := hkk59.cap; have hbh59 := haa59.big; have hcq59 := haa59.cap
    rw [hd59, Zx] at hlen_ou
    have hln9 : (tkC t).length = ou.length + ((tkC x59).length + (Zx (t.kids.drop (y + 1))).length + (zAN t.arms).length) := by rw [hlen_ou]; simp; omega
    replace h_t := h_t.mono zq39
    replace haa_t := haa_t.mono zq39
    have zq40 := hle5.trans hle6
    replace hsl_out := hsl_out.mono zq40
    replace hc1 := hc1.mono hle6
    replace hsl_ou := hsl_ou.mono hle6
    refine za (tch := []) hst6 hfr6 (by kernel_rfl) (by kernel_rfl) (by kernel_rfl) (.cons rfl (zD rfl) <| .cons rfl (zA (off := 4) rfl underlying46 rfl rfl sizeOf43 rfl) <| .cons rfl (zE rfl hc1 isAgg43 rfl) <| .cons rfl (zD rfl) <| .cons rfl (zI (k := y) rfl rfl underlying43 sizeOf46 rfl (by omega)) <| .cons rfl (zN rfl hcv59 isAgg46 sizeOf46 rfl rfl) <| .cons rfl (zi (φ := MP.strs (tkC x59)) rfl (.cons rfl <| .nil) call27 (fun w m hK => by have hle_ := KC.le hK; have hA := KC.agree hK; have h_t := h_t.mono hle_; have hkk_t := hkk_t.mono hle_; have haa_t := haa_t.mono hle_; have hc1 := hc1.mono hle_; have hsl_out := hsl_out.mono hle_; have hsl_ou := hsl_ou.mono hle_; have hcv59 := hcv59.mono hle_; have hv59 := hv59.mono hle_; have hkk59 := hkk59.mono hle_; have haa59 := haa59.mono hle_; exact FnG.mono (ihk _ (by assumption) hA hv59 (by omega)) fun _ _ _ _ h => h)) <| .nil) fun a7 w7 m7 hst7 hle7 hk7 => ?_
    have hfr7 := hk7.fr (.o 3 <| .o 4 <| .o 1 <| .n 37 <| .nil)
    obtain ⟨⟨oN, cN⟩, e60, hN⟩ := hk7.ex 43 rfl
    replace hfr7 := hfr7.cons e60
    clear hst6 hfr6 hk7
    dsimp only [MP.strs, MP.mem] at hN
    refine za (tch := [(0, 0, (fun v => .rowx (nz v) _ _ _ _))]) hst7 hfr7 (by kernel_rfl) (by kernel_rfl) (by kernel_rfl) (.consT rfl rfl (fun _ => rfl) rfl (ZC (size := 1) (bytes := 16) (l := ou) (l' := (tkC x59)) rfl rfl (fun _ => by first | exact .inl rfl | exact .inr (.inl rfl)) underlying27 type9 rfl rfl rfl rfl (fun w m hK => hN.mono (KC.le hK)) rfl (by decide) (by simp only [maxLen]; omega) (by omega)) <| .consA 44 rfl rfl <| .nil) fun a8 w8 m8 hst8 hle8 hk8 => ?_
    have hfr8 := hk8.fr (.o 4 <| .o 1 <| .o 37 <| .o 43 <| .nil)
    obtain ⟨⟨out_61o, out_61p⟩, e62, hsl_out_61⟩ := hk8.ex 44 rfl
    replace hfr8 := hfr8.cons e62
    replace hfr8 := hfr8.cons (hk8.same 3 rfl e62)
    replace hst8 := hst8.fin (L' := [_]) (.cons e62 <| .nil)
    clear hst7 hfr7 hk8
    replace hsl_out_61 : Strs m8 out_61o (ou ++ (tkC x59)).length out_61p (ou ++ (tkC x59)) := hsl_out_61
    refine hK58 _ _ ?_
    refine rp0 hst8 hfr8 (.cons rfl (zD rfl) <| .cons rfl (zh rfl rfl ⟨by omega, by omega⟩) <| .cons rfl (zC rfl) <| .nil) fun a9 w9 m9 hst9 hle9 hk9 => ?_
    have hfr9 := hk9.fr (.o 1 <| .o 3 <| .n 4 <| .nil)
    clear hst8 hfr8 hk9
    replace hsl_out_61 := hsl_out_61.mono hle9
    have zq41 := hle8.trans hle9
    have zq42 := hle7.trans zq41
    have zq43 := hle6.trans zq42
    have hlh9 := hlh5.trans zq43
    exact ⟨(y + 1, out_61o, out_61p, (ou ++ (tkC x59))), m9, by show t.kids.length - (y + 1) < t.kids.length - y; omega, ⟨hst9, hlh9, hfr9.sub (.c <| .c <| .c <| .nil), ⟨by show y + 1 ≤ t.kids.length; omega, hsl_out_61, by rw [hlen_ou]; simp⟩⟩⟩
   ·try simp only [nqs] at hb34
    have hge : y = t.kids.length := by omega
    rw [List.drop_of_length_le (by omega), Zx, List.nil_append] at hlen_ou
    refine zb ?_
    refine hK53 _ _ ?_
    refine zB fun _ hK63 => ?_
    refine zB fun _ hK64 => ?_
    refine rp0 hst6 hfr6 (.cons rfl (zC rfl) <| .nil) fun a7 w7 m7 hst7 hle7 hk7 => ?_
    have hfr7 := hk7.fr (.o 3 <| .o 4 <| .o 1 <| .n 5 <| .nil)
    clear hst6 hfr6 hk7
    refine hK64 _ _ ?_
    refine zK ?_
    have zq44 := hle6.trans hle7
    have hlh7 := hlh5.trans zq44
    have hlq65 := hlh7
    replace hsl_ou := hsl_ou.mono zq44
    refine zZ (T := [(4, _), (1, _)]) (fun (y : Nat × Option Addr × Nat × List Str) => ([(3, .slice y.2.1 y.2.2.2.length y.2.2.1), (5, .int .i64 (y.1 : Int))] : List (Nat × Value))) (fun y => [.rowx (nz (.slice y.2.1 y.2.2.2.length y.2.2.1)) y.2.2.2.length 1 9 (MP.reads (fun _ vs (x : Str) => vs = [S x]) 1 y.2.2.2)]) (fun (y : Nat × Option Addr × Nat × List Str) m => (fun (y : Nat) (ovo : Option Addr) (ovp : Nat) (ov : List Str) => (y ≤ t.arms.length) ∧ (Strs m ovo ov.length ovp ov) ∧ (tkC t = ov ++ zAN (t.arms.drop y))) y.1 y.2.1 y.2.2.1 y.2.2.2) (fun y => t.arms.length - y.1) ((0, ouo, oup, ou)) ⟨hst7, MLe.refl _, hfr7.sub (.c <| .c <| .c <| .c <| .nil), ⟨Nat.zero_le _, hsl_ou, hlen_ou⟩⟩ fun y a8 w8 m8 hh8 => ?_
    have hst8 := hh8.st; have hle8 := hh8.le; have hfr8 := hh8.fr; have hrel := hh8.rel; clear hh8
    clear hst7 hfr7
    obtain ⟨y, ovo, ovp, ov⟩ := y
    dsimp only at hrel hfr8 hst8
    obtain ⟨hyn, hsl_ov, hlen_ov⟩ := hrel
    have hlh8 := hle8
    refine zB fun _ hK66 => ?_
    refine zB fun _ hK67 => ?_
    have zq45 := zq44.trans hle8
    replace hc1 := hc1.mono zq45
    refine rp0 hst8 hfr8 (.cons rfl (zD rfl) <| .cons rfl (zA (off := 5) rfl underlying46 rfl rfl sizeOf44 rfl) <| .cons rfl (zE rfl hc1 isAgg44 rfl) <| .cons rfl (zX rfl underlying44) <| .cons rfl (zt rfl rfl) <| .nil) fun a9 w9 m9 hst9 hle9 hk9 => ?_
    have hfr9 := hk9.fr (.o 3 <| .o 5 <| .o 4 <| .o 1 <| .n 49 <| .nil)
    clear hst8 hfr8 hk9
    refine hK67 _ _ ?_
    refine zG hfr9 rfl rfl (fun hb49 => ?_) (fun hb49 => ?_)
    ·try simp only [nqs] at hb49
     refine zJ ?_
     refine hK66 _ _ ?_
     refine zB fun _ hK68 => ?_
     refine zK ?_
     refine zk 8 (by kernel_rfl) ?_
     have zq46 := zq45.trans hle9
     have zq47 := zq38.trans zq46
     replace haa_t := haa_t.mono zq47
     obtain ⟨p69, vs69, x69, ho69, hd69, hm_x69, ht69, hcv69, hl69, hv69⟩ := haa_t.nth (k := y) (by omega)
     cases ho69
     obtain ⟨oV69, cV69, bs69, rfl, hva69, hbd69⟩ := hv69.open_
     have hbv69 := hva69.big; have hcv69_ := hva69.cap
     obtain ⟨⟨oK69b, cK69b, oA69b, cA69b⟩, rfl, ⟨hik69b, hin69b⟩, hkk69b, haa69b⟩ := hbd69.open_
     dsimp only at hkk69b haa69b
     have hbg69b := hkk69b.big; have hcp69b := hkk69b.cap; have hbh69b := haa69b.big; have hcq69b := haa69b.cap
     rw [hd69, zBA] at hlen_ov
     have hln9 : (tkC t).length = ov.length + ((tkC x69.body).length + (zAN (t.arms.drop (y + 1))).length) := by rw [hlen_ov]; simp <;> omega
     replace h_t := h_t.mono zq47
     replace hkk_t := hkk_t.mono zq47
     have zq48 := hle5.trans zq46
     replace hsl_out := hsl_out.mono zq48
     have zq49 := hle8.trans hle9
     replace hsl_ou := hsl_ou.mono zq49
     replace hc1 := hc1.mono hle9
     replace hsl_ov := hsl_ov.mono hle9
     refine za (tch := []) hst9 hfr9 (by kernel_rfl) (by kernel_rfl) (by kernel_rfl) (.cons rfl (zD rfl) <| .cons rfl (zA (off := 5) rfl underlying46 rfl rfl sizeOf44 rfl) <| .cons rfl (zE rfl hc1 isAgg44 rfl) <| .cons rfl (zD rfl) <| .cons rfl (zI (k := y) rfl rfl underlying44 sizeOf78 rfl (by omega)) <| .cons rfl (zA (off := 3) rfl underlying78 rfl rfl sizeOf46 rfl) <| .cons rfl (ZU rfl hcv69 isAgg46 sizeOf46 rfl rfl) <| .cons rfl (zi (φ := MP.strs (tkC x69.body)) rfl (.cons rfl <| .nil) call27 (fun w m hK => by have hle_ := KC.le hK; have hA := KC.agree hK; have h_t := h_t.mono hle_; have hkk_t := hkk_t.mono hle_; have haa_t := haa_t.mono hle_; have hc1 := hc1.mono hle_; have hsl_out := hsl_out.mono hle_; have hsl_ou := hsl_ou.mono hle_; have hsl_ov := hsl_ov.mono hle_; have hcv69 := hcv69.mono hle_; have hv69 := hv69.mono hle_; have hva69 := hva69.mono hle_; have hbd69 := hbd69.mono hle_; have hkk69b := hkk69b.mono hle_; have haa69b := haa69b.mono hle_; exact FnG.mono (iha _ (by assumption) hA hbd69 (by omega)) fun _ _ _ _ h => h)) <| .nil) fun a10 w10 m10 hst10 hle10 hk10 => ?_
     have hfr10 := hk10.fr (.o 3 <| .o 5 <| .o 4 <| .o 1 <| .n 52 <| .nil)
     obtain ⟨⟨oN, cN⟩, e70, hN⟩ := hk10.ex 59 rfl
     replace hfr10 := hfr10.cons e70
     clear hst9 hfr9 hk10
     dsimp only [MP.strs, MP.mem] at hN
     refine za (tch := [(0, 0, (fun v => .rowx (nz v) _ _ _ _))]) hst10 hfr10 (by kernel_rfl) (by kernel_rfl) (by kernel_rfl) (.consT rfl rfl (fun _ => rfl) rfl (ZC (size := 1) (bytes := 16) (l := ov) (l' := (tkC x69.body)) rfl rfl (fun _ => by first | exact .inl rfl | exact .inr (.inl rfl)) underlying27 type9 rfl rfl rfl rfl (fun w m hK => hN.mono (KC.le hK)) rfl (by decide) (by simp only [maxLen]; omega) (by omega)) <| .consA 60 rfl rfl <| .nil) fun a11 w11 m11 hst11 hle11 hk11 => ?_
     have hfr11 := hk11.fr (.o 5 <| .o 4 <| .o 1 <| .o 52 <| .o 59 <| .nil)
     obtain ⟨⟨out_71o, out_71p⟩, e72, hsl_out_71⟩ := hk11.ex 60 rfl
     replace hfr11 := hfr11.cons e72
     replace hfr11 := hfr11.cons (hk11.same 3 rfl e72)
     replace hst11 := hst11.fin (L' := [_]) (.cons e72 <| .nil)
     clear hst10 hfr10 hk11
     replace hsl_out_71 : Strs m11 out_71o (ov ++ (tkC x69.body)).length out_71p (ov ++ (tkC x69.body)) := hsl_out_71
     refine hK68 _ _ ?_
     refine rp0 hst11 hfr11 (.cons rfl (zD rfl) <| .cons rfl (zh rfl rfl ⟨by omega, by omega⟩) <| .cons rfl (zC rfl) <| .nil) fun a12 w12 m12 hst12 hle12 hk12 => ?_
     have hfr12 := hk12.fr (.o 4 <| .o 1 <| .o 3 <| .n 5 <| .nil)
     clear hst11 hfr11 hk12
     replace hsl_out_71 := hsl_out_71.mono hle12
     have zq50 := hle11.trans hle12
     have zq51 := hle10.trans zq50
     have zq52 := hle9.trans zq51
     have hlh12 := hlh8.trans zq52
     exact ⟨(y + 1, out_71o, out_71p, (ov ++ (tkC x69.body))), m12, by show t.arms.length - (y + 1) < t.arms.length - y; omega, ⟨hst12, hlh12, hfr12.sub (.c <| .c <| .c <| .c <| .nil), ⟨by show y + 1 ≤ t.arms.length; omega, hsl_out_71, by rw [hlen_ov]; simp⟩⟩⟩
    ·try simp only [nqs] at hb49
     have hge : y = t.arms.length := by omega
     rw [List.drop_of_length_le (by omega), zAN, List.append_nil] at hlen_ov
     refine zb ?_
     refine hK63 _ _ ?_
     refine zB fun _ hK73 => ?_
     refine rp0 hst9 hfr9 (.cons rfl (zD rfl) <| .cons rfl (zC rfl) <| .nil) fun a10 w10 m10 hst10 hle10 hk10 => ?_
     have hfr10 := hk10.fr (.o 3 <| .o 5 <| .o 4 <| .n 2 <| .nil)
     clear hst9 hfr9 hk10
     refine hK73 _ _ ?_
     refine zL ?_
     repeat (with_reducible first | refine zH ?_ | refine zF ?_)
     have zq53 := hle9.trans hle10
     replace hsl_ov := hsl_ov.mono zq53
     exact zM hst10 hfr10 rfl (.tmp rfl <| .nil) (⟨(_, _), by rw [hlen_ov]; rfl, by rw [hlen_ov]; exact hsl_ov⟩)
theorem taken_c (t : Cd) : zDo t := Cd.rec_ (p := zDo) (fun t ihk iha => taken_s ihk iha) t
end Go.Proofs.YtmdhhjmomilhjaaDoor
namespace Go.Proofs.YtmdhhjmomilhjaaDoor
set_option linter.all false
set_option maxRecDepth 4000
open Go.RowKit
open Go.Lib (itoa decDigits)
theorem byte_nat {k : Nat} (h : k < 10) : (UInt8.ofNat (48 + k)).toNat = 48 + k := by
 rw [UInt8.toNat_ofNat']; omega
theorem dec_ne (n : Nat) : decDigits n ≠ [] := by rw [dec_eq]; split <;> simp
theorem byte_inj {j k : Nat} (hj : j < 10) (hk : k < 10) (h : UInt8.ofNat (48 + j) = UInt8.ofNat (48 + k)) : j = k := by
 have h1 := byte_nat hj; have h2 := byte_nat hk; rw [h] at h1; omega
theorem dec_inj (n : Nat) : ∀ m, decDigits n = decDigits m → n = m := by
 induction n using Nat.strongRecOn with
 | ind n ih =>
  intro m h
  rw [dec_eq n, dec_eq m] at h
  split at h <;> split at h
  ·simp only [List.cons.injEq, and_true] at h; exact byte_inj (by omega) (by omega) h
  ·have := congrArg List.length h
   simp only [List.length_append, List.length_cons, List.length_nil] at this
   have h2 := dec_ne (m / 10)
   have := List.length_pos_iff.2 h2; omega
  ·have := congrArg List.length h
   simp only [List.length_append, List.length_cons, List.length_nil] at this
   have h2 := dec_ne (n / 10)
   have := List.length_pos_iff.2 h2; omega
  ·obtain ⟨h1, h2⟩ := List.append_inj' h rfl
   have e1 := ih (n / 10) (by omega) _ h1
   simp only [List.cons.injEq, and_true] at h2
   have e2 := byte_inj (by omega) (by omega) h2
   omega
theorem nameQ_inj {a b : Nat} (h : ZS a = ZS b) : a = b := by
 unfold ZS at h
 injection h with _ h
 exact dec_inj _ _ h
theorem nameQ_bare (n : Nat) : Z6 (ZS n) = true := by unfold Z6 ZS; simp
structure TkOk (l : List Str) (n m : Nat) : Prop where
 nd : l.Nodup
 in_ : ∀ s ∈ l, ∃ j, n < j ∧ j ≤ m ∧ s = ZS j
 le : n ≤ m
theorem TkOk.nil (n : Nat) : TkOk [] n n := ⟨List.nodup_nil, fun s h => (nomatch h), Nat.le_refl _⟩
theorem TkOk.app {l k : List Str} {n m q : Nat} (h : TkOk l n m) (h2 : TkOk k m q) : TkOk (l ++ k) n q := by
 refine ⟨?_, fun s hs => ?_, Nat.le_trans h.le h2.le⟩
 ·rw [List.nodup_append]
  refine ⟨h.nd, h2.nd, fun a ha b hb e => ?_⟩
  obtain ⟨i, h3, h4, e1⟩ := h.in_ a ha
  obtain ⟨j, h5, h6, e2⟩ := h2.in_ b hb
  have := nameQ_inj (e1.symm.trans (e.trans e2)); omega
 ·rcases List.mem_append.1 hs with hs | hs
  ·obtain ⟨i, h3, h4, e1⟩ := h.in_ s hs; have := h2.le; exact ⟨i, h3, by omega, e1⟩
  ·obtain ⟨i, h3, h4, e1⟩ := h2.in_ s hs; have := h.le; exact ⟨i, by omega, h4, e1⟩
theorem TkOk.one {l : List Str} {n m : Nat} (h : TkOk l n m) : TkOk (ZS (m + 1) :: l) n (m + 1) := by
 refine ⟨List.nodup_cons.2 ⟨fun hm => ?_, h.nd⟩, fun s hs => ?_, by have := h.le; omega⟩
 ·obtain ⟨i, h3, h4, e1⟩ := h.in_ _ hm; have := nameQ_inj e1; omega
 ·rcases List.mem_cons.1 hs with rfl | hs
  ·exact ⟨m + 1, by have := h.le; omega, Nat.le_refl _, rfl⟩
  ·obtain ⟨i, h3, h4, e1⟩ := h.in_ s hs; exact ⟨i, h3, by omega, e1⟩
def TkG (g : Gen) (t : Tm) : Prop := ∀ n, TkOk (tkC (g t n).1) n (g t n).2
theorem tkKs_app (l k : List Cd) : Zx (l ++ k) = Zx l ++ Zx k := by
 induction l with
 | nil => rfl
 | cons x l ih => rw [List.cons_append, Zx, Zx, ih, List.append_assoc]
theorem tk_var (s : Str) : tkC (zCQ s) = [] := by
 rw [zBz]; unfold tkH
 rw [if_neg (by show ¬ (decide ((1 : Int) = 7 ∨ (1 : Int) = 8) && Z6 s) = true; simp)]; rfl
theorem tk_cd2 {k : Int} {s p : Str} {a b : Cd} : tkC (cd2 k s p a b) = (if (decide (k = 7 ∨ k = 8) && Z6 s) = true then [s] else []) ++ (tkC a ++ tkC b) := by
 rw [zBz]; show tkH (cd2 k s p a b) ++ ((tkC a ++ (tkC b ++ Zx [])) ++ zAN []) = _
 have e : tkH (cd2 k s p a b) = (if (decide (k = 7 ∨ k = 8) && Z6 s) = true then [s] else []) := rfl
 rw [e]; simp [Zx, zAN]
theorem seq_tk {g : Gen} : ∀ (l : List Tm) (n : Nat), (∀ u ∈ l, TkG g u) → TkOk (Zx (zDD g l n)) n (zEE g l n)
 | [], n, _ => TkOk.nil n
 | t :: ts, n, h => by rw [zDD, zEE, Zx]; exact (h t (.head _) n).app (seq_tk ts _ fun u hu => h u (.tail _ hu))
theorem arm_tk {g : Gen} : ∀ (l : List Ar) (n : Nat), (∀ u ∈ l, TkG g u.body) → TkOk (zAN (zDh g l n)) n (zDI g l n)
 | [], n, _ => TkOk.nil n
 | t :: ts, n, h => by rw [zDh, zDI, zBA]; exact (h t (.head _) n).app (arm_tk ts _ fun u hu => h u (.tail _ hu))
theorem pro_tk {tl : Bool} {g : Gen} : ∀ (l : List Ar) (i n : Nat), (∀ u ∈ l, ∀ i, TkG g (Zv tl i u)) → TkOk (zAN (zCd tl g i l n)) n (zDl tl g i l n)
 | [], _, n, _ => TkOk.nil n
 | t :: ts, i, n, h => by rw [zCd, zDl, zBA]; exact (h t (.head _) i n).app (pro_tk ts _ _ fun u hu => h u (.tail _ hu))
theorem TkOk.perm {l k : List Str} {n m : Nat} (h : TkOk l n m) (hp : l.Perm k) : TkOk k n m := ⟨hp.nodup_iff.1 h.nd, fun s hs => h.in_ s (hp.mem_iff.2 hs), h.le⟩
def bdN (l : List Bd) : List Str := l.flatMap fun b => b.name :: tkC b.code
theorem around_tk : ∀ (bl : List Bd) (c : Cd), (∀ b ∈ bl, (b.kind = 7 ∨ b.kind = 8) ∧ Z6 b.name = true) → tkC (ZT bl c) = bdN bl ++ tkC c
 | [], c, _ => rfl
 | b :: bl, c, h => by
  obtain ⟨h1, h2⟩ := h b (.head _)
  rw [ZT, tk_cd2, around_tk bl c fun x hx => h x (.tail _ hx), if_pos (by simp [h1, h2])]
  show [b.name] ++ (tkC b.code ++ (bdN bl ++ tkC c)) = (b.name :: tkC b.code) ++ bdN bl ++ tkC c
  simp
def kidT (g : Gen) (t : Tm) (n : Nat) : List Str := if Zl t then tkC (g t n).1 else ZS ((g t n).2 + 1) :: tkC (g t n).1
def zEX (g : Gen) : List Tm → Nat → List Str
 | [], _ => []
 | t :: ts, n => kidT g t n ++ zEX g ts (zBG g t n)
theorem take_tk {g : Gen} : ∀ (l : List Tm) (n : Nat), (∀ u ∈ l, TkG g u) → TkOk (zEX g l n) n (Z3 g l n)
 | [], n, _ => TkOk.nil n
 | t :: ts, n, h => by
  rw [zEX, Z3]
  refine TkOk.app ?_ (take_tk ts _ fun u hu => h u (.tail _ hu))
  have h1 := h t (.head _) n
  unfold kidT zBG
  split
  ·exact h1
  ·exact h1.one
theorem take_perm {sel : Bool} {g : Gen} : ∀ (l : List Tm) (n : Nat), (zEX g l n).Perm (bdN (Zn sel g l n) ++ Zx (Zc g l n))
 | [], n => List.Perm.refl _
 | t :: ts, n => by
  have ih := take_perm (sel := sel) ts (zBG g t n) (g := g)
  rw [zEX, Zn, Zc, Zx]
  unfold kidT kidB kidA
  split
  ·show (tkC (g t n).1 ++ zEX g ts (zBG g t n)).Perm (bdN ([] ++ Zn sel g ts (zBG g t n)) ++ (tkC (g t n).1 ++ Zx (Zc g ts (zBG g t n))))
   rw [List.nil_append]
   exact (List.Perm.append_left _ ih).trans (by
    rw [← List.append_assoc, ← List.append_assoc]
    exact List.Perm.append_right _ List.perm_append_comm)
  ·rw [tk_var, List.nil_append]
   show ((ZS ((g t n).2 + 1) :: tkC (g t n).1) ++ zEX g ts (zBG g t n)).Perm (bdN ([⟨zAR sel t, ZS ((g t n).2 + 1), (g t n).1⟩] ++ Zn sel g ts (zBG g t n)) ++ Zx (Zc g ts (zBG g t n)))
   have e : bdN ([⟨zAR sel t, ZS ((g t n).2 + 1), (g t n).1⟩] ++ Zn sel g ts (zBG g t n)) = (ZS ((g t n).2 + 1) :: tkC (g t n).1) ++ bdN (Zn sel g ts (zBG g t n)) := by unfold bdN; simp
   rw [e, List.append_assoc]
   exact List.Perm.append_left _ ih
theorem bare_kid {t u : Tm} (h : zAa t = false) (hu : u ∈ t.kids) : zAa u = false := by
 rw [zCz] at h
 simp only [Bool.or_eq_false_iff] at h
 have key : ∀ l : List Tm, zAA l = false → u ∈ l → zAa u = false := by
  intro l
  induction l with
  | nil => intro _ h; cases h
  | cons x l ih => intro h hu; rw [zAA, Bool.or_eq_false_iff] at h; rcases List.mem_cons.1 hu with rfl | hu; exact h.1; exact ih h.2 hu
 exact key _ h.2.1 hu
theorem bare_arm {t : Tm} {a : Ar} (h : zAa t = false) (ha : a ∈ t.arms) : zAa a.body = false := by
 rw [zCz] at h
 simp only [Bool.or_eq_false_iff] at h
 have key : ∀ l : List Ar, zAL l = false → a ∈ l → zAa a.body = false := by
  intro l
  induction l with
  | nil => intro _ h; cases h
  | cons x l ih => intro h hu; rw [zAr, Bool.or_eq_false_iff] at h; rcases List.mem_cons.1 hu with rfl | hu; exact h.1; exact ih h.2 hu
 exact key _ h.2.2 ha
theorem bare_here {t : Tm} (h : zAa t = false) : Z6 t.name = false := by rw [zCz] at h; simp only [Bool.or_eq_false_iff] at h; exact h.1
theorem bare_pro {tl : Bool} {i : Nat} {a : Ar} (h : zAa a.body = false) : zAa (Zv tl i a) = false := by
 unfold Zv
 split
 ·rename_i hp; unfold zCE at hp; simp only [Bool.and_eq_true] at hp
  obtain ⟨u, hu, e⟩ := last_sub hp.1.1
  rw [e]; exact bare_kid h hu
 ·exact h
theorem outK_no {k : Int} : zAZ k ≠ 7 ∧ zAZ k ≠ 8 := by unfold zAZ; (repeat' split) <;> omega
theorem low_tk (sel tl : Bool) : ∀ (f : Nat) (t : Tm), LwT t → zAa t = false → zO t ≤ f → TkG (zT sel tl f) t
 | 0, t, _, _, hc => by have := zr t; omega
 | f + 1, t, hl, hb, hc => by
  have hce := zr t
  have hks : ∀ u ∈ t.kids, TkG (zT sel tl f) u := fun u hu => low_tk sel tl f u (hl.kid hu) (bare_kid hb hu) (by have := ZF hu; omega)
  have has : ∀ u ∈ t.arms, TkG (zT sel tl f) u.body := fun u hu => low_tk sel tl f u.body (hl.arm hu) (bare_arm hb hu) (by have := Zg hu; omega)
  have hps : ∀ a ∈ t.arms, ∀ i, TkG (zT sel tl f) (Zv tl i a) := fun a ha i => by
   have h1 := zDu (tl := tl) (i := i) (hl.arm ha)
   exact low_tk sel tl f (Zv tl i a) h1.1 (bare_pro (bare_arm hb ha)) (by have := Zg ha; omega)
  have hbn := bare_here hb
  intro n
  rw [show zT sel tl (f + 1) t n = ZW sel tl (zT sel tl f) t n from rfl]
  generalize zT sel tl f = g at hks has hps
  rcases low_cases hl with ⟨hk, ⟨x, y, e⟩, e2⟩ | ⟨hk, ⟨x, y, e⟩, e2⟩ | ⟨hk, x, e⟩ | ⟨hk, ⟨x, e⟩, e2⟩ | ⟨hk, e, e2⟩ | hc
  ·rw [body7 hk, zDV e, kid_1 e]; rw [e] at hks
   dsimp only
   rw [tk_cd2, if_neg (by simp [hbn]), List.nil_append]
   exact (hks x (.head _) n).app (hks y (.tail _ (.head _)) _)
  ·rw [body8 hk, zDV e, kid_1 e]; rw [e] at hks
   dsimp only
   rw [tk_cd2, if_neg (by simp), List.nil_append]
   exact (hks x (.head _) n).app (hks y (.tail _ (.head _)) _)
  ·rw [zDQ hk, zDV e]; rw [e] at hks
   dsimp only
   rw [zBz, show tkH ⟨15, t.name, [], 0, [(g x n).1], zCd tl g 0 t.arms (g x n).2⟩ = [] from by unfold tkH; rw [if_neg (by show ¬ (decide ((15 : Int) = 7 ∨ (15 : Int) = 8) && Z6 t.name) = true; simp)], List.nil_append]
   show TkOk ((tkC (g x n).1 ++ Zx []) ++ zAN (zCd tl g 0 t.arms (g x n).2)) n _
   rw [Zx, List.append_nil]
   exact (hks x (.head _) n).app (pro_tk t.arms 0 _ hps)
  ·rw [body5 hk, zDV e]; rw [e] at hks
   dsimp only
   rw [zBz, show tkH ⟨5, t.name, [], 0, [(g x n).1], []⟩ = [] from by unfold tkH; rw [if_neg (by show ¬ (decide ((5 : Int) = 7 ∨ (5 : Int) = 8) && Z6 t.name) = true; simp)], List.nil_append]
   show TkOk ((tkC (g x n).1 ++ Zx []) ++ zAN []) n _
   rw [Zx, zAN, List.append_nil, List.append_nil]
   exact hks x (.head _) n
  ·rw [zEA hk]
   dsimp only
   rw [zBz]
   have h0 : ∀ s p v, tkH ⟨t.kind, s, p, v, [], []⟩ = [] := fun s p v => by unfold tkH; rw [if_neg (by show ¬ (decide (t.kind = 7 ∨ t.kind = 8) && Z6 s) = true; simp; omega)]
   rw [h0, List.nil_append]
   exact TkOk.nil n
  ·have hk7 : t.kind = 0 ∨ t.kind = 6 ∨ t.kind = 9 ∨ t.kind = 10 ∨ t.kind = 11 ∨ t.kind = 12 ∨ t.kind = 13 := by rcases hc with ⟨h, _⟩ | ⟨h, _⟩ <;> omega
   rw [body_core hk7]
   dsimp only
   have h1 := take_tk (t.kids.take (zq t)) n fun u hu => hks u (List.mem_of_mem_take hu)
   have h2 := seq_tk (t.kids.drop (zq t)) (Z3 g (t.kids.take (zq t)) n) fun u hu => hks u (List.mem_of_mem_drop hu)
   have h3 := arm_tk t.arms (zCU g t n) has
   have h4 := (h1.perm (take_perm (sel := sel) _ n)).app (h2.app h3)
   rw [around_tk _ _ fun b hb => by obtain ⟨u, _, m, _, rfl⟩ := takeB_mem hb; exact ⟨bindK_two sel u, nameQ_bare _⟩, zBz,
    show tkH (zBq g t n) = [] from by unfold tkH; rw [if_neg (by show ¬ (decide (zAZ t.kind = 7 ∨ zAZ t.kind = 8) && Z6 (zCp t)) = true; simp [outK_no.1, outK_no.2])], List.nil_append,
    show Zx (zBq g t n).kids = Zx (Zc g (t.kids.take (zq t)) n) ++ Zx (zDD g (t.kids.drop (zq t)) (Z3 g (t.kids.take (zq t)) n)) from tkKs_app _ _]
   have e : ∀ (a b c d : List Str), (a ++ b) ++ (c ++ d) = a ++ ((b ++ c) ++ d) := fun a b c d => by simp
   rw [e] at h4
   exact h4
theorem tk_size (t : Cd) : (tkC t).length ≤ szC t := by
 induction t using Cd.rec_ with
 | h t ihk iha =>
  have hk : ∀ l : List Cd, (∀ u ∈ l, u ∈ t.kids) → (Zx l).length ≤ zBl l := by
   intro l
   induction l with
   | nil => intro _; simp [Zx]
   | cons u l ih => intro hl; rw [Zx, zBl, List.length_append]; have := ihk u (hl u (.head _)); have := ih (fun u hu => hl u (.tail _ hu)); omega
  have ha : ∀ l : List Ca, (∀ u ∈ l, u ∈ t.arms) → (zAN l).length ≤ zDA l := by
   intro l
   induction l with
   | nil => intro _; simp [zAN]
   | cons u l ih => intro hl; rw [zBA, zDK, List.length_append]; have := iha u (hl u (.head _)); have := ih (fun u hu => hl u (.tail _ hu)); omega
  rw [zBz, zBg, List.length_append, List.length_append]
  have h1 := hk t.kids (fun _ h => h); have h2 := ha t.arms (fun _ h => h)
  have h3 : (tkH t).length ≤ 1 := by unfold tkH; split <;> simp
  omega
theorem nodup_at {l : List Str} (h : l.Nodup) {i j : Nat} {x y : Str} (hx : l[i]? = some x) (hy : l[j]? = some y) (hij : j < i) : x ≠ y := by
 intro e
 subst e
 have hi := List.getElem?_eq_some_iff.1 hx; have hj := List.getElem?_eq_some_iff.1 hy
 obtain ⟨hi1, hi2⟩ := hi; obtain ⟨hj1, hj2⟩ := hj
 exact (List.pairwise_iff_getElem.1 h) j i hj1 hi1 hij (hj2.trans hi2.symm)
end Go.Proofs.YtmdhhjmomilhjaaDoor
namespace Go.Proofs.YtmdhhjmomilhjaaDoor
open Go.Proofs.Tryd
set_option linter.all false
set_option maxRecDepth 4000
open Go.RowKit
theorem lowT_sz (sel tl : Bool) {t : Tm} (h : LwT t) : szC (zCP sel tl t) + 2 ≤ 3 * zO t := low_sz sel tl _ t 0 h (Nat.le_refl _)
set_option maxHeartbeats 1600000 in
theorem lowerNames_c {w : World} {m : Mem} {p : Pg} {vs_p : List Value} {n : Int} {o_rl : Option Addr} {c_rl : Nat} {rl : List Rw} {sel tl : Bool} (hA : Agree w m) (h_p : PgR m p vs_p) (h_rl : Rws m o_rl rl.length c_rl rl) (hT : Tab w) (hbo : zAx p.effects ≤ 1000000000) (hbc : consN p.datas ≤ 1000000000) (hbd : p.datas.length ≤ 1000000000) (hB : ZA p.body ≤ 2100000) : FnV Tryd.prog 7 #[.agg vs_p.toArray, .int .i64 n, .slice o_rl rl.length c_rl, .agg #[.bool sel, .bool tl]] w m (fun _ _ v => v = .bool true) := by
 obtain ⟨oE_p, cE_p, oD_p, cD_p, bs_p, rfl, hef_p, hda_p, hpb_p⟩ := id h_p
 have hbe_p := hef_p.big; have hce_p := hef_p.cap; have hbda_p := hda_p.big; have hcd_p := hda_p.cap
 obtain ⟨⟨oK_pb, cK_pb, oA_pb, cA_pb, oR_pb, cR_pb, t0_pb, t1_pb, t2_pb, t3_pb, t4_pb, t5_pb, u0_pb, u1_pb, u2_pb, u3_pb, u4_pb, u5_pb⟩, rfl, hon_pb, hkk_pb, haa_pb, hrr_pb⟩ := hpb_p.open_
 dsimp only at hkk_pb haa_pb hrr_pb
 have hbg_pb := hkk_pb.big; have hcp_pb := hkk_pb.cap; have hbh_pb := haa_pb.big; have hcq_pb := haa_pb.cap
 have hb_rl := h_rl.big; have hc_rl := h_rl.cap
 refine zW (vs := [_, _, _, _]) func7 rfl rfl rfl fun a0 hfr0 => ?_
 have hst0 := zV hA (zj [] _ w m)
 have hM : MLe m m := MLe.refl m
 refine zB fun _ hK1 => ?_
 refine rp0 hst0 hfr0 (.cons rfl (zx rfl rfl) <| .cons rfl (zx rfl rfl) <| .cons rfl (zC rfl) <| .nil) fun a1 w1 m1 hst1 hle1 hk1 => ?_
 have hfr1 := hk1.fr (.o 1 <| .o 2 <| .nil)
 obtain ⟨g2, e2, hc4⟩ := hk1.ex 4 rfl
 replace hfr1 := hfr1.cons e2
 obtain ⟨g3, e3, hc7⟩ := hk1.ex 7 rfl
 replace hfr1 := hfr1.cons e3
 replace h_p := h_p.mono hle1
 replace h_rl := h_rl.mono hle1
 clear hst0 hfr0 hk1
 refine hK1 _ _ ?_
 refine zB fun _ hK4 => ?_
 refine rp0 hst1 hfr1 (.cons rfl (zg rfl (.nil) call9 (fun w m hK => by have hle_ := KC.le hK; have hA := KC.agree hK; have hT := zCy hT hK.st.ext; exact shown_c hA hT)) <| .cons rfl (zC rfl) <| .nil) fun a2 w2 m2 hst2 hle2 hk2 => ?_
 have hfr2 := hk2.fr (.o 1 <| .o 2 <| .o 4 <| .o 7 <| .n 9 <| .nil)
 replace h_p := h_p.mono hle2
 replace h_rl := h_rl.mono hle2
 replace hc4 := hc4.mono hle2
 replace hc7 := hc7.mono hle2
 clear hst1 hfr1 hk2
 refine hK4 _ _ ?_
 refine zB fun _ hK5 => ?_
 refine zk 4 (by kernel_rfl) ?_
 refine za (tch := []) hst2 hfr2 (by kernel_rfl) (by kernel_rfl) (by kernel_rfl) (.cons rfl (zN rfl hc4 isAgg35 sizeOf35 rfl rfl) <| .cons rfl (zD rfl) <| .cons rfl (zD rfl) <| .cons rfl (zi (φ := MP.someV 2100000) rfl (.cons rfl <| .cons rfl <| .cons rfl <| .nil) call10 (fun w m hK => by have hle_ := KC.le hK; have hA := KC.agree hK; have h_p := h_p.mono hle_; have h_rl := h_rl.mono hle_; exact FnG.mono (some_c hA h_p h_rl hbo hbc hbd hB) fun _ _ _ _ h => h)) <| .nil) fun a3 w3 m3 hst3 hle3 hk3 => ?_
 have hfr3 := hk3.fr (.o 1 <| .o 2 <| .o 4 <| .o 7 <| .o 9 <| .nil)
 obtain ⟨⟨⟨xt, yt⟩, bt⟩, e6, ht, hlw, hct, hbt, hcl⟩ := hk3.ex 20 rfl
 replace hfr3 := hfr3.cons e6
 replace hc7 := hc7.mono hle3
 clear hst2 hfr2 hk3
 dsimp only at ht hlw hct hbt hcl
 replace hst3 := hst3.more (r := .free) trivial List.nodup_nil (by simp [Res.blocks])
 refine za (tch := [(3, 0, (fun v => .blk v _)), (4, 0, (fun v => .blk v _))]) hst3 hfr3 (by kernel_rfl) (by kernel_rfl) (by kernel_rfl) (.cons rfl (zD rfl) <| .cons rfl (zS rfl rfl) <| .cons rfl (zS rfl rfl) <| .consT rfl rfl (fun _ => rfl) rfl (zR zeroValue33 rfl) <| .consT rfl rfl (fun _ => rfl) rfl (zU 10 rfl rfl rfl fun y10 => zf rfl rfl rfl rfl rfl sizeOf33 rfl rfl ht.one) <| .cons rfl (zC rfl) <| .nil) fun a4 w4 m4 hst4 hle4 hk4 => ?_
 have hfr4 := hk4.fr (.o 1 <| .o 2 <| .o 4 <| .o 7 <| .o 9 <| .o 20 <| .n 11 <| .nil)
 obtain ⟨g7, e7, _⟩ := hk4.ex 10 rfl
 replace hfr4 := hfr4.cons e7
 replace hst4 := hst4.fin (L' := [_]) (.cons e7 <| .cons e7 <| .nil)
 try simp only [List.take_succ_cons, List.take_zero, List.drop_succ_cons, List.drop_zero, List.cons_append, List.nil_append, List.append_nil, List.length_cons, List.length_nil, Nat.zero_add, Nat.reduceAdd] at hst4
 replace hc7 := hc7.mono hle4
 replace ht := ht.mono hle4
 clear hst3 hfr3 hk4
 refine hK5 _ _ ?_
 refine zB fun _ hK8 => ?_
 refine zB fun _ hK9 => ?_
 refine rp0 hst4 hfr4 (.cons rfl (zD rfl) <| .cons rfl (Z1 rfl) <| .cons rfl (zD rfl) <| .cons rfl (ze (j := 0) rfl rfl isAgg33 sizeOf33 rfl) <| .cons rfl (zg rfl (.cons rfl <| .nil) call26 (fun w m hK => by have hle_ := KC.le hK; have hA := KC.agree hK; have ht := ht.mono hle_; exact bare_c xt hA ht)) <| .cons rfl (ZB rfl rfl rfl) <| .nil) fun a5 w5 m5 hst5 hle5 hk5 => ?_
 have hfr5 := hk5.fr (.o 7 <| .o 9 <| .o 10 <| .n 28 <| .nil)
 replace hc7 := hc7.mono hle5
 replace ht := ht.mono hle5
 clear hst4 hfr4 hk5
 refine hK9 _ _ ?_
 refine zG hfr5 rfl rfl (fun hb28 => ?_) (fun hb28 => ?_)
 ·try simp only [nqs] at hb28
  refine zB fun _ hK10 => ?_
  refine rp0 hst5 hfr5 (.cons rfl (zD rfl) <| .cons rfl (zC rfl) <| .nil) fun a6 w6 m6 hst6 hle6 hk6 => ?_
  have hfr6 := hk6.fr (.n 8 <| .nil)
  clear hst5 hfr5 hk6
  refine hK10 _ _ ?_
  refine zL ?_
  repeat (with_reducible first | refine zH ?_ | refine zF ?_)
  exact zM hst6 hfr6 rfl (.tmp rfl <| .nil) (rfl)
 ·try simp only [nqs] at hb28
  have hbr : zAa xt = false := by first | exact hb28.2 | (simp at hb28; exact hb28.2) | simp_all
  have hnd := low_tk sel tl _ xt hlw hbr (Nat.le_refl _) 0
  have hsz9 := lowT_sz sel tl hlw
  have htz9 := tk_size (zCP sel tl xt)
  refine zJ ?_
  refine hK8 _ _ ?_
  refine zB fun _ hK12 => ?_
  refine zk 3 (by kernel_rfl) ?_
  refine za (tch := []) hst5 hfr5 (by kernel_rfl) (by kernel_rfl) (by kernel_rfl) (.cons rfl (ze (j := 0) rfl rfl isAgg33 sizeOf33 rfl) <| .cons rfl (zN rfl hc7 isAgg38 sizeOf38 rfl rfl) <| .cons rfl (zi (φ := MP.cd (zCP sel tl xt)) rfl (.cons rfl <| .cons rfl <| .nil) call12 (fun w m hK => by have hle_ := KC.le hK; have hA := KC.agree hK; have hT := zCy hT hK.st.ext; have ht := ht.mono hle_; exact FnG.mono (lower_c (t := xt) (sel := sel) (tl := tl) hA ht hT hlw (by omega) (by omega)) fun _ _ _ _ h => h)) <| .nil) fun a6 w6 m6 hst6 hle6 hk6 => ?_
  have hfr6 := hk6.fr (.o 7 <| .o 9 <| .o 10 <| .nil)
  obtain ⟨y32, e13, hy32⟩ := hk6.ex 32 rfl
  replace hfr6 := hfr6.cons e13
  clear hst5 hfr5 hk6
  refine za (tch := []) hst6 hfr6 (by kernel_rfl) (by kernel_rfl) (by kernel_rfl) (.cons rfl (zi (φ := MP.strs (tkC (zCP sel tl xt))) rfl (.cons rfl <| .nil) call27 (fun w m hK => by have hle_ := KC.le hK; have hA := KC.agree hK; have hy32 := hy32.mono hle_; exact FnG.mono (taken_c (zCP sel tl xt) hA hy32 (by omega)) fun _ _ _ _ h => h)) <| .consA 33 rfl rfl <| .nil) fun a7 w7 m7 hst7 hle7 hk7 => ?_
  have hfr7 := hk7.fr (.o 7 <| .o 9 <| .o 10 <| .o 32 <| .nil)
  obtain ⟨⟨oT9, cT9⟩, e14, hTk⟩ := hk7.ex 33 rfl
  replace hfr7 := hfr7.cons e14
  replace hfr7 := hfr7.cons (hk7.same 12 rfl e14)
  clear hst6 hfr6 hk7
  dsimp only [MP.strs, MP.mem] at hTk hfr7
  refine hK12 _ _ ?_
  refine zB fun _ hK15 => ?_
  refine zB fun _ hK16 => ?_
  refine rp0 hst7 hfr7 (.cons rfl (zC rfl) <| .nil) fun a8 w8 m8 hst8 hle8 hk8 => ?_
  have hfr8 := hk8.fr (.o 9 <| .o 12 <| .n 13 <| .nil)
  clear hst7 hfr7 hk8
  refine hK16 _ _ ?_
  refine zK ?_
  refine zZ (T := [(9, _), (12, _)]) (fun (i9 : Nat) => ([(13, .int .i64 (i9 : Int))] : List (Nat × Value))) (fun _ => _) (fun (i9 : Nat) m => (i9 ≤ (tkC (zCP sel tl xt)).length)) (fun i9 => (tkC (zCP sel tl xt)).length - i9) (0) ⟨hst8, MLe.refl _, hfr8.sub (.c <| .c <| .c <| .nil), Nat.zero_le _⟩ fun i9 a9 w9 m9 hh9 => ?_
  have hst9 := hh9.st; have hle9 := hh9.le; have hfr9 := hh9.fr; have hrel := hh9.rel; clear hh9
  clear hst8 hfr8
  have hi9n := hrel
  have hlh9 := hle9
  refine zB fun _ hK18 => ?_
  refine zB fun _ hK19 => ?_
  refine rp0 hst9 hfr9 (.cons rfl (zD rfl) <| .cons rfl (zD rfl) <| .cons rfl (zX rfl underlying27) <| .cons rfl (zt rfl rfl) <| .nil) fun a10 w10 m10 hst10 hle10 hk10 => ?_
  have hfr10 := hk10.fr (.o 13 <| .o 9 <| .o 12 <| .n 37 <| .nil)
  clear hst9 hfr9 hk10
  refine hK19 _ _ ?_
  refine zG hfr10 rfl rfl (fun hb37 => ?_) (fun hb37 => ?_)
  ·try simp only [nqs] at hb37
   refine zJ ?_
   refine hK18 _ _ ?_
   refine zB fun _ hK20 => ?_
   refine zK ?_
   refine zB fun _ hK21 => ?_
   refine rp0 hst10 hfr10 (.cons rfl (zC rfl) <| .nil) fun a11 w11 m11 hst11 hle11 hk11 => ?_
   have hfr11 := hk11.fr (.o 13 <| .o 9 <| .o 12 <| .n 14 <| .nil)
   clear hst10 hfr10 hk11
   refine hK21 _ _ ?_
   refine zK ?_
   have zq1 := hle10.trans hle11
   have hlh11 := hlh9.trans zq1
   have hlq22 := hlh11
   refine zZ (T := [(13, _), (9, _), (12, _)]) (fun (y : Nat) => ([(14, .int .i64 (y : Int))] : List (Nat × Value))) (fun _ => _) (fun (y : Nat) m => (y ≤ i9)) (fun y => i9 - y) (0) ⟨hst11, MLe.refl _, hfr11.sub (.c <| .c <| .c <| .c <| .nil), Nat.zero_le _⟩ fun y a12 w12 m12 hh12 => ?_
   have hst12 := hh12.st; have hle12 := hh12.le; have hfr12 := hh12.fr; have hrel := hh12.rel; clear hh12
   clear hst11 hfr11
   have hyn := hrel
   have hlh12 := hle12
   refine zB fun _ hK23 => ?_
   refine zB fun _ hK24 => ?_
   refine rp0 hst12 hfr12 (.cons rfl (zD rfl) <| .cons rfl (zD rfl) <| .cons rfl (zt rfl rfl) <| .nil) fun a13 w13 m13 hst13 hle13 hk13 => ?_
   have hfr13 := hk13.fr (.o 14 <| .o 13 <| .o 9 <| .o 12 <| .n 42 <| .nil)
   clear hst12 hfr12 hk13
   refine hK24 _ _ ?_
   refine zG hfr13 rfl rfl (fun hb42 => ?_) (fun hb42 => ?_)
   ·try simp only [nqs] at hb42
    refine zJ ?_
    refine hK23 _ _ ?_
    refine zB fun _ hK25 => ?_
    refine zK ?_
    refine zB fun _ hK26 => ?_
    have zq2 := hle12.trans hle13
    have zq3 := zq1.trans zq2
    have zq4 := hle9.trans zq3
    have zq5 := hle8.trans zq4
    replace hTk := hTk.mono zq5
    obtain ⟨p27, vs27, x27, ho27, hd27, hm_x27, ht27, hcv27, hl27, hv27⟩ := hTk.nth (k := i9) (by omega)
    cases ho27
    subst hv27
    obtain ⟨p28, vs28, x28, ho28, hd28, hm_x28, ht28, hcv28, hl28, hv28⟩ := hTk.nth (k := y) (by omega)
    cases ho28
    subst hv28
    have hne9 : x27 ≠ x28 := nodup_at hnd.nd (zAK hd27) (zAK hd28) (by omega)
    refine ZL (fun _ => mixed) hst13 hfr13 (by kernel_rfl) (by kernel_rfl) (.cons rfl (zD rfl) <| .cons rfl (zD rfl) <| .cons rfl (zI (k := i9) rfl rfl underlying27 sizeOf9 rfl (by omega)) <| .cons rfl (ZO rfl hcv27 isAgg9 rfl) <| .cons rfl (zD rfl) <| .cons rfl (zD rfl) <| .cons rfl (zI (k := y) rfl rfl underlying27 sizeOf9 rfl (by omega)) <| .cons rfl (ZO rfl hcv28 isAgg9 rfl) <| .cons rfl (z7 rfl rfl) <| .nil) fun a14 w14 m14 hst14 hle14 hk14 => ?_
    have hfr14 := hk14.fr (.o 14 <| .o 13 <| .o 9 <| .o 12 <| .n 53 <| .nil)
    clear hst13 hfr13 hk14
    refine hK26 _ _ ?_
    refine zG hfr14 rfl rfl (fun hb53 => ?_) (fun hb53 => ?_)
    ·exact absurd (by simpa using hb53) hne9
    ·try simp only [nqs] at hb53
     refine zJ ?_
     refine hK25 _ _ ?_
     refine rp0 hst14 hfr14 (.cons rfl (zD rfl) <| .cons rfl (zh rfl rfl ⟨by omega, by omega⟩) <| .cons rfl (zC rfl) <| .nil) fun a15 w15 m15 hst15 hle15 hk15 => ?_
     have hfr15 := hk15.fr (.o 13 <| .o 9 <| .o 12 <| .n 14 <| .nil)
     clear hst14 hfr14 hk15
     have zq6 := hle14.trans hle15
     have zq7 := hle13.trans zq6
     have hlh15 := hlh12.trans zq7
     exact ⟨y + 1, m15, by show i9 - (y + 1) < i9 - y; omega, ⟨hst15, hlh15, hfr15.sub (.c <| .c <| .c <| .c <| .nil), by show y + 1 ≤ i9; omega⟩⟩
   ·try simp only [nqs] at hb42
    have hge : y = i9 := by omega
    refine zb ?_
    refine hK20 _ _ ?_
    refine rp0 hst13 hfr13 (.cons rfl (zD rfl) <| .cons rfl (zh rfl rfl ⟨by omega, by omega⟩) <| .cons rfl (zC rfl) <| .nil) fun a14 w14 m14 hst14 hle14 hk14 => ?_
    have hfr14 := hk14.fr (.o 14 <| .o 9 <| .o 12 <| .n 13 <| .nil)
    clear hst13 hfr13 hk14
    have zq8 := hle13.trans hle14
    have zq9 := hle12.trans zq8
    replace hlq22 := hlq22.trans zq9
    exact ⟨i9 + 1, m14, by show (tkC (zCP sel tl xt)).length - (i9 + 1) < (tkC (zCP sel tl xt)).length - i9; omega, ⟨hst14, hlq22, hfr14.sub (.c <| .c <| .c <| .nil), by show i9 + 1 ≤ (tkC (zCP sel tl xt)).length; omega⟩⟩
  ·try simp only [nqs] at hb37
   have hgei9 : i9 = (tkC (zCP sel tl xt)).length := by omega
   refine zb ?_
   refine hK15 _ _ ?_
   refine zB fun _ hK29 => ?_
   refine rp0 hst10 hfr10 (.cons rfl (zD rfl) <| .cons rfl (zC rfl) <| .nil) fun a11 w11 m11 hst11 hle11 hk11 => ?_
   have hfr11 := hk11.fr (.o 13 <| .n 8 <| .nil)
   clear hst10 hfr10 hk11
   refine hK29 _ _ ?_
   refine zL ?_
   repeat (with_reducible first | refine zH ?_ | refine zF ?_)
   exact zM hst11 hfr11 rfl (.tmp rfl <| .nil) (rfl)
end Go.Proofs.YtmdhhjmomilhjaaDoor
namespace Go.Proofs.YtmdhhjmomilhjaaDoor
set_option linter.all false
open Go.RowKit Go.WideShapes Go.ChangeShapes Go.Deep Go.WideElems Go.ChangeAt Go.ChangeMaps
def zBK (W : World) : Mem := ⟨fun b o => W.cell? ⟨b, o, none⟩, fun b => match W.heap[b]? with | some (.map es cl) => some (es, cl) | _ => none⟩
theorem agree_snap (W : World) : Agree W (zBK W) := ⟨fun _ _ _ h => h, fun b es h => by
 change (match W.heap[b]? with | some (.map es cl) => some (es, cl) | _ => none) = some es at h
 split at h
 ·rename_i ents cl he
  injection h with h
  subst h; exact he
 ·cases h⟩
theorem cell_spot {W : World} {a : Addr} {v : Value} (h : W.cell? a = some v) : a.spot = none := by
 unfold World.cell? at h
 split at h
 ·split at h
  ·cases h
  ·rename_i hs; cases e : a.spot with
   | none => rfl
   | some x => rw [e] at hs; exact absurd rfl hs
 ·cases h
theorem snap_of {W : World} {a : Addr} {v : Value} (h : W.cell? a = some v) : zBK W a.block a.off = some v := by
 have := cell_spot h
 show W.cell? ⟨a.block, a.off, none⟩ = some v
 rw [← h]; congr 1
 cases a; simp only at this; subst this; rfl
theorem cellsAt_snap {W : World} {base : Nat} {a : Addr} {n : Nat} {cs : List Value} (h : W.cells? base a n = some cs) (hn : 0 < n) : CellsAt (zBK W) a cs ∧ cs.length = n := by
 obtain ⟨_, hl, hat⟩ := World.cells?_some h
 have h0 := hat 0 hn
 have e0 : a.add 0 = a := by unfold Addr.add; rfl
 rw [e0, List.getElem?_eq_getElem (by omega)] at h0
 refine ⟨⟨cell_spot h0, fun i v e => ?_⟩, hl⟩
 have hi : i < n := by have := (List.getElem?_eq_some_iff.1 e).1; omega
 have := hat i hi
 rw [e] at this
 have := snap_of this
 rwa [zCK, zDn] at this
section
variable {H : Type} {enc : TypeId × Value → H} {P : Program} {W : World} {base : Nat} {spare : Nat → Bool} {held : Bool}
theorem open_I {r : Reach} {b0 : Nat} {t : TypeId} {v : Value} {d : DataW H} {ps : List MemPlace} (ht : P.underlying t = some (.int .i64)) (hval : Value.okWide P W r b0 t v) (hd : DataW.Trod enc P W base spare held t v d ps) :
  ∃ n : Int, v = .int .i64 n ∧ zAF n := by
 obtain ⟨n, rfl, _, _, hs⟩ := open_int ht hval hd
 simp only [Lit.wf, Bool.and_eq_true, decide_eq_true_eq] at hs
 have h1 : IntKind.i64.min = -9223372036854775808 := by decide
 have h2 : IntKind.i64.max = 9223372036854775807 := by decide
 exact ⟨n, rfl, by omega, by omega⟩
theorem zCS (hl : laidOutB P = true) {W' : World} {sp : Nat → Bool} : ∀ {ts : List TypeId} {vs : List Value} {ds : List (DataW H)} {ps : List MemPlace}, (ts.all fun t => P.readableRec t && decide (t < P.types.size)) = true →
  DataW.TrodAll enc P W base (fun _ => true) true ts vs ds ps → (∀ p ∈ ps, W.sameAt W' p) → (∀ p ∈ ps, sp p.block = true) → DataW.TrodAll enc P W' base sp true ts vs ds ps
 | [], vs, ds, ps, _, h, _, _ => by
  obtain ⟨rfl, rfl, rfl⟩ := trodAll_nil h
  exact rfl
 | t :: ts, vs, ds, ps, hts, h, h1, h2 => by
  obtain ⟨v, vs', d, ds', p, q, rfl, rfl, rfl, hd, hr⟩ := trodAll_cons h
  simp only [List.all_cons, Bool.and_eq_true, decide_eq_true_eq] at hts
  obtain ⟨⟨hr1, hr2⟩, hts'⟩ := hts
  exact ⟨p, q, Trod_stays hl hr1 hr2 hd (fun x hx => h1 x (List.mem_append_left _ hx)) (fun x hx => h2 x (List.mem_append_left _ hx)),
   zCS hl hts' hr (fun x hx => h1 x (List.mem_append_right _ hx)) (fun x hx => h2 x (List.mem_append_right _ hx)), rfl⟩
theorem post_law {f : Func} {s : ChangeSpec} {W' : World} {m' : Mem} {args : Array Value} {ds : List (DataW H)} {gs : List (DataW H)} {before : List MemPlace} {t : TypeId}
  (hl : laidOutB P = true) (hts : (f.params.toList.all fun t => P.readableRec t && decide (t < P.types.size)) = true) (hvs : s.vars = []) (hres : f.resultTypes = #[t]) (ht : P.underlying t = some .bool)
  (hfn : s.fn H (ds ++ gs) = { results := [.lit (.bool true)], args := ds }) (hW : DataW.Whole enc P f.params.toList s.vars false W args.toList ds gs before) (hx : ExtG [] W (zBK W) W' m') :
  s.post enc P f false true false false W args (.bool true) W' := by
 have hb := hx.below
 have hlt : ∀ p ∈ before, p.block < W.heap.size := fun p hp => hW.lt p hp
 have hold : ∀ p ∈ before, (fun b => decide (b < W.heap.size)) p.block = true := fun p hp => by simpa using hlt p hp
 have hsame : ∀ p ∈ before, W.sameAt W' p := fun p hp => hb.same (hlt p hp)
 have hW0 := hW
 obtain ⟨pa, pv, hA, hV, hps, hz, hn⟩ := hW
 rw [hvs] at hV
 obtain ⟨rfl, rfl⟩ := trodVars_none hV
 rw [List.append_nil] at hps
 subst hps
 have hres' : ∀ (b : Nat) (sp : Nat → Bool) (hd : Bool), DataW.TrodAll enc P W' b sp hd f.resultTypes.toList ((Value.bool true).resultList f.resultTypes.size) (s.fn H (ds ++ [])).results [] := fun b sp hd => by
  rw [hfn, hres]
  exact trodAll_mk1 ⟨1, by simp [DataW.trod, Value.cells, ht]⟩
 have hargs : ∀ sp : Nat → Bool, (∀ p ∈ before, sp p.block = true) → DataW.TrodAll enc P W' 0 sp true f.params.toList args.toList (s.fn H (ds ++ [])).args before := fun sp hsp => by
  rw [hfn]; exact zCS hl hts hA hsame hsp
 have hvars : ∀ sp : Nat → Bool, DataW.TrodVars enc P W' sp s.vars (s.fn H (ds ++ [])).vars [] := fun sp => by
  rw [hvs, hfn]; exact rfl
 refine ⟨ds, [], before, [], before, [], hW0, hres' _ _ _, hargs _ hold, hvars _, World.keptBut_mono (fun p hp => ⟨hp, ?_⟩) (hb.frame (· ∈ before)), fun _ => ?_⟩
 ·exact Or.inr (Or.inl hp)
 ·refine ⟨ok_one hres rfl (okWide_bool_mk ht true), _, _, ([] ++ before) ++ [], ⟨[] ++ before, [], trodAll_append (hargs _ (fun _ _ => rfl)) (hres' _ _ _), hvars _, rfl, ?_, ?_⟩, ?_⟩
  ·intro b off hp
   have hin : MemPlace.cell b off ∈ before := by simpa using hp
   rw [hb.frozen (hlt _ hin)]
   exact hz b off hin
  ·intro ha
   have := hn ha
   simpa using this
  ·intro p hp _
   simpa using hp
end
end Go.Proofs.YtmdhhjmomilhjaaDoor
namespace Go.Proofs.YtmdhhjmomilhjaaDoor
set_option linter.all false
open Go.RowKit Go.WideShapes Go.ChangeShapes Go.Deep Go.WideElems Go.ChangeAt Go.ChangeMaps
section
variable {H : Type} {enc : TypeId × Value → H} {P : Program} {W : World} {base : Nat} {spare : Nat → Bool} {held : Bool}
theorem bulk_mem {d : DataW H} : ∀ {l : List (DataW H)}, d ∈ l → Rows.uptoBulk d ≤ Rows.uptoBulkAll l
 | x :: l, h => by
  rw [Rows.uptoBulkAll]
  rcases List.mem_cons.1 h with rfl | h
  ·omega
  ·have := bulk_mem h; omega
theorem zAp (d : DataW H) : 1 ≤ Rows.uptoBulk d := by
 cases d with
 | lit l => cases l <;> simp [Rows.uptoBulk]
 | _ => simp [Rows.uptoBulk]
theorem bulk_app : ∀ (l r : List (DataW H)), Rows.uptoBulkAll (l ++ r) = Rows.uptoBulkAll l + Rows.uptoBulkAll r
 | [], r => by simp [Rows.uptoBulkAll]
 | x :: l, r => by simp only [List.cons_append, Rows.uptoBulkAll, bulk_app l r]; omega
theorem zAT {α : Type} {R : Mem → List Value → α → Prop} {β : α → Nat} {t e : TypeId} {sz fuel : Nat} {cs : List Value} {x : DataW H × List MemPlace} (B : Nat) (ht : P.underlying t = some (.slice e)) (hc : P.cellsOf e = sz) (hsz : 0 < sz)
  (hR : ∀ n cs (x : DataW H × List MemPlace), Rows.uptoBulk x.1 < B → DataW.trod enc P W base spare held n e cs = some x → cs.length = sz → ∃ a : α, R (zBK W) cs a ∧ β a ≤ Rows.uptoBulk x.1)
  (h : DataW.trod enc P W base spare held fuel t cs = some x) (hB : Rows.uptoBulk x.1 ≤ B) :
  ∃ o n c l, cs = [.slice o n c] ∧ Sl R sz (zBK W) o n c l ∧ c ≤ maxLen ∧ (l.map β).sum + 1 ≤ Rows.uptoBulk x.1 := by
 rcases open_slice ht h with ⟨rfl, rfl⟩ | ⟨a, len, cap, m, n, D, Pl, rfl, hb, hl, hm, hmm, rfl, hi⟩
 ·exact ⟨none, 0, 0, [], rfl, ⟨rfl, Nat.le_refl _, Nat.zero_le _, fun i x hx => by simp at hx⟩, Nat.zero_le _, by simp [Rows.uptoBulk]⟩
 ·have hlm : len ≤ m := by rw [hmm]; split <;> omega
  simp only [Rows.uptoBulk] at hB ⊢
  have key : ∀ k, k ≤ len → ∃ l : List α, l.length = k ∧ (l.map β).sum ≤ Rows.uptoBulkAll ((List.range k).map D) ∧ ∀ i x, l[i]? = some x → ∃ vs, CellsAt (zBK W) (a.add (i * sz)) vs ∧ vs.length = sz ∧ R (zBK W) vs x := by
   intro k
   induction k with
   | zero => intro _; exact ⟨[], rfl, by simp, fun i x hx => by simp at hx⟩
   | succ k ih =>
    intro hk
    obtain ⟨l, hl1, hl0, hl2⟩ := ih (by omega)
    obtain ⟨cs', hcs, htr⟩ := hi k (by omega)
    rw [hc] at hcs
    obtain ⟨h1, h2⟩ := cellsAt_snap hcs hsz
    have hD : Rows.uptoBulk (D k) ≤ Rows.uptoBulkAll ((List.range len).map D) := bulk_mem (List.mem_map.2 ⟨k, List.mem_range.2 (by omega), rfl⟩)
    obtain ⟨y, hy, hβ⟩ := hR n cs' _ (by simp only; omega) htr h2
    refine ⟨l ++ [y], by simp [hl1], ?_, fun i x hx => ?_⟩
    ·simp only [List.range_succ, List.map_append, bulk_app, List.sum_append, List.map_cons, List.map_nil, List.sum_cons, List.sum_nil, Rows.uptoBulkAll] at hβ ⊢; omega
    rw [List.getElem?_append] at hx
    split at hx
    ·exact hl2 i x hx
    ·have hik : i = k := by
      have := (List.getElem?_eq_some_iff.1 hx).1
      simp at this; omega
     subst hik
     rw [hl1, Nat.sub_self] at hx
     simp only [List.getElem?_cons_zero, Option.some.injEq] at hx
     subst hx
     exact ⟨cs', h1, h2, hy⟩
  obtain ⟨l, hl1, hl0, hl2⟩ := key len (Nat.le_refl _)
  refine ⟨some a, len, cap, l, rfl, ⟨hl1, hl, ?_, fun i x hx => ?_⟩, hm, by omega⟩
  ·simp only [maxLen] at hm; omega
  ·obtain ⟨vs, h1, h2, h3⟩ := hl2 i x hx
   exact ⟨a, vs, rfl, h1, h2, h3⟩
theorem ZZ {e : TypeId} {fs : Array Field} {fuel : Nat} {cs : List Value} {x : DataW H × List MemPlace} (he : P.underlying e = some (.struct fs)) (h : DataW.trod enc P W base spare held fuel e cs = some x) :
  ∃ (n : Nat) (ys : List (DataW H × List MemPlace)), ys.length = fs.size ∧ Rows.uptoBulk x.1 = Rows.uptoBulkAll (ys.map (·.1)) + 1 ∧ cs.length = P.cellsOf e ∧
   ∀ (i : Nat) (f : Field), fs[i]? = some f → ∃ y, ys[i]? = some y ∧ DataW.trod enc P W base spare held n f.type ((cs.drop f.offset).take (P.cellsOf f.type)) = some y := by
 obtain ⟨xs, n, rfl, rfl, hl, hx, hf⟩ := DataW.trod_struct he h
 refine ⟨n, xs, hx, by simp [Rows.uptoBulk], hl, fun i f hi => ?_⟩
 have h1 : i < fs.size := (Array.getElem?_eq_some_iff.1 hi).1
 have h2 : xs[i]? = some (xs[i]'(by omega)) := List.getElem?_eq_getElem (by omega)
 exact ⟨_, h2, (hf i f hi).trans h2⟩
theorem zBJ {t : TypeId} {n : Nat} {cs : List Value} {x : DataW H × List MemPlace} (ht : P.underlying t = some (.int .i64)) (h : DataW.trod enc P W base spare held n t cs = some x) : ∃ k : Int, cs = [.int .i64 k] ∧ zAF k ∧ Rows.uptoBulk x.1 = 1 := by
 obtain ⟨k, e, rfl, hs⟩ := DataW.trod_int ht h
 simp only [Lit.wf, Bool.and_eq_true, decide_eq_true_eq] at hs
 have h1 : IntKind.i64.min = -9223372036854775808 := by decide
 have h2 : IntKind.i64.max = 9223372036854775807 := by decide
 exact ⟨k, e, ⟨by omega, by omega⟩, by simp [Rows.uptoBulk]⟩
theorem zAU {t : TypeId} {n : Nat} {cs : List Value} {x : DataW H × List MemPlace} (ht : P.underlying t = some .string) (h : DataW.trod enc P W base spare held n t cs = some x) : ∃ l : Str, cs = [S l] ∧ l.length ≤ maxLen ∧ Rows.uptoBulk x.1 = l.length + 1 := by
 obtain ⟨s, e, rfl, hs⟩ := DataW.trod_string ht h
 obtain ⟨⟨l⟩⟩ := s
 exact ⟨l, e, by rw [S_size] at hs; exact hs, by simp [Rows.uptoBulk]⟩
end
end Go.Proofs.YtmdhhjmomilhjaaDoor
namespace Go.Proofs.YtmdhhjmomilhjaaDoor
open Go.Proofs.Tryd
set_option linter.all false
set_option maxRecDepth 4000
open Go.RowKit Go.WideShapes Go.ChangeShapes Go.Deep Go.WideElems Go.ChangeAt Go.ChangeMaps
theorem sum_two (l : List Str) : (l.map fun x => x.length + 2).sum ≤ 2 * (l.map fun s => s.length + 1).sum := by
 induction l with
 | nil => simp
 | cons x xs ih => simp only [List.map_cons, List.sum_cons]; omega
theorem zDR {H : Type} {enc : TypeId × Value → H} {W : World} {base : Nat} {spare : Nat → Bool} {held : Bool} {n : Nat} {cs : List Value} {x : DataW H × List MemPlace} (h : DataW.trod enc Tryd.prog W base spare held n 27 cs = some x) :
  ∃ o c l, cs = [.slice o l.length c] ∧ Strs (zBK W) o l.length c l ∧ (l.map fun x => x.length + 2).sum ≤ 2 * Rows.uptoBulk x.1 := by
 obtain ⟨o, q, c, l, el, hsl, hc, bl⟩ := zAT (R := fun _ vs (x : Str) => vs = [S x]) (β := fun s => s.length + 1) (sz := 1) (Rows.uptoBulk x.1) underlying27 (by kernel_rfl) (by omega)
  (fun n cs x _ ht _ => by obtain ⟨s, es, _, bs⟩ := zAU underlying9 ht; exact ⟨s, es, by omega⟩) h (Nat.le_refl _)
 obtain rfl := hsl.len
 exact ⟨o, c, l, el, hsl, by have := sum_two l; omega⟩
theorem bulkAs_c (a : Ar) (ts : List Ar) : Zm (a :: ts) = a.name.length + (a.vars.map fun x => x.length + 2).sum + ZA a.body + Zm ts := by obtain ⟨s, l, b⟩ := a; rw [Zm]; rfl
theorem zCr {α : Type} (l : List α) : (l.map fun _ => 1).sum = l.length := by induction l with | nil => rfl | cons x xs ih => rw [List.map_cons, List.sum_cons, ih, List.length_cons, Nat.add_comm]
theorem rw_open {H : Type} {enc : TypeId × Value → H} {W : World} {base : Nat} {spare : Nat → Bool} {held : Bool} {n : Nat} {cs : List Value} {x : DataW H × List MemPlace} (h : DataW.trod enc Tryd.prog W base spare held n 29 cs = some x) : ∃ r : Rw, RwR (zBK W) r cs := by
 obtain ⟨rn, rys, rhl, hx, rhcl, rhf⟩ := ZZ underlying29 h
 obtain ⟨ry0, re0, rh0⟩ := rhf 0 _ rfl
 obtain ⟨ry1, re1, rh1⟩ := rhf 1 _ rfl
 have rhcl2 : (cs : List Value).length = 2 := rhcl.trans (by kernel_rfl)
 obtain ⟨rc0, rc1, rfl⟩ : ∃ rc0 rc1, cs = [rc0, rc1] := by match cs, rhcl2 with | [a0, a1], _ => exact ⟨_, _, rfl⟩
 change DataW.trod enc Tryd.prog W base spare held rn 27 (([rc0, rc1].drop 0).take (Tryd.prog.cellsOf 27)) = some ry0 at rh0
 rw [show Tryd.prog.cellsOf 27 = 1 by kernel_rfl] at rh0
 change DataW.trod enc Tryd.prog W base spare held rn 27 [rc0] = some ry0 at rh0
 change DataW.trod enc Tryd.prog W base spare held rn 3 (([rc0, rc1].drop 1).take (Tryd.prog.cellsOf 3)) = some ry1 at rh1
 rw [show Tryd.prog.cellsOf 3 = 1 by kernel_rfl] at rh1
 change DataW.trod enc Tryd.prog W base spare held rn 3 [rc1] = some ry1 at rh1
 have rhys : rys = [ry0, ry1] := by
  match rys, rhl with
  | [q0, q1], _ => simp at re0 re1; subst re0 re1; rfl
 subst rhys; simp only [List.map_cons, List.map_nil, Rows.uptoBulkAll] at hx
 obtain ⟨o, c, ls, e1, hs, _⟩ := zDR rh0; injection e1 with e1; subst e1
 obtain ⟨v, e_v, h_v, b_v⟩ := zBJ underlying3 rh1; injection e_v with e_v; subst e_v
 exact ⟨⟨ls, v⟩, _, _, rfl, hs, h_v⟩
theorem zCt {H : Type} {enc : TypeId × Value → H} {W : World} {base : Nat} {spare : Nat → Bool} {held : Bool} : ∀ (B n : Nat) (cs : List Value) (x : DataW H × List MemPlace), Rows.uptoBulk x.1 ≤ B → DataW.trod enc Tryd.prog W base spare held n 31 cs = some x → ∃ t : Ty, TyR (zBK W) t cs := by
 intro B
 induction B with
 | zero => intro n cs x hB h; exact absurd (zAp x.1) (by omega)
 | succ B ih =>
  intro n cs x hB h
  obtain ⟨tn, tys, thl, hx, thcl, thf⟩ := ZZ underlying31 h
  obtain ⟨ty0, te0, th0⟩ := thf 0 _ rfl
  obtain ⟨ty1, te1, th1⟩ := thf 1 _ rfl
  obtain ⟨ty2, te2, th2⟩ := thf 2 _ rfl
  obtain ⟨ty3, te3, th3⟩ := thf 3 _ rfl
  obtain ⟨ty4, te4, th4⟩ := thf 4 _ rfl
  have thcl2 : (cs : List Value).length = 6 := thcl.trans (by kernel_rfl)
  obtain ⟨tc0, tc1, tc2, tc3, tc4, tc5, rfl⟩ : ∃ tc0 tc1 tc2 tc3 tc4 tc5, cs = [tc0, tc1, tc2, tc3, tc4, tc5] := by match cs, thcl2 with | [a0, a1, a2, a3, a4, a5], _ => exact ⟨_, _, _, _, _, _, rfl⟩
  change DataW.trod enc Tryd.prog W base spare held tn 3 (([tc0, tc1, tc2, tc3, tc4, tc5].drop 0).take (Tryd.prog.cellsOf 3)) = some ty0 at th0
  rw [show Tryd.prog.cellsOf 3 = 1 by kernel_rfl] at th0
  change DataW.trod enc Tryd.prog W base spare held tn 3 [tc0] = some ty0 at th0
  change DataW.trod enc Tryd.prog W base spare held tn 9 (([tc0, tc1, tc2, tc3, tc4, tc5].drop 1).take (Tryd.prog.cellsOf 9)) = some ty1 at th1
  rw [show Tryd.prog.cellsOf 9 = 1 by kernel_rfl] at th1
  change DataW.trod enc Tryd.prog W base spare held tn 9 [tc1] = some ty1 at th1
  change DataW.trod enc Tryd.prog W base spare held tn 3 (([tc0, tc1, tc2, tc3, tc4, tc5].drop 2).take (Tryd.prog.cellsOf 3)) = some ty2 at th2
  rw [show Tryd.prog.cellsOf 3 = 1 by kernel_rfl] at th2
  change DataW.trod enc Tryd.prog W base spare held tn 3 [tc2] = some ty2 at th2
  change DataW.trod enc Tryd.prog W base spare held tn 26 (([tc0, tc1, tc2, tc3, tc4, tc5].drop 3).take (Tryd.prog.cellsOf 26)) = some ty3 at th3
  rw [show Tryd.prog.cellsOf 26 = 1 by kernel_rfl] at th3
  change DataW.trod enc Tryd.prog W base spare held tn 26 [tc3] = some ty3 at th3
  change DataW.trod enc Tryd.prog W base spare held tn 29 (([tc0, tc1, tc2, tc3, tc4, tc5].drop 4).take (Tryd.prog.cellsOf 29)) = some ty4 at th4
  rw [show Tryd.prog.cellsOf 29 = 2 by kernel_rfl] at th4
  change DataW.trod enc Tryd.prog W base spare held tn 29 [tc4, tc5] = some ty4 at th4
  have thys : tys = [ty0, ty1, ty2, ty3, ty4] := by
   match tys, thl with
   | [q0, q1, q2, q3, q4], _ => simp at te0 te1 te2 te3 te4; subst te0 te1 te2 te3 te4; rfl
  subst thys; simp only [List.map_cons, List.map_nil, Rows.uptoBulkAll] at hx
  obtain ⟨k, e_k, h_k, b_k⟩ := zBJ underlying3 th0; injection e_k with e_k; subst e_k
  obtain ⟨s, e_s, h_s, b_s⟩ := zAU underlying9 th1; injection e_s with e_s; subst e_s
  obtain ⟨v, e_v, h_v, b_v⟩ := zBJ underlying3 th2; injection e_v with e_v; subst e_v
  obtain ⟨rn, rys, rhl, hx2, rhcl, rhf⟩ := ZZ underlying29 th4
  obtain ⟨ry0, re0, rh0⟩ := rhf 0 _ rfl
  obtain ⟨ry1, re1, rh1⟩ := rhf 1 _ rfl
  have rhcl2 : ([tc4, tc5] : List Value).length = 2 := rhcl.trans (by kernel_rfl)
  change DataW.trod enc Tryd.prog W base spare held rn 27 (([tc4, tc5].drop 0).take (Tryd.prog.cellsOf 27)) = some ry0 at rh0
  rw [show Tryd.prog.cellsOf 27 = 1 by kernel_rfl] at rh0
  change DataW.trod enc Tryd.prog W base spare held rn 27 [tc4] = some ry0 at rh0
  change DataW.trod enc Tryd.prog W base spare held rn 3 (([tc4, tc5].drop 1).take (Tryd.prog.cellsOf 3)) = some ry1 at rh1
  rw [show Tryd.prog.cellsOf 3 = 1 by kernel_rfl] at rh1
  change DataW.trod enc Tryd.prog W base spare held rn 3 [tc5] = some ry1 at rh1
  have rhys : rys = [ry0, ry1] := by
   match rys, rhl with
   | [q0, q1], _ => simp at re0 re1; subst re0 re1; rfl
  subst rhys; simp only [List.map_cons, List.map_nil, Rows.uptoBulkAll] at hx2
  obtain ⟨ol, cl, ls, el, hls, _⟩ := zDR rh0; injection el with el; subst el
  obtain ⟨rv, e_rv, h_rv, b_rv⟩ := zBJ underlying3 rh1; injection e_rv with e_rv; subst e_rv
  obtain ⟨o, q, c, l, el2, hsl, hc, bl⟩ := zAT (R := fun m vs t => TyR m t vs) (β := fun _ => 0) (sz := 6) (Rows.uptoBulk ty3.1) underlying26 (by kernel_rfl) (by omega)
   (fun n cs x hx9 ht _ => by obtain ⟨t, h1⟩ := ih n cs x (by omega) ht; exact ⟨t, h1, Nat.zero_le _⟩) th3 (Nat.le_refl _)
  obtain rfl := hsl.len
  injection el2 with el2; subst el2
  exact ⟨⟨k, s, v, l, ls, rv⟩, TyR.build hsl hls h_k h_v h_rv⟩
theorem os_open {H : Type} {enc : TypeId × Value → H} {W : World} {base : Nat} {spare : Nat → Bool} {held : Bool} {n : Nat} {cs : List Value} {x : DataW H × List MemPlace} (h : DataW.trod enc Tryd.prog W base spare held n 118 cs = some x) : ∃ r : Os, OsR (zBK W) r cs := by
 obtain ⟨sn, sys, shl, hx, shcl, shf⟩ := ZZ underlying118 h
 obtain ⟨sy0, se0, sh0⟩ := shf 0 _ rfl
 obtain ⟨sy1, se1, sh1⟩ := shf 1 _ rfl
 obtain ⟨sy2, se2, sh2⟩ := shf 2 _ rfl
 have shcl2 : (cs : List Value).length = 13 := shcl.trans (by kernel_rfl)
 obtain ⟨sc0, sc1, sc2, sc3, sc4, sc5, sc6, sc7, sc8, sc9, sc10, sc11, sc12, rfl⟩ : ∃ sc0 sc1 sc2 sc3 sc4 sc5 sc6 sc7 sc8 sc9 sc10 sc11 sc12, cs = [sc0, sc1, sc2, sc3, sc4, sc5, sc6, sc7, sc8, sc9, sc10, sc11, sc12] := by match cs, shcl2 with | [a0, a1, a2, a3, a4, a5, a6, a7, a8, a9, a10, a11, a12], _ => exact ⟨_, _, _, _, _, _, _, _, _, _, _, _, _, rfl⟩
 change DataW.trod enc Tryd.prog W base spare held sn 9 (([sc0, sc1, sc2, sc3, sc4, sc5, sc6, sc7, sc8, sc9, sc10, sc11, sc12].drop 0).take (Tryd.prog.cellsOf 9)) = some sy0 at sh0
 rw [show Tryd.prog.cellsOf 9 = 1 by kernel_rfl] at sh0
 change DataW.trod enc Tryd.prog W base spare held sn 9 [sc0] = some sy0 at sh0
 change DataW.trod enc Tryd.prog W base spare held sn 31 (([sc0, sc1, sc2, sc3, sc4, sc5, sc6, sc7, sc8, sc9, sc10, sc11, sc12].drop 1).take (Tryd.prog.cellsOf 31)) = some sy1 at sh1
 rw [show Tryd.prog.cellsOf 31 = 6 by kernel_rfl] at sh1
 change DataW.trod enc Tryd.prog W base spare held sn 31 [sc1, sc2, sc3, sc4, sc5, sc6] = some sy1 at sh1
 change DataW.trod enc Tryd.prog W base spare held sn 31 (([sc0, sc1, sc2, sc3, sc4, sc5, sc6, sc7, sc8, sc9, sc10, sc11, sc12].drop 7).take (Tryd.prog.cellsOf 31)) = some sy2 at sh2
 rw [show Tryd.prog.cellsOf 31 = 6 by kernel_rfl] at sh2
 change DataW.trod enc Tryd.prog W base spare held sn 31 [sc7, sc8, sc9, sc10, sc11, sc12] = some sy2 at sh2
 have shys : sys = [sy0, sy1, sy2] := by
  match sys, shl with
  | [q0, q1, q2], _ => simp at se0 se1 se2; subst se0 se1 se2; rfl
 subst shys; simp only [List.map_cons, List.map_nil, Rows.uptoBulkAll] at hx
 obtain ⟨s, e_s, h_s, b_s⟩ := zAU underlying9 sh0; injection e_s with e_s; subst e_s
 obtain ⟨a, ha⟩ := (zCt _ _ _ _ (Nat.le_refl _) sh1)
 obtain ⟨r, hr⟩ := (zCt _ _ _ _ (Nat.le_refl _) sh2)
 exact ⟨⟨s, a, r⟩, _, _, rfl, ha, hr⟩
theorem ef_open {H : Type} {enc : TypeId × Value → H} {W : World} {base : Nat} {spare : Nat → Bool} {held : Bool} {n : Nat} {cs : List Value} {x : DataW H × List MemPlace} (h : DataW.trod enc Tryd.prog W base spare held n 115 cs = some x) : ∃ r : Ef, EfR (zBK W) r cs ∧ r.ops.length ≤ Rows.uptoBulk x.1 := by
 obtain ⟨sn, sys, shl, hx, shcl, shf⟩ := ZZ underlying115 h
 obtain ⟨sy0, se0, sh0⟩ := shf 0 _ rfl
 obtain ⟨sy1, se1, sh1⟩ := shf 1 _ rfl
 have shcl2 : (cs : List Value).length = 2 := shcl.trans (by kernel_rfl)
 obtain ⟨sc0, sc1, rfl⟩ : ∃ sc0 sc1, cs = [sc0, sc1] := by match cs, shcl2 with | [a0, a1], _ => exact ⟨_, _, rfl⟩
 change DataW.trod enc Tryd.prog W base spare held sn 9 (([sc0, sc1].drop 0).take (Tryd.prog.cellsOf 9)) = some sy0 at sh0
 rw [show Tryd.prog.cellsOf 9 = 1 by kernel_rfl] at sh0
 change DataW.trod enc Tryd.prog W base spare held sn 9 [sc0] = some sy0 at sh0
 change DataW.trod enc Tryd.prog W base spare held sn 113 (([sc0, sc1].drop 1).take (Tryd.prog.cellsOf 113)) = some sy1 at sh1
 rw [show Tryd.prog.cellsOf 113 = 1 by kernel_rfl] at sh1
 change DataW.trod enc Tryd.prog W base spare held sn 113 [sc1] = some sy1 at sh1
 have shys : sys = [sy0, sy1] := by
  match sys, shl with
  | [q0, q1], _ => simp at se0 se1; subst se0 se1; rfl
 subst shys; simp only [List.map_cons, List.map_nil, Rows.uptoBulkAll] at hx
 obtain ⟨s, e_s, h_s, b_s⟩ := zAU underlying9 sh0; injection e_s with e_s; subst e_s
 obtain ⟨o, q, c, l, el2, hsl, hc, bl⟩ := zAT (R := fun m vs t => OsR m t vs) (β := fun _ => 1) (sz := 13) (Rows.uptoBulk sy1.1) underlying113 (by kernel_rfl) (by omega)
  (fun n cs x hx9 ht _ => by obtain ⟨t, h1⟩ := os_open ht; exact ⟨t, h1, zAp _⟩) sh1 (Nat.le_refl _)
 obtain rfl := hsl.len
 injection el2 with el2; subst el2
 have h1 := zCr l
 exact ⟨⟨s, l⟩, ⟨_, _, rfl, hsl⟩, by show l.length ≤ _; omega⟩
theorem cs_open {H : Type} {enc : TypeId × Value → H} {W : World} {base : Nat} {spare : Nat → Bool} {held : Bool} {n : Nat} {cs : List Value} {x : DataW H × List MemPlace} (h : DataW.trod enc Tryd.prog W base spare held n 124 cs = some x) : ∃ r : Cs, CsR (zBK W) r cs ∧ r.fields.length ≤ Rows.uptoBulk x.1 := by
 obtain ⟨sn, sys, shl, hx, shcl, shf⟩ := ZZ underlying124 h
 obtain ⟨sy0, se0, sh0⟩ := shf 0 _ rfl
 obtain ⟨sy1, se1, sh1⟩ := shf 1 _ rfl
 have shcl2 : (cs : List Value).length = 2 := shcl.trans (by kernel_rfl)
 obtain ⟨sc0, sc1, rfl⟩ : ∃ sc0 sc1, cs = [sc0, sc1] := by match cs, shcl2 with | [a0, a1], _ => exact ⟨_, _, rfl⟩
 change DataW.trod enc Tryd.prog W base spare held sn 9 (([sc0, sc1].drop 0).take (Tryd.prog.cellsOf 9)) = some sy0 at sh0
 rw [show Tryd.prog.cellsOf 9 = 1 by kernel_rfl] at sh0
 change DataW.trod enc Tryd.prog W base spare held sn 9 [sc0] = some sy0 at sh0
 change DataW.trod enc Tryd.prog W base spare held sn 26 (([sc0, sc1].drop 1).take (Tryd.prog.cellsOf 26)) = some sy1 at sh1
 rw [show Tryd.prog.cellsOf 26 = 1 by kernel_rfl] at sh1
 change DataW.trod enc Tryd.prog W base spare held sn 26 [sc1] = some sy1 at sh1
 have shys : sys = [sy0, sy1] := by
  match sys, shl with
  | [q0, q1], _ => simp at se0 se1; subst se0 se1; rfl
 subst shys; simp only [List.map_cons, List.map_nil, Rows.uptoBulkAll] at hx
 obtain ⟨s, e_s, h_s, b_s⟩ := zAU underlying9 sh0; injection e_s with e_s; subst e_s
 obtain ⟨o, q, c, l, el2, hsl, hc, bl⟩ := zAT (R := fun m vs t => TyR m t vs) (β := fun _ => 1) (sz := 6) (Rows.uptoBulk sy1.1) underlying26 (by kernel_rfl) (by omega)
  (fun n cs x hx9 ht _ => by obtain ⟨t, h1⟩ := (zCt _ _ _ _ (Nat.le_refl _) ht); exact ⟨t, h1, zAp _⟩) sh1 (Nat.le_refl _)
 obtain rfl := hsl.len
 injection el2 with el2; subst el2
 have h1 := zCr l
 exact ⟨⟨s, l⟩, ⟨_, _, rfl, hsl⟩, by show l.length ≤ _; omega⟩
theorem da_open {H : Type} {enc : TypeId × Value → H} {W : World} {base : Nat} {spare : Nat → Bool} {held : Bool} {n : Nat} {cs : List Value} {x : DataW H × List MemPlace} (h : DataW.trod enc Tryd.prog W base spare held n 122 cs = some x) : ∃ r : Da, DaR (zBK W) r cs ∧ r.cons.length ≤ Rows.uptoBulk x.1 := by
 obtain ⟨sn, sys, shl, hx, shcl, shf⟩ := ZZ underlying122 h
 obtain ⟨sy0, se0, sh0⟩ := shf 0 _ rfl
 obtain ⟨sy1, se1, sh1⟩ := shf 1 _ rfl
 have shcl2 : (cs : List Value).length = 2 := shcl.trans (by kernel_rfl)
 obtain ⟨sc0, sc1, rfl⟩ : ∃ sc0 sc1, cs = [sc0, sc1] := by match cs, shcl2 with | [a0, a1], _ => exact ⟨_, _, rfl⟩
 change DataW.trod enc Tryd.prog W base spare held sn 9 (([sc0, sc1].drop 0).take (Tryd.prog.cellsOf 9)) = some sy0 at sh0
 rw [show Tryd.prog.cellsOf 9 = 1 by kernel_rfl] at sh0
 change DataW.trod enc Tryd.prog W base spare held sn 9 [sc0] = some sy0 at sh0
 change DataW.trod enc Tryd.prog W base spare held sn 120 (([sc0, sc1].drop 1).take (Tryd.prog.cellsOf 120)) = some sy1 at sh1
 rw [show Tryd.prog.cellsOf 120 = 1 by kernel_rfl] at sh1
 change DataW.trod enc Tryd.prog W base spare held sn 120 [sc1] = some sy1 at sh1
 have shys : sys = [sy0, sy1] := by
  match sys, shl with
  | [q0, q1], _ => simp at se0 se1; subst se0 se1; rfl
 subst shys; simp only [List.map_cons, List.map_nil, Rows.uptoBulkAll] at hx
 obtain ⟨s, e_s, h_s, b_s⟩ := zAU underlying9 sh0; injection e_s with e_s; subst e_s
 obtain ⟨o, q, c, l, el2, hsl, hc, bl⟩ := zAT (R := fun m vs t => CsR m t vs) (β := fun _ => 1) (sz := 2) (Rows.uptoBulk sy1.1) underlying120 (by kernel_rfl) (by omega)
  (fun n cs x hx9 ht _ => by obtain ⟨t, h1, _⟩ := cs_open ht; exact ⟨t, h1, zAp _⟩) sh1 (Nat.le_refl _)
 obtain rfl := hsl.len
 injection el2 with el2; subst el2
 have h1 := zCr l
 exact ⟨⟨s, l⟩, ⟨_, _, rfl, hsl⟩, by show l.length ≤ _; omega⟩
theorem tm_open {H : Type} {enc : TypeId × Value → H} {W : World} {base : Nat} {spare : Nat → Bool} {held : Bool} : ∀ (B : Nat), (∀ (n : Nat) (cs : List Value) (x : DataW H × List MemPlace), Rows.uptoBulk x.1 ≤ B → DataW.trod enc Tryd.prog W base spare held n 33 cs = some x → ∃ t : Tm, TmR (zBK W) t cs ∧ ZA t ≤ 2 * Rows.uptoBulk x.1) ∧ (∀ (n : Nat) (cs : List Value) (x : DataW H × List MemPlace), Rows.uptoBulk x.1 ≤ B → DataW.trod enc Tryd.prog W base spare held n 72 cs = some x → ∃ a : Ar, ArR (zBK W) a cs ∧ a.name.length + (a.vars.map fun x => x.length + 2).sum + ZA a.body ≤ 2 * Rows.uptoBulk x.1) := by
 intro B
 induction B with
 | zero => exact ⟨fun n cs x hB h => absurd (zAp x.1) (by omega), fun n cs x hB h => absurd (zAp x.1) (by omega)⟩
 | succ B ih =>
  refine ⟨fun n cs x hB h => ?_, fun n cs x hB h => ?_⟩
  ·obtain ⟨tn, tys, thl, hx, thcl, thf⟩ := ZZ underlying33 h
   obtain ⟨ty0, te0, th0⟩ := thf 0 _ rfl
   obtain ⟨ty1, te1, th1⟩ := thf 1 _ rfl
   obtain ⟨ty2, te2, th2⟩ := thf 2 _ rfl
   obtain ⟨ty3, te3, th3⟩ := thf 3 _ rfl
   obtain ⟨ty4, te4, th4⟩ := thf 4 _ rfl
   obtain ⟨ty5, te5, th5⟩ := thf 5 _ rfl
   obtain ⟨ty6, te6, th6⟩ := thf 6 _ rfl
   obtain ⟨ty7, te7, th7⟩ := thf 7 _ rfl
   obtain ⟨ty8, te8, th8⟩ := thf 8 _ rfl
   obtain ⟨ty9, te9, th9⟩ := thf 9 _ rfl
   have thcl2 : (cs : List Value).length = 21 := thcl.trans (by kernel_rfl)
   obtain ⟨tc0, tc1, tc2, tc3, tc4, tc5, tc6, tc7, tc8, tc9, tc10, tc11, tc12, tc13, tc14, tc15, tc16, tc17, tc18, tc19, tc20, rfl⟩ : ∃ tc0 tc1 tc2 tc3 tc4 tc5 tc6 tc7 tc8 tc9 tc10 tc11 tc12 tc13 tc14 tc15 tc16 tc17 tc18 tc19 tc20, cs = [tc0, tc1, tc2, tc3, tc4, tc5, tc6, tc7, tc8, tc9, tc10, tc11, tc12, tc13, tc14, tc15, tc16, tc17, tc18, tc19, tc20] := by match cs, thcl2 with | [a0, a1, a2, a3, a4, a5, a6, a7, a8, a9, a10, a11, a12, a13, a14, a15, a16, a17, a18, a19, a20], _ => exact ⟨_, _, _, _, _, _, _, _, _, _, _, _, _, _, _, _, _, _, _, _, _, rfl⟩
   change DataW.trod enc Tryd.prog W base spare held tn 3 (([tc0, tc1, tc2, tc3, tc4, tc5, tc6, tc7, tc8, tc9, tc10, tc11, tc12, tc13, tc14, tc15, tc16, tc17, tc18, tc19, tc20].drop 0).take (Tryd.prog.cellsOf 3)) = some ty0 at th0
   rw [show Tryd.prog.cellsOf 3 = 1 by kernel_rfl] at th0
   change DataW.trod enc Tryd.prog W base spare held tn 3 [tc0] = some ty0 at th0
   change DataW.trod enc Tryd.prog W base spare held tn 3 (([tc0, tc1, tc2, tc3, tc4, tc5, tc6, tc7, tc8, tc9, tc10, tc11, tc12, tc13, tc14, tc15, tc16, tc17, tc18, tc19, tc20].drop 1).take (Tryd.prog.cellsOf 3)) = some ty1 at th1
   rw [show Tryd.prog.cellsOf 3 = 1 by kernel_rfl] at th1
   change DataW.trod enc Tryd.prog W base spare held tn 3 [tc1] = some ty1 at th1
   change DataW.trod enc Tryd.prog W base spare held tn 9 (([tc0, tc1, tc2, tc3, tc4, tc5, tc6, tc7, tc8, tc9, tc10, tc11, tc12, tc13, tc14, tc15, tc16, tc17, tc18, tc19, tc20].drop 2).take (Tryd.prog.cellsOf 9)) = some ty2 at th2
   rw [show Tryd.prog.cellsOf 9 = 1 by kernel_rfl] at th2
   change DataW.trod enc Tryd.prog W base spare held tn 9 [tc2] = some ty2 at th2
   change DataW.trod enc Tryd.prog W base spare held tn 9 (([tc0, tc1, tc2, tc3, tc4, tc5, tc6, tc7, tc8, tc9, tc10, tc11, tc12, tc13, tc14, tc15, tc16, tc17, tc18, tc19, tc20].drop 3).take (Tryd.prog.cellsOf 9)) = some ty3 at th3
   rw [show Tryd.prog.cellsOf 9 = 1 by kernel_rfl] at th3
   change DataW.trod enc Tryd.prog W base spare held tn 9 [tc3] = some ty3 at th3
   change DataW.trod enc Tryd.prog W base spare held tn 3 (([tc0, tc1, tc2, tc3, tc4, tc5, tc6, tc7, tc8, tc9, tc10, tc11, tc12, tc13, tc14, tc15, tc16, tc17, tc18, tc19, tc20].drop 4).take (Tryd.prog.cellsOf 3)) = some ty4 at th4
   rw [show Tryd.prog.cellsOf 3 = 1 by kernel_rfl] at th4
   change DataW.trod enc Tryd.prog W base spare held tn 3 [tc4] = some ty4 at th4
   change DataW.trod enc Tryd.prog W base spare held tn 24 (([tc0, tc1, tc2, tc3, tc4, tc5, tc6, tc7, tc8, tc9, tc10, tc11, tc12, tc13, tc14, tc15, tc16, tc17, tc18, tc19, tc20].drop 5).take (Tryd.prog.cellsOf 24)) = some ty5 at th5
   rw [show Tryd.prog.cellsOf 24 = 1 by kernel_rfl] at th5
   change DataW.trod enc Tryd.prog W base spare held tn 24 [tc5] = some ty5 at th5
   change DataW.trod enc Tryd.prog W base spare held tn 25 (([tc0, tc1, tc2, tc3, tc4, tc5, tc6, tc7, tc8, tc9, tc10, tc11, tc12, tc13, tc14, tc15, tc16, tc17, tc18, tc19, tc20].drop 6).take (Tryd.prog.cellsOf 25)) = some ty6 at th6
   rw [show Tryd.prog.cellsOf 25 = 1 by kernel_rfl] at th6
   change DataW.trod enc Tryd.prog W base spare held tn 25 [tc6] = some ty6 at th6
   change DataW.trod enc Tryd.prog W base spare held tn 31 (([tc0, tc1, tc2, tc3, tc4, tc5, tc6, tc7, tc8, tc9, tc10, tc11, tc12, tc13, tc14, tc15, tc16, tc17, tc18, tc19, tc20].drop 7).take (Tryd.prog.cellsOf 31)) = some ty7 at th7
   rw [show Tryd.prog.cellsOf 31 = 6 by kernel_rfl] at th7
   change DataW.trod enc Tryd.prog W base spare held tn 31 [tc7, tc8, tc9, tc10, tc11, tc12] = some ty7 at th7
   change DataW.trod enc Tryd.prog W base spare held tn 29 (([tc0, tc1, tc2, tc3, tc4, tc5, tc6, tc7, tc8, tc9, tc10, tc11, tc12, tc13, tc14, tc15, tc16, tc17, tc18, tc19, tc20].drop 13).take (Tryd.prog.cellsOf 29)) = some ty8 at th8
   rw [show Tryd.prog.cellsOf 29 = 2 by kernel_rfl] at th8
   change DataW.trod enc Tryd.prog W base spare held tn 29 [tc13, tc14] = some ty8 at th8
   change DataW.trod enc Tryd.prog W base spare held tn 31 (([tc0, tc1, tc2, tc3, tc4, tc5, tc6, tc7, tc8, tc9, tc10, tc11, tc12, tc13, tc14, tc15, tc16, tc17, tc18, tc19, tc20].drop 15).take (Tryd.prog.cellsOf 31)) = some ty9 at th9
   rw [show Tryd.prog.cellsOf 31 = 6 by kernel_rfl] at th9
   change DataW.trod enc Tryd.prog W base spare held tn 31 [tc15, tc16, tc17, tc18, tc19, tc20] = some ty9 at th9
   have thys : tys = [ty0, ty1, ty2, ty3, ty4, ty5, ty6, ty7, ty8, ty9] := by
    match tys, thl with
    | [q0, q1, q2, q3, q4, q5, q6, q7, q8, q9], _ => simp at te0 te1 te2 te3 te4 te5 te6 te7 te8 te9; subst te0 te1 te2 te3 te4 te5 te6 te7 te8 te9; rfl
   subst thys; simp only [List.map_cons, List.map_nil, Rows.uptoBulkAll] at hx
   obtain ⟨k, e_k, h_k, b_k⟩ := zBJ underlying3 th0; injection e_k with e_k; subst e_k
   obtain ⟨a, e_a, h_a, b_a⟩ := zBJ underlying3 th1; injection e_a with e_a; subst e_a
   obtain ⟨s, e_s, h_s, b_s⟩ := zAU underlying9 th2; injection e_s with e_s; subst e_s
   obtain ⟨p, e_p, h_p, b_p⟩ := zAU underlying9 th3; injection e_p with e_p; subst e_p
   obtain ⟨nn, e_nn, h_nn, b_nn⟩ := zBJ underlying3 th4; injection e_nn with e_nn; subst e_nn
   obtain ⟨ty, hty⟩ := (zCt _ _ _ _ (Nat.le_refl _) th7)
   obtain ⟨rr, hrr⟩ := rw_open th8
   obtain ⟨tz, htz⟩ := (zCt _ _ _ _ (Nat.le_refl _) th9)
   obtain ⟨o, q, cc, l, el2, hsl, hc, bl⟩ := zAT (R := fun m vs t => TmR m t vs ∧ ZA t ≤ 2 * Rows.uptoBulk ty5.1) (β := fun t => (ZA t + 1) / 2) (sz := 21) (Rows.uptoBulk ty5.1) underlying24 (by kernel_rfl) (by omega)
    (fun n cs x hx9 ht _ => by obtain ⟨t, h1, h2⟩ := ih.1 n cs x (by omega) ht; exact ⟨t, ⟨h1, by omega⟩, by omega⟩) th5 (Nat.le_refl _)
   obtain rfl := hsl.len
   injection el2 with el2; subst el2
   have hsl2 : Tms (zBK W) o l.length cc l := ⟨rfl, hsl.cap, hsl.big, fun i x hx => by obtain ⟨p, vs, a1, a2, a3, a4⟩ := hsl.at_ i x hx; exact ⟨p, vs, a1, a2, a3, a4.1⟩⟩
   obtain ⟨o4, q4, c4, l4, el4, hsl4, hc4, bl4⟩ := zAT (R := fun m vs a => ArR m a vs ∧ a.name.length + (a.vars.map fun x => x.length + 2).sum + ZA a.body ≤ 2 * Rows.uptoBulk ty6.1) (β := fun a => (a.name.length + (a.vars.map fun x => x.length + 2).sum + ZA a.body + 1) / 2) (sz := 23) (Rows.uptoBulk ty6.1) underlying25 (by kernel_rfl) (by omega)
    (fun n cs x hx9 ht _ => by obtain ⟨t, h1, h2⟩ := ih.2 n cs x (by omega) ht; exact ⟨t, ⟨h1, by omega⟩, by omega⟩) th6 (Nat.le_refl _)
   obtain rfl := hsl4.len
   injection el4 with el4; subst el4
   have hsl5 : Ars (zBK W) o4 l4.length c4 l4 := ⟨rfl, hsl4.cap, hsl4.big, fun i x hx => by obtain ⟨p, vs, a1, a2, a3, a4⟩ := hsl4.at_ i x hx; exact ⟨p, vs, a1, a2, a3, a4.1⟩⟩
   have key : ∀ l : List Tm, Zy l ≤ 2 * (l.map fun t => (ZA t + 1) / 2).sum := by
    intro l
    induction l with
    | nil => simp [Zy]
    | cons x xs ih => simp only [Zy, List.map_cons, List.sum_cons]; omega
   have key2 : ∀ l : List Ar, Zm l ≤ 2 * (l.map fun a => (a.name.length + (a.vars.map fun x => x.length + 2).sum + ZA a.body + 1) / 2).sum := by
    intro l
    induction l with
    | nil => simp [Zm]
    | cons x xs ih => rw [bulkAs_c, List.map_cons, List.sum_cons]; omega
   have hk := key l; have hk2 := key2 l4
   obtain ⟨o3, c3, e3, hs3, hv3⟩ := hrr
   simp only [List.cons.injEq, and_true] at e3
   obtain ⟨e3a, e3b⟩ := e3; subst e3a e3b
   have hone1 := RepR.one (R := fun m vs t => TyR m t vs) hty; have hone2 := RepR.one (R := fun m vs t => TyR m t vs) htz
   refine ⟨⟨k, a, s, p, nn, l, l4, rr⟩, TmR.build (y := ⟨o, cc, o4, c4, o3, c3, tc7, tc8, tc9, tc10, tc11, tc12, tc15, tc16, tc17, tc18, tc19, tc20⟩) ?_ hsl2 hsl5 ⟨_, _, rfl, hs3, hv3⟩, ?_⟩
   ·unfold TmY.one
    simp only [List.all_cons, List.all_nil, Bool.and_true, Bool.and_eq_true] at hone1 hone2 ⊢
    exact ⟨hone1.1, hone1.2.1, hone1.2.2.1, hone1.2.2.2.1, hone1.2.2.2.2.1, hone1.2.2.2.2.2, hone2.1, hone2.2.1, hone2.2.2.1, hone2.2.2.2.1, hone2.2.2.2.2.1, hone2.2.2.2.2.2⟩
   ·have e1 := zAp (H := H) ty0.1; rw [ZA]; omega
  ·obtain ⟨tn, tys, thl, hx, thcl, thf⟩ := ZZ underlying72 h
   obtain ⟨ty0, te0, th0⟩ := thf 0 _ rfl
   obtain ⟨ty1, te1, th1⟩ := thf 1 _ rfl
   obtain ⟨ty2, te2, th2⟩ := thf 2 _ rfl
   have thcl2 : (cs : List Value).length = 23 := thcl.trans (by kernel_rfl)
   obtain ⟨tc0, tc1, tc2, tc3, tc4, tc5, tc6, tc7, tc8, tc9, tc10, tc11, tc12, tc13, tc14, tc15, tc16, tc17, tc18, tc19, tc20, tc21, tc22, rfl⟩ : ∃ tc0 tc1 tc2 tc3 tc4 tc5 tc6 tc7 tc8 tc9 tc10 tc11 tc12 tc13 tc14 tc15 tc16 tc17 tc18 tc19 tc20 tc21 tc22, cs = [tc0, tc1, tc2, tc3, tc4, tc5, tc6, tc7, tc8, tc9, tc10, tc11, tc12, tc13, tc14, tc15, tc16, tc17, tc18, tc19, tc20, tc21, tc22] := by match cs, thcl2 with | [a0, a1, a2, a3, a4, a5, a6, a7, a8, a9, a10, a11, a12, a13, a14, a15, a16, a17, a18, a19, a20, a21, a22], _ => exact ⟨_, _, _, _, _, _, _, _, _, _, _, _, _, _, _, _, _, _, _, _, _, _, _, rfl⟩
   change DataW.trod enc Tryd.prog W base spare held tn 9 (([tc0, tc1, tc2, tc3, tc4, tc5, tc6, tc7, tc8, tc9, tc10, tc11, tc12, tc13, tc14, tc15, tc16, tc17, tc18, tc19, tc20, tc21, tc22].drop 0).take (Tryd.prog.cellsOf 9)) = some ty0 at th0
   rw [show Tryd.prog.cellsOf 9 = 1 by kernel_rfl] at th0
   change DataW.trod enc Tryd.prog W base spare held tn 9 [tc0] = some ty0 at th0
   change DataW.trod enc Tryd.prog W base spare held tn 27 (([tc0, tc1, tc2, tc3, tc4, tc5, tc6, tc7, tc8, tc9, tc10, tc11, tc12, tc13, tc14, tc15, tc16, tc17, tc18, tc19, tc20, tc21, tc22].drop 1).take (Tryd.prog.cellsOf 27)) = some ty1 at th1
   rw [show Tryd.prog.cellsOf 27 = 1 by kernel_rfl] at th1
   change DataW.trod enc Tryd.prog W base spare held tn 27 [tc1] = some ty1 at th1
   change DataW.trod enc Tryd.prog W base spare held tn 33 (([tc0, tc1, tc2, tc3, tc4, tc5, tc6, tc7, tc8, tc9, tc10, tc11, tc12, tc13, tc14, tc15, tc16, tc17, tc18, tc19, tc20, tc21, tc22].drop 2).take (Tryd.prog.cellsOf 33)) = some ty2 at th2
   rw [show Tryd.prog.cellsOf 33 = 21 by kernel_rfl] at th2
   change DataW.trod enc Tryd.prog W base spare held tn 33 [tc2, tc3, tc4, tc5, tc6, tc7, tc8, tc9, tc10, tc11, tc12, tc13, tc14, tc15, tc16, tc17, tc18, tc19, tc20, tc21, tc22] = some ty2 at th2
   have thys : tys = [ty0, ty1, ty2] := by
    match tys, thl with
    | [q0, q1, q2], _ => simp at te0 te1 te2; subst te0 te1 te2; rfl
   subst thys; simp only [List.map_cons, List.map_nil, Rows.uptoBulkAll] at hx
   obtain ⟨s, e_s, h_s, b_s⟩ := zAU underlying9 th0; injection e_s with e_s; subst e_s
   obtain ⟨o, c, l, e1, hs, hb⟩ := zDR th1; injection e1 with e1; subst e1
   obtain ⟨b, hbt, hbb⟩ := ih.1 _ _ _ (by omega) th2
   exact ⟨⟨s, l, b⟩, ⟨_, _, _, rfl, hs, hbt⟩, by simp only [Ar.name, Ar.vars, Ar.body]; omega⟩
theorem pg_open {H : Type} {enc : TypeId × Value → H} {W : World} {base : Nat} {spare : Nat → Bool} {held : Bool} {n : Nat} {cs : List Value} {x : DataW H × List MemPlace} (h : DataW.trod enc Tryd.prog W base spare held n 35 cs = some x) : ∃ p : Pg, PgR (zBK W) p cs ∧ zAx p.effects ≤ Rows.uptoBulk x.1 ∧ consN p.datas ≤ Rows.uptoBulk x.1 ∧ p.datas.length ≤ Rows.uptoBulk x.1 ∧ ZA p.body ≤ 2 * Rows.uptoBulk x.1 := by
 obtain ⟨tn, tys, thl, hx, thcl, thf⟩ := ZZ underlying35 h
 obtain ⟨ty0, te0, th0⟩ := thf 0 _ rfl
 obtain ⟨ty1, te1, th1⟩ := thf 1 _ rfl
 obtain ⟨ty2, te2, th2⟩ := thf 2 _ rfl
 have thcl2 : (cs : List Value).length = 23 := thcl.trans (by kernel_rfl)
 obtain ⟨tc0, tc1, tc2, tc3, tc4, tc5, tc6, tc7, tc8, tc9, tc10, tc11, tc12, tc13, tc14, tc15, tc16, tc17, tc18, tc19, tc20, tc21, tc22, rfl⟩ : ∃ tc0 tc1 tc2 tc3 tc4 tc5 tc6 tc7 tc8 tc9 tc10 tc11 tc12 tc13 tc14 tc15 tc16 tc17 tc18 tc19 tc20 tc21 tc22, cs = [tc0, tc1, tc2, tc3, tc4, tc5, tc6, tc7, tc8, tc9, tc10, tc11, tc12, tc13, tc14, tc15, tc16, tc17, tc18, tc19, tc20, tc21, tc22] := by match cs, thcl2 with | [a0, a1, a2, a3, a4, a5, a6, a7, a8, a9, a10, a11, a12, a13, a14, a15, a16, a17, a18, a19, a20, a21, a22], _ => exact ⟨_, _, _, _, _, _, _, _, _, _, _, _, _, _, _, _, _, _, _, _, _, _, _, rfl⟩
 change DataW.trod enc Tryd.prog W base spare held tn 22 (([tc0, tc1, tc2, tc3, tc4, tc5, tc6, tc7, tc8, tc9, tc10, tc11, tc12, tc13, tc14, tc15, tc16, tc17, tc18, tc19, tc20, tc21, tc22].drop 0).take (Tryd.prog.cellsOf 22)) = some ty0 at th0
 rw [show Tryd.prog.cellsOf 22 = 1 by kernel_rfl] at th0
 change DataW.trod enc Tryd.prog W base spare held tn 22 [tc0] = some ty0 at th0
 change DataW.trod enc Tryd.prog W base spare held tn 23 (([tc0, tc1, tc2, tc3, tc4, tc5, tc6, tc7, tc8, tc9, tc10, tc11, tc12, tc13, tc14, tc15, tc16, tc17, tc18, tc19, tc20, tc21, tc22].drop 1).take (Tryd.prog.cellsOf 23)) = some ty1 at th1
 rw [show Tryd.prog.cellsOf 23 = 1 by kernel_rfl] at th1
 change DataW.trod enc Tryd.prog W base spare held tn 23 [tc1] = some ty1 at th1
 change DataW.trod enc Tryd.prog W base spare held tn 33 (([tc0, tc1, tc2, tc3, tc4, tc5, tc6, tc7, tc8, tc9, tc10, tc11, tc12, tc13, tc14, tc15, tc16, tc17, tc18, tc19, tc20, tc21, tc22].drop 2).take (Tryd.prog.cellsOf 33)) = some ty2 at th2
 rw [show Tryd.prog.cellsOf 33 = 21 by kernel_rfl] at th2
 change DataW.trod enc Tryd.prog W base spare held tn 33 [tc2, tc3, tc4, tc5, tc6, tc7, tc8, tc9, tc10, tc11, tc12, tc13, tc14, tc15, tc16, tc17, tc18, tc19, tc20, tc21, tc22] = some ty2 at th2
 have thys : tys = [ty0, ty1, ty2] := by
  match tys, thl with
  | [q0, q1, q2], _ => simp at te0 te1 te2; subst te0 te1 te2; rfl
 subst thys; simp only [List.map_cons, List.map_nil, Rows.uptoBulkAll] at hx
 obtain ⟨o, q, cc, l, el2, hsl, hc, bl⟩ := zAT (R := fun m vs t => EfR m t vs) (β := fun e => e.ops.length) (sz := 2) (Rows.uptoBulk ty0.1) underlying22 (by kernel_rfl) (by omega) (fun n cs x hx9 ht _ => ef_open ht) th0 (Nat.le_refl _)
 obtain rfl := hsl.len
 injection el2 with el2; subst el2
 obtain ⟨o4, q4, c4, l4, el4, hsl4, hc4, bl4⟩ := zAT (R := fun m vs t => DaR m t vs) (β := fun e => e.cons.length) (sz := 2) (Rows.uptoBulk ty1.1) underlying23 (by kernel_rfl) (by omega) (fun n cs x hx9 ht _ => da_open ht) th1 (Nat.le_refl _)
 obtain rfl := hsl4.len
 injection el4 with el4; subst el4
 obtain ⟨o5, q5, c5, l5, el5, hsl5, hc5, bl5⟩ := zAT (R := fun m vs (t : Unit) => True) (β := fun _ => 1) (sz := 2) (Rows.uptoBulk ty1.1) underlying23 (by kernel_rfl) (by omega) (fun n cs x hx9 ht _ => ⟨(), trivial, zAp _⟩) th1 (Nat.le_refl _)
 have h5 := zCr l5
 have h6 : l5.length = l4.length := by have e := hsl5.len; injection el5 with el5 _; injection el5 with _ e2 _; omega
 obtain ⟨b, hbt, hbb⟩ := (tm_open _).1 _ _ _ (Nat.le_refl _) th2
 exact ⟨⟨l, l4, b⟩, ⟨_, _, _, _, _, rfl, hsl, hsl4, hbt⟩, by show (l.map fun e => e.ops.length).sum ≤ _; omega, by show (l4.map fun e => e.cons.length).sum ≤ _; omega, by show l4.length ≤ _; omega, by show ZA b ≤ _; omega⟩
theorem open_Pg {H : Type} {enc : TypeId × Value → H} {W : World} {base : Nat} {spare : Nat → Bool} {held : Bool} {r : Reach} {b0 : Nat} {v : Value} {d : DataW H} {ps : List MemPlace} (hval : Value.okWide Tryd.prog W r b0 35 v) (hd : DataW.Trod enc Tryd.prog W base spare held 35 v d ps) :
  ∃ vs p, v = .agg vs.toArray ∧ PgR (zBK W) p vs ∧ zAx p.effects ≤ Rows.uptoBulk d ∧ consN p.datas ≤ Rows.uptoBulk d ∧ p.datas.length ≤ Rows.uptoBulk d ∧ ZA p.body ≤ 2 * Rows.uptoBulk d := by
 obtain ⟨cs, rfl, _⟩ := okWide_struct underlying35 hval
 obtain ⟨fuel, hf⟩ := hd
 obtain ⟨p, h1, h2⟩ := pg_open hf
 exact ⟨cs.toList, p, rfl, h1, h2⟩
end Go.Proofs.YtmdhhjmomilhjaaDoor
namespace Go.Proofs.YtmdhhjmomilhjaaDoor
open Go.Proofs.Tryd
set_option linter.all false
set_option maxRecDepth 4000
open Go.RowKit
abbrev theLaid : List (String × DataW Unit) := Rows.lowerTellsRow.laid
theorem table {W : World} (h : laidMetH Tryd.prog theLaid W) : Tab W := by
 rw [Go.MakeChecks.laidMetH_plain _ _ _ (by kernel_rfl)] at h
 have h2 := h.filter (fun x => x.1 == "internal/strconv.uint64pow10")
 have e : (theLaid.filter fun x => x.1 == "internal/strconv.uint64pow10") = [("internal/strconv.uint64pow10", Go.Lib.tabData .u64 Go.Lib.pow10Tab)] := by kernel_rfl
 rw [e] at h2
 exact Go.Lib.tabIs_of_head (g := 0) (rest := []) (by kernel_rfl) (by kernel_rfl) underlying162 underlying153 (by kernel_rfl) (by kernel_rfl) h2
def litV : DataW Unit → Value
 | .lit (.int k n) => .int k n
 | _ => undef
def zEO : DataW Unit → Array Value
 | .agg l => (l.map litV).toArray
 | _ => #[]
def layTab (h : Array Obj) (g : Nat) (cs : Array Value) : Array Obj := h.modify g fun
 | .cells _ t f => .cells cs t f
 | o => o
noncomputable def zDO (os : Go.Os) : World :=
 { World.holding Tryd.prog os ⟨#[], #[], []⟩ with heap := layTab (layTab (layTab ((World.holding Tryd.prog os ⟨#[], #[], []⟩).heap) 1 (zEO (Rows.laid_math_bits_deBruijn32tab (H := Unit)))) 2 (zEO (Rows.laid_math_bits_deBruijn64tab (H := Unit)))) 0 (zEO (Rows.laid_internal_strconv_uint64pow10 (H := Unit))) }
end Go.Proofs.YtmdhhjmomilhjaaDoor
namespace Go.Proofs.YtmdhhjmomilhjaaDoor
open Go.Proofs.Tryd
set_option linter.all false
set_option maxRecDepth 4000
open Go.ChangeShapes Go.WideShapes Go.ChangeAt Go.RowKit Go.Deep
open Go.WideElems Go.ChangeMaps
theorem rws_arg {H : Type} {enc : TypeId × Value → H} {W : World} {base : Nat} {spare : Nat → Bool} {held : Bool} {r : Reach} {b0 : Nat} {v : Value} {d : DataW H} {ps : List MemPlace} (hval : Value.okWide Tryd.prog W r b0 36 v) (hd : DataW.Trod enc Tryd.prog W base spare held 36 v d ps) :
  ∃ o c l, v = .slice o l.length c ∧ Rws (zBK W) o l.length c l := by
 obtain ⟨o, n, c, rfl⟩ := okWide_slice underlying36 hval
 obtain ⟨fuel, hf⟩ := hd
 obtain ⟨o', q, c', l, e1, hsl, hc, bl⟩ := zAT (R := fun m vs r => RwR m r vs) (β := fun _ => 0) (sz := 2) (Rows.uptoBulk d) underlying36 (by kernel_rfl) (by omega)
  (fun n cs x _ ht _ => by obtain ⟨q, h1⟩ := rw_open ht; exact ⟨q, h1, Nat.zero_le _⟩) hf (Nat.le_refl _)
 simp only [Value.cells, List.cons.injEq, and_true] at e1
 obtain rfl := hsl.len
 rw [e1]
 exact ⟨o', c', l, rfl, hsl⟩
theorem op_arg {H : Type} {enc : TypeId × Value → H} {W : World} {base : Nat} {spare : Nat → Bool} {held : Bool} {r : Reach} {b0 : Nat} {v : Value} {d : DataW H} {ps : List MemPlace} (hval : Value.okWide Tryd.prog W r b0 38 v) (hd : DataW.Trod enc Tryd.prog W base spare held 38 v d ps) : ∃ a b : Bool, v = .agg #[.bool a, .bool b] := by
 obtain ⟨cs, rfl, _⟩ := okWide_struct underlying38 hval
 obtain ⟨fuel, hf⟩ := hd
 obtain ⟨cs9, rfl⟩ : ∃ l : List Value, cs = l.toArray := ⟨cs.toList, by simp⟩
 have hx9 : True := trivial
 obtain ⟨fuel, hf⟩ : ∃ n, DataW.trod enc Tryd.prog W base spare held n 38 cs9 = some (d, ps) := ⟨fuel, by simpa [Value.cells] using hf⟩
 obtain ⟨sn, sys, shl, hx9, shcl, shf⟩ := ZZ underlying38 hf
 obtain ⟨sy0, se0, sh0⟩ := shf 0 _ rfl
 obtain ⟨sy1, se1, sh1⟩ := shf 1 _ rfl
 have shcl2 : (cs9 : List Value).length = 2 := shcl.trans (by kernel_rfl)
 obtain ⟨sc0, sc1, rfl⟩ : ∃ sc0 sc1, cs9 = [sc0, sc1] := by match cs9, shcl2 with | [a0, a1], _ => exact ⟨_, _, rfl⟩
 change DataW.trod enc Tryd.prog W base spare held sn 4 (([sc0, sc1].drop 0).take (Tryd.prog.cellsOf 4)) = some sy0 at sh0
 rw [show Tryd.prog.cellsOf 4 = 1 by kernel_rfl] at sh0
 change DataW.trod enc Tryd.prog W base spare held sn 4 [sc0] = some sy0 at sh0
 change DataW.trod enc Tryd.prog W base spare held sn 4 (([sc0, sc1].drop 1).take (Tryd.prog.cellsOf 4)) = some sy1 at sh1
 rw [show Tryd.prog.cellsOf 4 = 1 by kernel_rfl] at sh1
 change DataW.trod enc Tryd.prog W base spare held sn 4 [sc1] = some sy1 at sh1
 have shys : sys = [sy0, sy1] := by
  match sys, shl with
  | [q0, q1], _ => simp at se0 se1; subst se0 se1; rfl
 subst shys; simp only [List.map_cons, List.map_nil, Rows.uptoBulkAll] at hx9
 obtain ⟨a, e0, _⟩ := DataW.trod_bool underlying4 sh0; injection e0 with e0; subst e0
 obtain ⟨b, e1, _⟩ := DataW.trod_bool underlying4 sh1; injection e1 with e1; subst e1
 exact ⟨a, b, rfl⟩
theorem lowerNames_own : ownKnob Tryd.prog.godebug = none := by kernel_rfl
theorem lowerNames_laid : laidOutB Tryd.prog = true := by kernel_rfl
set_option maxRecDepth 100000 in
theorem lowerNames_contract (H : Type) (enc : TypeId × Value → H) (W : World) (base : Nat) (args : Array Value) (ds gs : List (DataW H)) (before : List MemPlace)
  (hval : ∀ (j : Nat) t v, Tryd.f7.params[j]? = some t → args[j]? = some v → Value.okWide Tryd.prog W .any base t v)
  (hW : DataW.Whole enc Tryd.prog Tryd.f7.params.toList Rows.lowerNamesSpec.vars false W args.toList ds gs before) (hc : ∀ k, (Rows.OpenSpec.upto Rows.lowerNamesSpec).cond = some k → k H (ds ++ gs) = true) (hL : laidMetH Tryd.prog Rows.lowerNamesUptoRow.laid W) :
  Calls Tryd.prog 7 args W fun e W' => ∃ v, e = .returned v ∧ Rows.lowerNamesSpec.post enc Tryd.prog Tryd.f7 false true false false W args v W' := by
 have hW' := hW
 obtain ⟨p, q, hA0, hV, rfl, hfz, hnd⟩ := hW
 have hA : DataW.TrodAll enc Tryd.prog W 0 (fun _ => true) true Tryd.f7.params.toList args.toList ds p := hA0
 rw [Tryd.params7] at hA hval
 obtain ⟨v0, vs0, d0, ds0, p0, q0, e0, rfl, rfl, h0, hA0⟩ := trodAll_cons hA
 obtain ⟨v1, vs1, d1, ds1, p1, q1, e1, rfl, rfl, h1, hA1⟩ := trodAll_cons hA0
 obtain ⟨v2, vs2, d2, ds2, p2, q2, e2, rfl, rfl, h2, hA2⟩ := trodAll_cons hA1
 obtain ⟨v3, vs3, d3, ds3, p3, q3, e3, rfl, rfl, h3, hA3⟩ := trodAll_cons hA2
 obtain ⟨e4, rfl, rfl⟩ := trodAll_nil hA3
 subst e4 e3 e2 e1
 obtain rfl : args = #[v0, v1, v2, v3] := Array.toList_inj.1 e0
 obtain ⟨rfl, rfl⟩ := trodVars_none hV
 have hbulk : Rows.uptoBulkAll [d0, d1, d2, d3] ≤ 1048576 := by have := hc _ rfl; simpa [Rows.uptoSmall] using this
 obtain ⟨vs_p, p, rfl, hv_p, hq1_p, hq2_p, hq3_p, hq4_p⟩ := open_Pg (hval 0 35 v0 rfl rfl) h0
 obtain ⟨n, rfl, hn_⟩ := open_I underlying3 (hval 1 3 v1 rfl rfl) h1
 obtain ⟨o_l, c_l, l, rfl, hs_l⟩ := rws_arg (hval 2 36 v2 rfl rfl) h2
 obtain ⟨sel, tl, rfl⟩ := op_arg (hval 3 38 v3 rfl rfl) h3
 have hA0 := agree_snap W
 have hT : Tab W := table hL
 simp only [Rows.uptoBulkAll] at hbulk
 refine Calls.mono (lowerNames_c (n := n) (sel := sel) (tl := tl) hA0 hv_p hs_l hT (by omega) (by omega) (by omega) (by omega)) fun e W' ⟨v, m', he, hx, hv⟩ => ?_
 subst hv
 exact ⟨_, he, post_law lowerNames_laid (by kernel_rfl) rfl rfl underlying4 rfl hW' hx⟩
theorem lowerNames_laidmet (os : Go.Os) : laidMetH Tryd.prog Rows.lowerNamesUptoRow.laid ((zDO os).forCall (fun _ _ => 0) ⟨#[], #[.agg #[.slice none 0 0, .slice none 0 0, .int .i64 0, .int .i64 0, .string ⟨#[]⟩, .string ⟨#[]⟩, .int .i64 0, .slice none 0 0, .slice none 0 0, .int .i64 0, .string ⟨#[]⟩, .int .i64 0, .slice none 0 0, .slice none 0 0, .int .i64 0, .slice none 0 0, .int .i64 0, .int .i64 0, .string ⟨#[]⟩, .int .i64 0, .slice none 0 0, .slice none 0 0, .int .i64 0], .int .i64 0, .slice none 0 0, .agg #[.bool false, .bool false]], []⟩).memory :=
 laidMet_of_run' 8 (by kernel_rfl) (by kernel_rfl)
theorem lowerNames_reads (os : Go.Os) {H : Type} (enc : TypeId × Value → H) : ∃ places, DataW.whole enc Tryd.prog ((zDO os).forCall (fun _ _ => 0) ⟨#[], #[.agg #[.slice none 0 0, .slice none 0 0, .int .i64 0, .int .i64 0, .string ⟨#[]⟩, .string ⟨#[]⟩, .int .i64 0, .slice none 0 0, .slice none 0 0, .int .i64 0, .string ⟨#[]⟩, .int .i64 0, .slice none 0 0, .slice none 0 0, .int .i64 0, .slice none 0 0, .int .i64 0, .int .i64 0, .string ⟨#[]⟩, .int .i64 0, .slice none 0 0, .slice none 0 0, .int .i64 0], .int .i64 0, .slice none 0 0, .agg #[.bool false, .bool false]], []⟩).memory Tryd.f7.params.toList Rows.lowerNamesSpec.vars false #[.agg #[.slice none 0 0, .slice none 0 0, .int .i64 0, .int .i64 0, .string ⟨#[]⟩, .string ⟨#[]⟩, .int .i64 0, .slice none 0 0, .slice none 0 0, .int .i64 0, .string ⟨#[]⟩, .int .i64 0, .slice none 0 0, .slice none 0 0, .int .i64 0, .slice none 0 0, .int .i64 0, .int .i64 0, .string ⟨#[]⟩, .int .i64 0, .slice none 0 0, .slice none 0 0, .int .i64 0], .int .i64 0, .slice none 0 0, .agg #[.bool false, .bool false]].toList 30 = some ([.agg [.nil, .nil, .agg [.lit (.int .i64 0), .lit (.int .i64 0), .lit (.string []), .lit (.string []), .lit (.int .i64 0), .nil, .nil, .agg [.lit (.int .i64 0), .lit (.string []), .lit (.int .i64 0), .nil, .agg [.nil, .lit (.int .i64 0)]], .agg [.nil, .lit (.int .i64 0)], .agg [.lit (.int .i64 0), .lit (.string []), .lit (.int .i64 0), .nil, .agg [.nil, .lit (.int .i64 0)]]]], .lit (.int .i64 0), .nil, .agg [.lit (.bool false), .lit (.bool false)]], [], places) :=
 ⟨[], by kernel_rfl⟩
set_option maxRecDepth 100000 in
theorem lowerNames_lifted (os : Go.Os) (started : os.Started) (H : Type) (enc : TypeId × Value → H) (F : Stop.Interp) :
  ReturnsInHanded {} Tryd.checked os 7 .any ((Rows.OpenSpec.upto Rows.lowerNamesSpec).preRow enc Tryd.prog Tryd.f7 Rows.lowerNamesUptoRow.domain false Rows.lowerNamesUptoRow.laid) (((Rows.OpenSpec.upto Rows.lowerNamesSpec).at F).post enc Tryd.prog Tryd.f7 false true false false) := by
 obtain ⟨places, hx⟩ := lowerNames_reads os enc
 refine returnsInHanded_of_row (C := Tryd.checked) (s := (Rows.OpenSpec.upto Rows.lowerNamesSpec)) lowerNames_own started (by kernel_rfl) func7
  (witness_row_at (enc := enc) (C := Tryd.checked) false (zDO os) #[.agg #[.slice none 0 0, .slice none 0 0, .int .i64 0, .int .i64 0, .string ⟨#[]⟩, .string ⟨#[]⟩, .int .i64 0, .slice none 0 0, .slice none 0 0, .int .i64 0, .string ⟨#[]⟩, .int .i64 0, .slice none 0 0, .slice none 0 0, .int .i64 0, .slice none 0 0, .int .i64 0, .int .i64 0, .string ⟨#[]⟩, .int .i64 0, .slice none 0 0, .slice none 0 0, .int .i64 0], .int .i64 0, .slice none 0 0, .agg #[.bool false, .bool false]] rfl (by kernel_rfl) (by kernel_rfl) (by kernel_rfl)
   (OpenSpec.preRow_of_cond 30 hx (by kernel_rfl) (fun k hk => by cases hk; kernel_rfl) (by kernel_rfl) (lowerNames_laidmet os))) ?_
 intro W base args ds gs before hval hW _ hc _ hL _ _
 exact lowerNames_contract H enc W base args ds gs before hval hW hc hL
theorem lowerNames_said : Rows.LowerNamesUptoSaid :=
 OpenClaim.holds_of_cond 7 Tryd.f7 rfl rfl rfl rfl rfl rfl rfl ⟨rfl, rfl, rfl, rfl, rfl⟩ rfl rfl rfl rfl rfl (by kernel_rfl) func7 (by kernel_rfl)
  (of_decide_eq_true (by kernel_rfl)) (by unfold Func.isWrapper; first | (rw [if_pos (by decide +kernel)]; kernel_rfl) | (rw [if_neg (by decide +kernel)]; exact ⟨rfl, rfl⟩))
  (fun os started H enc _ F => by rw [OpenClaim.pre_eq_preRow]; exact lowerNames_lifted os started H enc F)
theorem lowerNames_plain (f : FuncId) (fn : Func) (hf : Tryd.pinned.checked.prog.funcNamed "brocade/brocadelaw17.LowerNames" = some f) (hfn : Tryd.pinned.checked.prog.funcs[f]? = some fn) :
  false = Tryd.pinned.checked.prog.looks [] ∧ ∀ (j : Nat) t, fn.params[j]? = some t → Tryd.pinned.checked.prog.wantsStandIn t = false := by
 obtain rfl : f = 7 := Option.some.inj ((show Tryd.prog.funcNamed "brocade/brocadelaw17.LowerNames" = some 7 by kernel_rfl).symm.trans hf) |>.symm
 obtain rfl : fn = Tryd.f7 := (Option.some.inj (func7.symm.trans hfn)).symm
 refine ⟨by kernel_rfl, fun j t ht => ?_⟩
 rw [Tryd.params7] at ht
 have hm : t ∈ [35, 3, 36, 38] := by simpa using Array.mem_of_getElem? ht
 have hall : ([35, 3, 36, 38].all fun u => !Tryd.prog.wantsStandIn u) = true := by kernel_rfl
 exact (show Tryd.prog.wantsStandIn t = false by simpa using List.all_eq_true.1 hall t hm)
theorem lowerNames_holds : Rows.LowerNamesUptoCardSaid :=
 Claim7.holds_tied_plain_at .later [] _ _ _ _ lowerNames_said (fun _ h => by cases h) (by kernel_rfl) (fun _ h => by cases h) lowerNamesUpto_row_tie rfl ⟨rfl, rfl⟩ (by kernel_rfl) rfl lowerNames_plain (by kernel_rfl)
end Go.Proofs.YtmdhhjmomilhjaaDoor
