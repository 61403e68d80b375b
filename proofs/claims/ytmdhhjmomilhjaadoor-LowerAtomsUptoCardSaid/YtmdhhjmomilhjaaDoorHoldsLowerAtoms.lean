/-
  The law's proof, whole. Conditions: those of each theorem.
-/
import Derived.Test.YtmdhhjmomilhjaaDoorSqD
import Derived.ProofKit
import Derived.Carry
import Derived.ChangeSame
import Derived.ShutString
import Derived.Deep.Slices
import Derived.Deep.Fields
import Derived.LaidSub
import Derived.MakeChecks
import Derived.LaidLaws
import Derived.Lib.LaidTab
import Derived.OpenShut
import Derived.Deep.DeepHandedRow
import Derived.Test.YtmdhhjmomilhjaaDoorRows
import Derived.Test.YtmdhhjmomilhjaaDoorCards
import Derived.Test.YtmdhhjmomilhjaaDoorTie
namespace Go.Proofs.YtmdhhjmomilhjaaDoor
open Go.Proofs.Tryd
set_option linter.all false
set_option maxRecDepth 4000
open Go.RowKit
abbrev Rws (m : Mem) (o : Option Addr) (n c : Nat) (l : List Rw) : Prop := Sl (fun m vs r => RwR m r vs) 2 m o n c l
theorem Rws.mono {m m' : Mem} {o : Option Addr} {n c : Nat} {l : List Rw} (h : Rws m o n c l) (hm : MLe m m') : Rws m' o n c l := Sl.mono h (fun _ _ e => e.mono hm) hm
def zCR (l : List Rw) (n : Nat) (r : Rw) : Rw := if l = [] then r else l.getD (n % l.length) r
mutual
def zAB (l : List Rw) : Tm → Nat → Tm
 | ⟨k, a, s, p, v, ks, az, r⟩, n => ⟨k, a, s, p, v, Zj l ks (n + 1), Zs l az (n + 1 + zQ ks), zCR l n r⟩
def Zj (l : List Rw) : List Tm → Nat → List Tm
 | [], _ => []
 | t :: ts, n => zAB l t n :: Zj l ts (n + zO t)
def Zs (l : List Rw) : List Ar → Nat → List Ar
 | [], _ => []
 | ⟨s, v, b⟩ :: ts, n => ⟨s, v, zAB l b n⟩ :: Zs l ts (n + zO b)
end
def zDj (l : List Rw) (a : Ar) (n : Nat) : Ar := ⟨a.name, a.vars, zAB l a.body n⟩
theorem zCB (l : List Rw) (t : Tm) (n : Nat) : zAB l t n = ⟨t.kind, t.at_, t.name, t.param, t.n, Zj l t.kids (n + 1), Zs l t.arms (n + 1 + zQ t.kids), zCR l n t.row⟩ := by obtain ⟨k, a, s, p, v, ks, az, r⟩ := t; rw [zAB]; rfl
theorem zBE (l : List Rw) (a : Ar) (ts : List Ar) (n : Nat) : Zs l (a :: ts) n = zDj l a n :: Zs l ts (n + zO a.body) := by obtain ⟨s, v, b⟩ := a; rw [Zs]; rfl
def MP.rowsV (l : List Rw) (t : Tm) (n : Nat) : MP := MP.mem (fun y : TmY => .tuple #[.agg (tmV (zAB l t n) y).toArray, .int .i64 ((n + zO t : Nat) : Int)]) (fun y m => TmR m (zAB l t n) (tmV (zAB l t n) y)) fun hm h => h.mono hm
-- what is so of a term is so of it with other rows
theorem zCe {l : List Rw} : ∀ {ks : List Tm} {n : Nat} {u : Tm}, u ∈ Zj l ks n → ∃ v ∈ ks, ∃ k, u = zAB l v k
 | [], _, _, h => by simp [Zj] at h
 | t :: ts, n, u, h => by
  rw [Zj] at h
  rcases List.mem_cons.1 h with rfl | h
  ·exact ⟨t, .head _, n, rfl⟩
  ·obtain ⟨v, hv, k, e⟩ := zCe h; exact ⟨v, .tail _ hv, k, e⟩
theorem zCc {l : List Rw} : ∀ {az : List Ar} {n : Nat} {a : Ar}, a ∈ Zs l az n → ∃ b ∈ az, ∃ k, a = zDj l b k
 | [], _, _, h => by simp [Zs] at h
 | t :: ts, n, u, h => by
  rw [zBE] at h
  rcases List.mem_cons.1 h with rfl | h
  ·exact ⟨t, .head _, n, rfl⟩
  ·obtain ⟨v, hv, k, e⟩ := zCc h; exact ⟨v, .tail _ hv, k, e⟩
theorem zEe (l : List Rw) : ∀ (ks : List Tm) (n : Nat), (Zj l ks n).length = ks.length
 | [], _ => by simp [Zj]
 | t :: ts, n => by rw [Zj, List.length_cons, zEe l ts]; rfl
theorem LwT.rows {t : Tm} (l : List Rw) (h : LwT t) : ∀ n, LwT (zAB l t n) := by
 induction t using Tm.rec_ with
 | h t ihk iha =>
  intro n
  rw [zCB]
  refine .mk ?_ (fun u hu => ?_) (fun a ha => ?_)
  ·rcases h.here with ⟨h1, h2⟩ | ⟨h1, h2, h3, h4⟩
   ·refine .inl ⟨?_, fun a b => ?_⟩
    ·have e := zEe l t.kids (n + 1); have h1' := h1; rw [← e] at h1'; exact h1'
    ·show Zs l t.arms _ = []; rw [h2 a b]; simp [Zs]
   ·exact .inr ⟨h1, h2, by show Zj l t.kids _ = []; rw [h3]; simp [Zj], by show Zs l t.arms _ = []; rw [h4]; simp [Zs]⟩
  ·obtain ⟨v, hv, k, rfl⟩ := zCe hu; exact ihk v hv (h.kid hv) k
  ·obtain ⟨v, hv, k, rfl⟩ := zCc ha; exact iha v hv (h.arm hv) k
theorem ClT.rows {t : Tm} (l : List Rw) (h : ClT t) : ∀ n, ClT (zAB l t n) := by
 induction t using Tm.rec_ with
 | h t ihk iha =>
  intro n
  rw [zCB]
  refine .mk h.here (fun u hu => ?_) (fun a ha => ?_)
  ·obtain ⟨v, hv, k, rfl⟩ := zCe hu; exact ihk v hv (h.kid hv) k
  ·obtain ⟨v, hv, k, rfl⟩ := zCc ha; exact iha v hv (h.arm hv) k
theorem rows_count (l : List Rw) (t : Tm) : ∀ n, zO (zAB l t n) = zO t := by
 induction t using Tm.rec_ with
 | h t ihk iha =>
  intro n
  have hk : ∀ (ks : List Tm), (∀ u ∈ ks, u ∈ t.kids) → ∀ n, zQ (Zj l ks n) = zQ ks := by
   intro ks
   induction ks with
   | nil => intro _ n; simp [Zj]
   | cons u ks ih => intro hl n; rw [Zj, zQ, zQ, ihk u (hl u (.head _)), ih (fun u hu => hl u (.tail _ hu))]
  have ha : ∀ (az : List Ar), (∀ u ∈ az, u ∈ t.arms) → ∀ n, zm (Zs l az n) = zm az := by
   intro az
   induction az with
   | nil => intro _ n; simp [Zs]
   | cons u az ih => intro hl n; rw [zBE, zw, zw, ih (fun u hu => hl u (.tail _ hu)), show (zDj l u n).body = zAB l u.body n from rfl, iha u (hl u (.head _))]
  rw [zq, zq t, zCB]
  show 1 + zQ (Zj l t.kids (n + 1)) + zm (Zs l t.arms (n + 1 + zQ t.kids)) = _
  rw [hk _ (fun _ h => h), ha _ (fun _ h => h)]
theorem rows_bulk (l : List Rw) (t : Tm) : ∀ n, ZD (zAB l t n) = ZD t := by
 induction t using Tm.rec_ with
 | h t ihk iha =>
  intro n
  have hk : ∀ (ks : List Tm), (∀ u ∈ ks, u ∈ t.kids) → ∀ n, Zy (Zj l ks n) = Zy ks := by
   intro ks
   induction ks with
   | nil => intro _ n; simp [Zj]
   | cons u ks ih => intro hl n; rw [Zj, Zy, Zy, ihk u (hl u (.head _)), ih (fun u hu => hl u (.tail _ hu))]
  have ha : ∀ (az : List Ar), (∀ u ∈ az, u ∈ t.arms) → ∀ n, Zl (Zs l az n) = Zl az := by
   intro az
   induction az with
   | nil => intro _ n; simp [Zs]
   | cons u az ih =>
    intro hl n
    have := iha u (hl u (.head _)) n
    have := ih (fun u hu => hl u (.tail _ hu)) (n + zO u.body)
    rw [zBE]; obtain ⟨s, v, b⟩ := u
    simp only [zDj, Ar.name, Ar.vars, Ar.body, Zl] at *; omega
  rw [Zk, Zk t, zCB]
  have h1 := hk t.kids (fun _ h => h) (n + 1); have h2 := ha t.arms (fun _ h => h) (n + 1 + zQ t.kids)
  simp only [Tm.name, Tm.param, Tm.kids, Tm.arms]; simp only [Tm.name, Tm.param, Tm.kids, Tm.arms] at h1 h2; omega
def MP.someV (B : Nat) : MP := MP.mem (fun y : (Tm × TmY) × Bool => .tuple #[.agg (tmV y.1.1 y.1.2).toArray, .bool y.2]) (fun y m => TmR m y.1.1 (tmV y.1.1 y.1.2) ∧ LwT y.1.1 ∧ zO y.1.1 ≤ 300 ∧ ZD y.1.1 ≤ B ∧ ClT y.1.1) fun hm h => ⟨h.1.mono hm, h.2⟩
theorem low_of {t : Tm} (h : RtT t ∨ t = Zw) : LwT t := h.elim (·.low) (fun e => e ▸ zero_low)
def intT (n : Int) : Tm := ⟨2, 0, [], [], n, [], [], ⟨[], 0⟩⟩
def shT : Tm := zDa (zDn [102]) (zDa (zDn [103]) (intT 1))
def intC (n : Int) : Cd := ⟨2, [], [], n, [], []⟩
def shA : Cd := ⟨6, [], [], 0, [zBo [103], intC 1], []⟩
def shB : Cd := ⟨6, [], [], 0, [zBo [102], zBo (Zx 1)], []⟩
theorem low_var (s : Str) : LwT (zDn s) := .mk (.inl ⟨.inl rfl, fun _ _ => rfl⟩) (fun _ h => nomatch h) (fun _ h => nomatch h)
theorem low_int (n : Int) : LwT (intT n) := .mk (.inl ⟨.inl rfl, fun _ _ => rfl⟩) (fun _ h => nomatch h) (fun _ h => nomatch h)
theorem low_call {f a : Tm} (h : LwT f) (h2 : LwT a) : LwT (zDa f a) := .mk (.inl ⟨.inl rfl, fun _ _ => rfl⟩) (fun u hu => by
 rcases List.mem_cons.1 hu with rfl | hu
 ·exact h
 ·rw [List.mem_singleton] at hu; subst hu; exact h2) (fun a ha => by cases ha)
theorem nameQ_1 : Zx 1 = [39, 49] := by unfold Zx; rw [dec_eq, if_pos (by omega)]; rfl
theorem lowT_sh : zEV true false shT = cd2 8 (Zx 1) [] shA shB := by
 have h1 : zO shT = 5 := by decide
 unfold zEV; rw [h1]; rfl
theorem CdR.at_y {m : Mem} {t : Cd} {y : CdY} (h : CdR m t (cdV t y)) : Cds m y.o1 t.kids.length y.c1 t.kids ∧ Cas m y.o2 t.arms.length y.c2 t.arms := by
 obtain ⟨⟨a, b, c, d⟩, e, _, h1, h2⟩ := h.open_
 obtain ⟨a', b', c', d'⟩ := y
 simp only [cdV, List.cons.injEq, Value.slice.injEq, true_and, and_true] at e
 obtain ⟨⟨rfl, rfl⟩, rfl, rfl⟩ := e
 exact ⟨h1, h2⟩
theorem zBu {α : Type} {l r : List α} {k : Nat} {x c : α} (h : l.drop k = x :: r) (hc : l[k]? = some c) : x = c := by
 have := zAa h; rw [hc] at this; injection this with e; exact e.symm
abbrev rows_G (t : Tm) : Prop := ∀ {w : World} {m : Mem} {vs_t : List Value} {o_rl : Option Addr} {c_rl : Nat} {rl : List Rw} {n : Nat} (hA : Agree w m) (h_t : TmR m t vs_t) (h_rl : Rws m o_rl rl.length c_rl rl) (hb : n + zO t ≤ 1000000000), FnV Tryd.prog 21 #[.agg vs_t.toArray, .slice o_rl rl.length c_rl, .int .i64 (n : Int)] w m (fun _ m v => (MP.rowsV rl t n).p m v)
set_option maxHeartbeats 3200000 in
theorem rows_s {t : Tm} (ihk : ∀ u ∈ t.kids, rows_G u) (iha : ∀ a ∈ t.arms, rows_G a.body) {w : World} {m : Mem} {vs_t : List Value} {o_rl : Option Addr} {c_rl : Nat} {rl : List Rw} {n : Nat} (hA : Agree w m) (h_t : TmR m t vs_t) (h_rl : Rws m o_rl rl.length c_rl rl) (hb : n + zO t ≤ 1000000000) : FnV Tryd.prog 21 #[.agg vs_t.toArray, .slice o_rl rl.length c_rl, .int .i64 (n : Int)] w m (fun _ m v => (MP.rowsV rl t n).p m v) := by
 obtain ⟨⟨oK_t, cK_t, oA_t, cA_t, oR_t, cR_t, t0_t, t1_t, t2_t, t3_t, t4_t, t5_t, u0_t, u1_t, u2_t, u3_t, u4_t, u5_t⟩, rfl, hon_t, hkk_t, haa_t, hrr_t⟩ := h_t.open_
 dsimp only at hkk_t haa_t hrr_t
 have hbg_t := hkk_t.big; have hcp_t := hkk_t.cap; have hbh_t := haa_t.big; have hcq_t := haa_t.cap
 have hb_rl := h_rl.big; have hc_rl := h_rl.cap
 refine zX (vs := [_, _, _]) func21 rfl rfl rfl fun a0 hfr0 => ?_
 have hst0 := zV hA (zi [] _ w m)
 have hM : MLe m m := MLe.refl m
 have hce := zq t
 have hkl_ := Z6 t.kids
 have hal_ := zAK t.arms
 have htm : (n : Int).tmod (rl.length : Int) = ((n % rl.length : Nat) : Int) := rfl
 refine zB fun _ hK1 => ?_
 replace hst0 := hst0.more (r := .free) trivial List.nodup_nil (by simp [Res.blocks])
 refine ra0 (tch := [(1, 0, (fun v => .blk v _))]) hst0 hfr0 (.cons rfl (z7 rfl rfl) <| .consT rfl rfl (fun _ => rfl) rfl (zR zeroValue33 rfl) <| .cons rfl (zC rfl) <| .nil) fun a1 w1 m1 hst1 hle1 hk1 => ?_
 have hfr1 := hk1.fr (.o 1 <| .o 2 <| .nil)
 obtain ⟨g2, e2, hc3⟩ := hk1.ex 3 rfl
 replace hfr1 := hfr1.cons e2
 obtain ⟨g3, e3, _⟩ := hk1.ex 6 rfl
 replace hfr1 := hfr1.cons e3
 replace hst1 := hst1.fin (L' := [_]) (.cons e3 <| .nil)
 replace h_t := h_t.mono hle1
 replace hkk_t := hkk_t.mono hle1
 replace haa_t := haa_t.mono hle1
 replace hrr_t := hrr_t.mono hle1
 replace h_rl := h_rl.mono hle1
 clear hst0 hfr0 hk1
 refine hK1 _ _ ?_
 refine zB fun _ hK4 => ?_
 replace hst1 := hst1.more (r := .free) trivial List.nodup_nil (by simp [Res.blocks])
 refine ra0 (tch := [(1, 1, (fun v => .blk v _)), (2, 1, (fun v => .blk v _))]) hst1 hfr1 (.cons rfl (zN rfl hc3 isAgg33 sizeOf33 rfl rfl) <| .consT rfl rfl (fun _ => rfl) rfl (zR zeroValue33 rfl) <| .consT rfl rfl (fun _ => rfl) rfl (zU 8 rfl rfl rfl fun y8 => zd rfl rfl rfl rfl rfl sizeOf33 rfl rfl h_t.one) <| .nil) fun a2 w2 m2 hst2 hle2 hk2 => ?_
 have hfr2 := hk2.fr (.o 1 <| .o 2 <| .o 3 <| .o 6 <| .nil)
 obtain ⟨gB, e5, _⟩ := hk2.ex 8 rfl
 replace hfr2 := hfr2.cons e5
 replace hst2 := hst2.fin (L' := [_, _]) (.cons e5 <| .cons e5 <| .nil)
 try simp only [List.take_succ_cons, List.take_zero, List.drop_succ_cons, List.drop_zero, List.cons_append, List.nil_append, List.append_nil, List.length_cons, List.length_nil, Nat.zero_add, Nat.reduceAdd] at hst2
 replace hkk_t := hkk_t.mono hle2
 replace haa_t := haa_t.mono hle2
 replace hrr_t := hrr_t.mono hle2
 replace h_rl := h_rl.mono hle2
 replace hc3 := hc3.mono hle2
 clear hst1 hfr1 hk2
 refine hK4 _ _ ?_
 refine zB fun _ hK6 => ?_
 refine ra0 (tch := [(1, 1, (fun _ => .blk _ _))]) hst2 hfr2 (.cons rfl (zA (off := 5) rfl underlying33 rfl rfl sizeOf24 rfl) <| .consT rfl rfl (fun _ => rfl) rfl (ZG rfl rfl rfl sizeOf24 rfl rfl rfl) <| .nil) fun a3 w3 m3 hst3 hle3 hk3 => ?_
 have hfr3 := hk3.fr (.o 1 <| .o 2 <| .o 3 <| .o 6 <| .o 8 <| .nil)
 replace hst3 := hst3.fin (L' := [_, _]) (.cons rfl <| .nil)
 try simp only [List.take_succ_cons, List.take_zero, List.drop_succ_cons, List.drop_zero, List.cons_append, List.nil_append, List.append_nil, List.length_cons, List.length_nil, Nat.zero_add, Nat.reduceAdd] at hst3
 replace hkk_t := hkk_t.mono hle3
 replace haa_t := haa_t.mono hle3
 replace hrr_t := hrr_t.mono hle3
 replace h_rl := h_rl.mono hle3
 replace hc3 := hc3.mono hle3
 clear hst2 hfr2 hk3
 refine hK6 _ _ ?_
 refine zB fun _ hK7 => ?_
 refine ra0 (tch := [(1, 1, (fun _ => .blk _ _))]) hst3 hfr3 (.cons rfl (zA (off := 6) rfl underlying33 rfl rfl sizeOf25 rfl) <| .consT rfl rfl (fun _ => rfl) rfl (ZG rfl rfl rfl sizeOf25 rfl rfl rfl) <| .nil) fun a4 w4 m4 hst4 hle4 hk4 => ?_
 have hfr4 := hk4.fr (.o 1 <| .o 2 <| .o 3 <| .o 6 <| .o 8 <| .nil)
 replace hst4 := hst4.fin (L' := [_, _]) (.cons rfl <| .nil)
 try simp only [List.take_succ_cons, List.take_zero, List.drop_succ_cons, List.drop_zero, List.cons_append, List.nil_append, List.append_nil, List.length_cons, List.length_nil, Nat.zero_add, Nat.reduceAdd] at hst4
 replace hkk_t := hkk_t.mono hle4
 replace haa_t := haa_t.mono hle4
 replace hrr_t := hrr_t.mono hle4
 replace h_rl := h_rl.mono hle4
 replace hc3 := hc3.mono hle4
 clear hst3 hfr3 hk4
 have hst4 := hst4.more (r := .rowx (.slice none 0 0) 0 21 33 (MP.reads (fun m vs t => TmR m t vs) 21 [])) zAE List.nodup_nil (by simp [Res.blocks, z6])
 have hsl_K : Tms m4 none ([] : List Tm).length 0 ([] : List Tm) := Sl.empty
 have hst4 := hst4.more (r := .rowx (.slice none 0 0) 0 23 72 (MP.reads (fun m vs t => ArR m t vs) 23 [])) zAE List.nodup_nil (by simp [Res.blocks, z6])
 have hsl_A : Ars m4 none ([] : List Ar).length 0 ([] : List Ar) := Sl.empty
 refine hK7 _ _ ?_
 refine zAR (T := [(1, _), (2, _), (3, _), (6, _), (8, _)]) (fun (y : Rw × Option Addr × Nat) => ([] : List (Nat × Value))) (fun y => [_, .blk (.pointer (some ⟨gB, 0, none⟩)) (.cells (tmV ⟨t.kind, t.at_, t.name, t.param, t.n, [], [], y.1⟩ (⟨none, 0, none, 0, y.2.1, y.2.2, t0_t, t1_t, t2_t, t3_t, t4_t, t5_t, u0_t, u1_t, u2_t, u3_t, u4_t, u5_t⟩ : TmY)).toArray 33), _, _]) (fun (y : Rw × Option Addr × Nat) m => (fun (rr : Rw) (orr : Option Addr) (crr : Nat) => (rr = zCR rl n t.row) ∧ (RwR m rr [.slice orr rr.labels.length crr, .int .i64 rr.var])) y.1 y.2.1 y.2.2) ((t.row, oR_t, cR_t)) ⟨hst4, MLe.refl _, hfr4.sub (.c <| .c <| .c <| .c <| .c <| .nil), trivial⟩ (fun y a5 w5 m5 hh5 => ?_) (fun K8 hj8 => ?_)
 ·have hst5 := hh5.st; have hle5 := hh5.le; have hfr5 := hh5.fr; have hrel := hh5.rel; clear hh5
  clear hst4 hfr4
  obtain ⟨rr, orr, crr⟩ := y
  dsimp only at hrel hfr5 hst5
  obtain ⟨hrr9, hrw9⟩ := hrel
  subst hrr9
  refine zB fun _ hK9 => ?_
  refine rp0 hst5 hfr5 (.cons rfl (zD rfl) <| .cons rfl (zk rfl rfl ⟨by omega, by omega⟩) <| .cons rfl (zC rfl) <| .nil) fun a6 w6 m6 hst6 hle6 hk6 => ?_
  have hfr6 := hk6.fr (.o 1 <| .o 3 <| .o 6 <| .o 8 <| .n 2 <| .nil)
  clear hst5 hfr5 hk6
  rw [show (n : Int) + 1 = ((n + 1 : Nat) : Int) by omega] at hfr6
  refine hK9 _ _ ?_
  refine zB fun _ hK10 => ?_
  refine zB fun _ hK11 => ?_
  refine rp0 hst6 hfr6 (.cons rfl (zC rfl) <| .nil) fun a7 w7 m7 hst7 hle7 hk7 => ?_
  have hfr7 := hk7.fr (.o 1 <| .o 3 <| .o 6 <| .o 8 <| .o 2 <| .n 9 <| .nil)
  clear hst6 hfr6 hk7
  refine hK11 _ _ ?_
  refine zL ?_
  have zq1 := hle6.trans hle7
  have zq2 := hle5.trans zq1
  replace hsl_K := hsl_K.mono zq2
  refine zf (T := [(1, _), (3, _), (6, _), (8, _)]) (fun (y : Nat × Nat × Option Addr × Nat × List Tm) => ([(2, .int .i64 (y.2.1 : Int)), (9, .int .i64 (y.1 : Int))] : List (Nat × Value))) (fun y => [_, .blk (.pointer (some ⟨gB, 0, none⟩)) (.cells (tmV ⟨t.kind, t.at_, t.name, t.param, t.n, y.2.2.2.2, [], (zCR rl n t.row)⟩ (⟨y.2.2.1, y.2.2.2.1, none, 0, orr, crr, t0_t, t1_t, t2_t, t3_t, t4_t, t5_t, u0_t, u1_t, u2_t, u3_t, u4_t, u5_t⟩ : TmY)).toArray 33), .rowx (nz (.slice y.2.2.1 y.2.2.2.2.length y.2.2.2.1)) y.2.2.2.2.length 21 33 (MP.reads (fun m vs t => TmR m t vs) 21 y.2.2.2.2), _]) (fun (y : Nat × Nat × Option Addr × Nat × List Tm) m => (fun (y : Nat) (v : Nat) (klo : Option Addr) (klp : Nat) (kl : List Tm) => (y ≤ t.kids.length) ∧ (Tms m klo kl.length klp kl) ∧ (Zj rl t.kids (n + 1) = kl ++ Zj rl (t.kids.drop y) v ∧ kl.length = y) ∧ (v + zQ (t.kids.drop y) = n + 1 + zQ t.kids)) y.1 y.2.1 y.2.2.1 y.2.2.2.1 y.2.2.2.2) (fun y => t.kids.length - y.1) ((0, (n + 1), none, 0, ([] : List Tm))) ⟨hst7, MLe.refl _, hfr7.sub (.c <| .c <| .c <| .c <| .c <| .c <| .nil), ⟨Nat.zero_le _, hsl_K, ⟨rfl, rfl⟩, rfl⟩⟩ fun y a8 w8 m8 hh8 => ?_
  have hst8 := hh8.st; have hle8 := hh8.le; have hfr8 := hh8.fr; have hrel := hh8.rel; clear hh8
  clear hst7 hfr7
  obtain ⟨y, v, klo, klp, kl⟩ := y
  dsimp only at hrel hfr8 hst8
  obtain ⟨hyn, hsl_kl, hlen_kl, hck⟩ := hrel
  have hlh8 := hle8
  refine zB fun _ hK13 => ?_
  refine zB fun _ hK14 => ?_
  have zq3 := zq2.trans hle8
  replace hc3 := hc3.mono zq3
  refine rp0 hst8 hfr8 (.cons rfl (zD rfl) <| .cons rfl (zA (off := 5) rfl underlying33 rfl rfl sizeOf24 rfl) <| .cons rfl (zE rfl hc3 isAgg24 rfl) <| .cons rfl (zY rfl underlying24) <| .cons rfl (zx rfl rfl) <| .nil) fun a9 w9 m9 hst9 hle9 hk9 => ?_
  have hfr9 := hk9.fr (.o 2 <| .o 9 <| .o 1 <| .o 3 <| .o 6 <| .o 8 <| .n 36 <| .nil)
  clear hst8 hfr8 hk9
  refine hK14 _ _ ?_
  refine zF hfr9 rfl rfl (fun hb36 => ?_) (fun hb36 => ?_)
  ·try simp only [nqs] at hb36
   refine zJ ?_
   refine hK13 _ _ ?_
   refine zB fun _ hK15 => ?_
   refine zL ?_
   refine zB fun _ hK16 => ?_
   refine zu 8 (by kernel_rfl) ?_
   have zq4 := zq3.trans hle9
   replace hkk_t := hkk_t.mono zq4
   obtain ⟨p17, vs17, x17, ho17, hd17, hm_x17, ht17, hcv17, hl17, hv17⟩ := hkk_t.nth (k := y) (by omega)
   cases ho17
   obtain ⟨⟨oK17, cK17, oA17, cA17, oR17, cR17, t017, t117, t217, t317, t417, t517, u017, u117, u217, u317, u417, u517⟩, rfl, hon17, hkk17, haa17, hrr17⟩ := hv17.open_
   dsimp only at hkk17 haa17 hrr17
   have hbg17 := hkk17.big; have hcp17 := hkk17.cap; have hbh17 := haa17.big; have hcq17 := haa17.cap
   rw [hd17] at hlen_kl hck
   rw [Zj] at hlen_kl; rw [zQ] at hck
   replace h_rl := h_rl.mono zq4
   replace hc3 := hc3.mono hle9
   refine zh (tch := []) hst9 hfr9 (by kernel_rfl) (by kernel_rfl) (by kernel_rfl) (.cons rfl (zA (off := 5) rfl underlying33 rfl rfl sizeOf24 rfl) <| .cons rfl (zE rfl hc3 isAgg24 rfl) <| .cons rfl (zD rfl) <| .cons rfl (zH (k := y) rfl rfl underlying24 sizeOf33 rfl (by omega)) <| .cons rfl (zN rfl hcv17 isAgg33 sizeOf33 rfl rfl) <| .cons rfl (zD rfl) <| .cons rfl (zD rfl) <| .cons rfl (zr (φ := MP.rowsV rl x17 v) rfl (.cons rfl <| .cons rfl <| .cons rfl <| .nil) call21 (fun w m hK => by have hle_ := KC.le hK; have hA := KC.agree hK; have h_rl := h_rl.mono hle_; have hv17 := hv17.mono hle_; exact FnG.mono (ihk _ hm_x17 hA hv17 h_rl (by omega)) fun _ _ _ _ h => h)) <| .nil) fun a10 w10 m10 hst10 hle10 hk10 => ?_
   have hfr10 := hk10.fr (.o 2 <| .o 9 <| .o 1 <| .o 3 <| .o 6 <| .o 8 <| .nil)
   obtain ⟨yr, e18, hyr⟩ := hk10.ex 47 rfl
   replace hfr10 := hfr10.cons e18
   clear hst9 hfr9 hk10
   replace hst10 := hst10.more (r := .free) trivial List.nodup_nil (by simp [Res.blocks])
   refine zh (tch := [(3, 4, (fun v => .blk v _)), (4, 4, (fun v => .blk v _))]) hst10 hfr10 (by kernel_rfl) (by kernel_rfl) (by kernel_rfl) (.cons rfl (zD rfl) <| .cons rfl (zS rfl rfl) <| .cons rfl (zS rfl rfl) <| .consT rfl rfl (fun _ => rfl) rfl (zR zeroValue33 rfl) <| .consT rfl rfl (fun _ => rfl) rfl (zU 10 rfl rfl rfl fun y10 => zd rfl rfl rfl rfl rfl sizeOf33 rfl rfl hyr.one) <| .cons rfl (zC rfl) <| .nil) fun a11 w11 m11 hst11 hle11 hk11 => ?_
   have hfr11 := hk11.fr (.o 2 <| .o 9 <| .o 1 <| .o 3 <| .o 6 <| .o 8 <| .o 47 <| .n 11 <| .nil)
   obtain ⟨g19, e19, _⟩ := hk11.ex 10 rfl
   replace hfr11 := hfr11.cons e19
   replace hst11 := hst11.fin (L' := [_, _, _, _, _]) (.cons e19 <| .cons e19 <| .nil)
   try simp only [List.take_succ_cons, List.take_zero, List.drop_succ_cons, List.drop_zero, List.cons_append, List.nil_append, List.append_nil, List.length_cons, List.length_nil, Nat.zero_add, Nat.reduceAdd] at hst11
   clear hst10 hfr10 hk11
   refine hK16 _ _ ?_
   refine zB fun _ hK20 => ?_
   refine rp0 hst11 hfr11 (.cons rfl (zD rfl) <| .cons rfl (zC rfl) <| .nil) fun a12 w12 m12 hst12 hle12 hk12 => ?_
   have hfr12 := hk12.fr (.o 9 <| .o 1 <| .o 3 <| .o 6 <| .o 8 <| .o 10 <| .n 2 <| .nil)
   clear hst11 hfr11 hk12
   refine hK20 _ _ ?_
   have zq5 := hle11.trans hle12
   replace hyr := hyr.mono zq5
   refine ra0 (tch := [(4, 2, (fun v => .rowx (nz v) _ _ _ _)), (6, 1, (fun u => .blk _ (.cells (_ ++ [u] ++ _).toArray _)))]) hst12 hfr12 (.cons rfl (zA (off := 5) rfl underlying33 rfl rfl sizeOf24 rfl) <| .cons rfl (zP (j := 1) rfl rfl isAgg24 rfl) <| .cons rfl (zZ (j := 4) rfl rfl isAgg33 sizeOf33 rfl) <| .cons rfl (z1 rfl underlying24 sizeOf33 zeroValue33 rfl rfl rfl rfl) <| .consT rfl rfl (fun _ => rfl) rfl (zU 54 rfl rfl rfl fun y54 => ZU (size := 21) (bytes := 312) (l := kl) (l' := [zAB rl x17 v]) rfl rfl (fun _ => by first | exact .inl rfl | exact .inr (.inl rfl)) underlying24 type33 rfl rfl rfl rfl (fun w m hK => Sl.one (R := fun m vs t => TmR m t vs) hK.2 hyr.len (hyr.mono (KC.le hK))) rfl (by decide) (by simp only [maxLen]; omega) (by omega)) <| .cons rfl (zA (off := 5) rfl underlying33 rfl rfl sizeOf24 rfl) <| .consT rfl rfl (fun _ => rfl) rfl (zU 55 rfl rfl rfl fun y55 => zAJ rfl rfl rfl rfl rfl sizeOf24 rfl rfl rfl) <| .nil) fun a13 w13 m13 hst13 hle13 hk13 => ?_
   have hfr13 := hk13.fr (.o 9 <| .o 1 <| .o 3 <| .o 6 <| .o 8 <| .o 2 <| .nil)
   obtain ⟨⟨K_21o, K_21p⟩, e22, hsl_K_21⟩ := hk13.ex 55 rfl
   replace hst13 := hst13.fin (L' := [_, _, _, _, _]) (.cons e22 <| .cons e22 <| .nil)
   try simp only [List.take_succ_cons, List.take_zero, List.drop_succ_cons, List.drop_zero, List.cons_append, List.nil_append, List.append_nil, List.length_cons, List.length_nil, Nat.zero_add, Nat.reduceAdd] at hst13
   clear hst12 hfr12 hk13
   replace hsl_K_21 : Tms m13 K_21o (kl ++ [zAB rl x17 v]).length K_21p (kl ++ [zAB rl x17 v]) := hsl_K_21
   refine hK15 _ _ ?_
   refine rp0 hst13 hfr13 (.cons rfl (zD rfl) <| .cons rfl (zk rfl rfl ⟨by omega, by omega⟩) <| .cons rfl (zC rfl) <| .nil) fun a14 w14 m14 hst14 hle14 hk14 => ?_
   have hfr14 := hk14.fr (.o 1 <| .o 3 <| .o 6 <| .o 8 <| .o 2 <| .n 9 <| .nil)
   clear hst13 hfr13 hk14
   have hst14 := hst14.take 4
   replace hsl_K_21 := hsl_K_21.mono hle14
   have zq6 := hle13.trans hle14
   have zq7 := zq5.trans zq6
   have zq8 := hle10.trans zq7
   have zq9 := hle9.trans zq8
   have hlh14 := hlh8.trans zq9
   exact ⟨(y + 1, (v + zO x17), K_21o, K_21p, (kl ++ [zAB rl x17 v])), m14, by show t.kids.length - (y + 1) < t.kids.length - y; omega, ⟨hst14, hlh14, hfr14.sub (.c <| .c <| .c <| .c <| .c <| .c <| .nil), ⟨by show y + 1 ≤ t.kids.length; omega, hsl_K_21, ⟨by rw [hlen_kl.1]; simp, by show (kl ++ [_]).length = y + 1; simp; exact hlen_kl.2⟩, by show v + zO x17 + zQ (t.kids.drop (y + 1)) = _; omega⟩⟩⟩
  ·try simp only [nqs] at hb36
   have hge : y = t.kids.length := by omega
   rw [List.drop_of_length_le (by omega)] at hlen_kl hck
   rw [Zj, List.append_nil] at hlen_kl
   rw [zQ] at hck
   refine zg ?_
   refine hK10 _ _ ?_
   refine zB fun _ hK23 => ?_
   refine zB fun _ hK24 => ?_
   refine rp0 hst9 hfr9 (.cons rfl (zC rfl) <| .nil) fun a10 w10 m10 hst10 hle10 hk10 => ?_
   have hfr10 := hk10.fr (.o 2 <| .o 9 <| .o 1 <| .o 3 <| .o 6 <| .o 8 <| .n 12 <| .nil)
   clear hst9 hfr9 hk10
   refine hK24 _ _ ?_
   refine zL ?_
   have zq10 := hle9.trans hle10
   have hlh10 := hlh8.trans zq10
   have hlq25 := hlh10
   have zq11 := zq3.trans zq10
   replace hsl_A := hsl_A.mono zq11
   refine zf (T := [(9, _), (1, _), (3, _), (6, _), (8, _)]) (fun (y : Nat × Nat × Option Addr × Nat × List Ar) => ([(2, .int .i64 (y.2.1 : Int)), (12, .int .i64 (y.1 : Int))] : List (Nat × Value))) (fun y => [_, .blk (.pointer (some ⟨gB, 0, none⟩)) (.cells (tmV ⟨t.kind, t.at_, t.name, t.param, t.n, kl, y.2.2.2.2, (zCR rl n t.row)⟩ (⟨klo, klp, y.2.2.1, y.2.2.2.1, orr, crr, t0_t, t1_t, t2_t, t3_t, t4_t, t5_t, u0_t, u1_t, u2_t, u3_t, u4_t, u5_t⟩ : TmY)).toArray 33), _, .rowx (nz (.slice y.2.2.1 y.2.2.2.2.length y.2.2.2.1)) y.2.2.2.2.length 23 72 (MP.reads (fun m vs t => ArR m t vs) 23 y.2.2.2.2)]) (fun (y : Nat × Nat × Option Addr × Nat × List Ar) m => (fun (y : Nat) (u : Nat) (alo : Option Addr) (alp : Nat) (al : List Ar) => (y ≤ t.arms.length) ∧ (Ars m alo al.length alp al) ∧ (Zs rl t.arms v = al ++ Zs rl (t.arms.drop y) u ∧ al.length = y) ∧ (u + zm (t.arms.drop y) = v + zm t.arms)) y.1 y.2.1 y.2.2.1 y.2.2.2.1 y.2.2.2.2) (fun y => t.arms.length - y.1) ((0, v, none, 0, ([] : List Ar))) ⟨hst10, MLe.refl _, hfr10.sub (.c <| .c <| .c <| .c <| .c <| .c <| .c <| .nil), ⟨Nat.zero_le _, hsl_A, ⟨rfl, rfl⟩, rfl⟩⟩ fun y a11 w11 m11 hh11 => ?_
   have hst11 := hh11.st; have hle11 := hh11.le; have hfr11 := hh11.fr; have hrel := hh11.rel; clear hh11
   clear hst10 hfr10
   obtain ⟨y, u, alo, alp, al⟩ := y
   dsimp only at hrel hfr11 hst11
   obtain ⟨hyn, hsl_al, hlen_al, hcu⟩ := hrel
   have hlh11 := hle11
   refine zB fun _ hK26 => ?_
   refine zB fun _ hK27 => ?_
   have zq12 := zq10.trans hle11
   replace hc3 := hc3.mono zq12
   refine rp0 hst11 hfr11 (.cons rfl (zD rfl) <| .cons rfl (zA (off := 6) rfl underlying33 rfl rfl sizeOf25 rfl) <| .cons rfl (zE rfl hc3 isAgg25 rfl) <| .cons rfl (zY rfl underlying25) <| .cons rfl (zx rfl rfl) <| .nil) fun a12 w12 m12 hst12 hle12 hk12 => ?_
   have hfr12 := hk12.fr (.o 2 <| .o 12 <| .o 9 <| .o 1 <| .o 3 <| .o 6 <| .o 8 <| .n 61 <| .nil)
   clear hst11 hfr11 hk12
   refine hK27 _ _ ?_
   refine zF hfr12 rfl rfl (fun hb61 => ?_) (fun hb61 => ?_)
   ·try simp only [nqs] at hb61
    refine zJ ?_
    refine hK26 _ _ ?_
    refine zB fun _ hK28 => ?_
    refine zL ?_
    refine zB fun _ hK29 => ?_
    have zq13 := hle11.trans hle12
    have zq14 := zq11.trans zq13
    replace haa_t := haa_t.mono zq14
    obtain ⟨p30, vs30, x30, ho30, hd30, hm_x30, ht30, hcv30, hl30, hv30⟩ := haa_t.nth (k := y) (by omega)
    cases ho30
    obtain ⟨oV30, cV30, bs30, rfl, hva30, hbd30⟩ := hv30.open_
    have hbv30 := hva30.big; have hcv30_ := hva30.cap
    obtain ⟨⟨oK30b, cK30b, oA30b, cA30b, oR30b, cR30b, t030b, t130b, t230b, t330b, t430b, t530b, u030b, u130b, u230b, u330b, u430b, u530b⟩, rfl, hon30b, hkk30b, haa30b, hrr30b⟩ := hbd30.open_
    dsimp only at hkk30b haa30b hrr30b
    have hbg30b := hkk30b.big; have hcp30b := hkk30b.cap; have hbh30b := haa30b.big; have hcq30b := haa30b.cap
    rw [hd30] at hlen_al hcu
    rw [zBE] at hlen_al; rw [zw] at hcu
    replace hst12 := hst12.more (r := .free) trivial List.nodup_nil (by simp [Res.blocks])
    replace hc3 := hc3.mono hle12
    refine ra0 (tch := [(5, 4, (fun v => .blk v _)), (6, 4, (fun v => .blk v _))]) hst12 hfr12 (.cons rfl (zA (off := 6) rfl underlying33 rfl rfl sizeOf25 rfl) <| .cons rfl (zE rfl hc3 isAgg25 rfl) <| .cons rfl (zD rfl) <| .cons rfl (zH (k := y) rfl rfl underlying25 sizeOf72 rfl (by omega)) <| .cons rfl (zN rfl hcv30 isAgg72 sizeOf72 rfl rfl) <| .consT rfl rfl (fun _ => rfl) rfl (zR zeroValue72 rfl) <| .consT rfl rfl (fun _ => rfl) rfl (zU 13 rfl rfl rfl fun y13 => zd rfl rfl rfl rfl rfl sizeOf72 rfl rfl hv30.one) <| .nil) fun a13 w13 m13 hst13 hle13 hk13 => ?_
    have hfr13 := hk13.fr (.o 2 <| .o 12 <| .o 9 <| .o 1 <| .o 3 <| .o 6 <| .o 8 <| .nil)
    obtain ⟨g31, e31, _⟩ := hk13.ex 13 rfl
    replace hfr13 := hfr13.cons e31
    replace hst13 := hst13.fin (L' := [_, _, _, _, _]) (.cons e31 <| .cons e31 <| .nil)
    try simp only [List.take_succ_cons, List.take_zero, List.drop_succ_cons, List.drop_zero, List.cons_append, List.nil_append, List.append_nil, List.length_cons, List.length_nil, Nat.zero_add, Nat.reduceAdd] at hst13
    clear hst12 hfr12 hk13
    refine hK29 _ _ ?_
    refine zB fun _ hK32 => ?_
    refine zu 5 (by kernel_rfl) ?_
    have zq15 := zq14.trans hle13
    replace h_rl := h_rl.mono zq15
    replace hbd30 := hbd30.mono hle13
    refine zh (tch := []) hst13 hfr13 (by kernel_rfl) (by kernel_rfl) (by kernel_rfl) (.cons rfl (zA (off := 2) rfl underlying72 rfl rfl sizeOf33 rfl) <| .cons rfl (zAA (j := 4) rfl rfl isAgg33 sizeOf33 rfl rfl) <| .cons rfl (zD rfl) <| .cons rfl (zD rfl) <| .cons rfl (zr (φ := MP.rowsV rl x30.body u) rfl (.cons rfl <| .cons rfl <| .cons rfl <| .nil) call21 (fun w m hK => by have hle_ := KC.le hK; have hA := KC.agree hK; have h_rl := h_rl.mono hle_; have hbd30 := hbd30.mono hle_; exact FnG.mono (iha _ hm_x30 hA hbd30 h_rl (by omega)) fun _ _ _ _ h => h)) <| .nil) fun a14 w14 m14 hst14 hle14 hk14 => ?_
    have hfr14 := hk14.fr (.o 2 <| .o 12 <| .o 9 <| .o 1 <| .o 3 <| .o 6 <| .o 8 <| .o 13 <| .nil)
    obtain ⟨yr, e33, hyr⟩ := hk14.ex 74 rfl
    replace hfr14 := hfr14.cons e33
    clear hst13 hfr13 hk14
    replace hst14 := hst14.more (r := .free) trivial List.nodup_nil (by simp [Res.blocks])
    refine zh (tch := [(3, 5, (fun v => .blk v _)), (4, 5, (fun v => .blk v _))]) hst14 hfr14 (by kernel_rfl) (by kernel_rfl) (by kernel_rfl) (.cons rfl (zD rfl) <| .cons rfl (zS rfl rfl) <| .cons rfl (zS rfl rfl) <| .consT rfl rfl (fun _ => rfl) rfl (zR zeroValue33 rfl) <| .consT rfl rfl (fun _ => rfl) rfl (zU 14 rfl rfl rfl fun y14 => zd rfl rfl rfl rfl rfl sizeOf33 rfl rfl hyr.one) <| .cons rfl (zC rfl) <| .nil) fun a15 w15 m15 hst15 hle15 hk15 => ?_
    have hfr15 := hk15.fr (.o 2 <| .o 12 <| .o 9 <| .o 1 <| .o 3 <| .o 6 <| .o 8 <| .o 13 <| .o 74 <| .n 15 <| .nil)
    obtain ⟨g34, e34, _⟩ := hk15.ex 14 rfl
    replace hfr15 := hfr15.cons e34
    replace hst15 := hst15.fin (L' := [_, _, _, _, _, _]) (.cons e34 <| .cons e34 <| .nil)
    try simp only [List.take_succ_cons, List.take_zero, List.drop_succ_cons, List.drop_zero, List.cons_append, List.nil_append, List.append_nil, List.length_cons, List.length_nil, Nat.zero_add, Nat.reduceAdd] at hst15
    clear hst14 hfr14 hk15
    refine hK32 _ _ ?_
    refine zB fun _ hK35 => ?_
    refine rp0 hst15 hfr15 (.cons rfl (zD rfl) <| .cons rfl (zC rfl) <| .nil) fun a16 w16 m16 hst16 hle16 hk16 => ?_
    have hfr16 := hk16.fr (.o 12 <| .o 9 <| .o 1 <| .o 3 <| .o 6 <| .o 8 <| .o 13 <| .o 14 <| .n 2 <| .nil)
    clear hst15 hfr15 hk16
    refine hK35 _ _ ?_
    refine zB fun _ hK36 => ?_
    have zq16 := hle15.trans hle16
    replace hyr := hyr.mono zq16
    refine ra0 (tch := [(2, 4, (fun _ => .blk _ _))]) hst16 hfr16 (.cons rfl (zZ (j := 5) rfl rfl isAgg33 sizeOf33 rfl) <| .cons rfl (zA (off := 2) rfl underlying72 rfl rfl sizeOf33 rfl) <| .consT rfl rfl (fun _ => rfl) rfl (ZG rfl rfl rfl sizeOf33 rfl rfl hyr.one) <| .nil) fun a17 w17 m17 hst17 hle17 hk17 => ?_
    have hfr17 := hk17.fr (.o 12 <| .o 9 <| .o 1 <| .o 3 <| .o 6 <| .o 8 <| .o 13 <| .o 2 <| .nil)
    replace hst17 := hst17.fin (L' := [_, _, _, _, _, _]) (.cons rfl <| .nil)
    try simp only [List.take_succ_cons, List.take_zero, List.drop_succ_cons, List.drop_zero, List.cons_append, List.nil_append, List.append_nil, List.length_cons, List.length_nil, Nat.zero_add, Nat.reduceAdd] at hst17
    clear hst16 hfr16 hk17
    refine hK36 _ _ ?_
    have zq17 := zq16.trans hle17
    have zq18 := hle14.trans zq17
    have zq19 := hle13.trans zq18
    replace hva30 := hva30.mono zq19
    replace hyr := hyr.mono hle17
    refine ra0 (tch := [(4, 3, (fun v => .rowx (nz v) _ _ _ _)), (6, 1, (fun u => .blk _ (.cells (_ ++ [u] ++ _).toArray _)))]) hst17 hfr17 (.cons rfl (zA (off := 6) rfl underlying33 rfl rfl sizeOf25 rfl) <| .cons rfl (zP (j := 1) rfl rfl isAgg25 rfl) <| .cons rfl (zZ (j := 4) rfl rfl isAgg72 sizeOf72 rfl) <| .cons rfl (z1 rfl underlying25 sizeOf72 zeroValue72 rfl rfl rfl rfl) <| .consT rfl rfl (fun _ => rfl) rfl (zU 83 rfl rfl rfl fun y83 => ZU (size := 23) (bytes := 352) (l := al) (l' := [zDj rl x30 u]) rfl rfl (fun _ => by first | exact .inl rfl | exact .inr (.inl rfl)) underlying25 type72 rfl rfl rfl rfl (fun w m hK => Sl.one (R := fun m vs t => ArR m t vs) hK.2 rfl ⟨_, _, _, rfl, hva30.mono (KC.le hK), hyr.mono (KC.le hK)⟩) rfl (by decide) (by simp only [maxLen]; omega) (by omega)) <| .cons rfl (zA (off := 6) rfl underlying33 rfl rfl sizeOf25 rfl) <| .consT rfl rfl (fun _ => rfl) rfl (zU 84 rfl rfl rfl fun y84 => zAJ rfl rfl rfl rfl rfl sizeOf25 rfl rfl rfl) <| .nil) fun a18 w18 m18 hst18 hle18 hk18 => ?_
    have hfr18 := hk18.fr (.o 12 <| .o 9 <| .o 1 <| .o 3 <| .o 6 <| .o 8 <| .o 2 <| .nil)
    obtain ⟨⟨A_37o, A_37p⟩, e38, hsl_A_37⟩ := hk18.ex 84 rfl
    replace hst18 := hst18.fin (L' := [_, _, _, _, _, _]) (.cons e38 <| .cons e38 <| .nil)
    try simp only [List.take_succ_cons, List.take_zero, List.drop_succ_cons, List.drop_zero, List.cons_append, List.nil_append, List.append_nil, List.length_cons, List.length_nil, Nat.zero_add, Nat.reduceAdd] at hst18
    clear hst17 hfr17 hk18
    replace hsl_A_37 : Ars m18 A_37o (al ++ [zDj rl x30 u]).length A_37p (al ++ [zDj rl x30 u]) := hsl_A_37
    refine hK28 _ _ ?_
    refine rp0 hst18 hfr18 (.cons rfl (zD rfl) <| .cons rfl (zk rfl rfl ⟨by omega, by omega⟩) <| .cons rfl (zC rfl) <| .nil) fun a19 w19 m19 hst19 hle19 hk19 => ?_
    have hfr19 := hk19.fr (.o 9 <| .o 1 <| .o 3 <| .o 6 <| .o 8 <| .o 2 <| .n 12 <| .nil)
    clear hst18 hfr18 hk19
    have hst19 := hst19.take 4
    replace hsl_A_37 := hsl_A_37.mono hle19
    have zq20 := hle18.trans hle19
    have zq21 := zq19.trans zq20
    have zq22 := hle12.trans zq21
    have hlh19 := hlh11.trans zq22
    exact ⟨(y + 1, (u + zO x30.body), A_37o, A_37p, (al ++ [zDj rl x30 u])), m19, by show t.arms.length - (y + 1) < t.arms.length - y; omega, ⟨hst19, hlh19, hfr19.sub (.c <| .c <| .c <| .c <| .c <| .c <| .c <| .nil), ⟨by show y + 1 ≤ t.arms.length; omega, hsl_A_37, ⟨by rw [hlen_al.1]; simp, by show (al ++ [_]).length = y + 1; simp; exact hlen_al.2⟩, by show u + zO x30.body + zm (t.arms.drop (y + 1)) = _; omega⟩⟩⟩
   ·try simp only [nqs] at hb61
    have hge : y = t.arms.length := by omega
    rw [List.drop_of_length_le (by omega)] at hlen_al hcu
    rw [Zs, List.append_nil] at hlen_al
    rw [zm] at hcu
    refine zg ?_
    refine hK23 _ _ ?_
    refine zB fun _ hK39 => ?_
    have zq23 := zq12.trans hle12
    have zq24 := hle8.trans zq23
    have zq25 := zq1.trans zq24
    replace hrw9 := hrw9.mono zq25
    replace hsl_kl := hsl_kl.mono zq23
    replace hsl_al := hsl_al.mono hle12
    have hout : TmR m12 ⟨t.kind, t.at_, t.name, t.param, t.n, kl, al, (zCR rl n t.row)⟩ (tmV ⟨t.kind, t.at_, t.name, t.param, t.n, kl, al, (zCR rl n t.row)⟩ (⟨klo, klp, alo, alp, orr, crr, t0_t, t1_t, t2_t, t3_t, t4_t, t5_t, u0_t, u1_t, u2_t, u3_t, u4_t, u5_t⟩ : TmY)) := TmR.build hon_t hsl_kl hsl_al hrw9
    have hfin : zAB rl t n = ⟨t.kind, t.at_, t.name, t.param, t.n, kl, al, (zCR rl n t.row)⟩ := by rw [zCB, hlen_kl.1, ← hlen_al.1, show v = n + 1 + zQ t.kids by omega]
    refine ra0 (tch := [(2, 0, (fun _ => .blk _ _))]) hst12 hfr12 (.cons rfl (zZ (j := 1) rfl rfl isAgg33 sizeOf33 rfl) <| .cons rfl (zD rfl) <| .consT rfl rfl (fun _ => rfl) rfl (za rfl rfl rfl sizeOf33 rfl rfl hout.one) <| .cons rfl (zC rfl) <| .nil) fun a13 w13 m13 hst13 hle13 hk13 => ?_
    have hfr13 := hk13.fr (.o 2 <| .o 12 <| .o 9 <| .o 6 <| .n 7 <| .nil)
    replace hst13 := hst13.fin (L' := [_, _, _, _]) (.cons rfl <| .nil)
    try simp only [List.take_succ_cons, List.take_zero, List.drop_succ_cons, List.drop_zero, List.cons_append, List.nil_append, List.append_nil, List.length_cons, List.length_nil, Nat.zero_add, Nat.reduceAdd] at hst13
    clear hst12 hfr12 hk13
    refine hK39 _ _ ?_
    refine zK ?_
    repeat (with_reducible first | refine zI ?_ | refine zG ?_)
    replace hout := hout.mono hle13
    exact zM hst13 hfr13 rfl (.cell rfl (zt (zn (hst13.loc.at_ (k := 0) rfl)) isAgg33 sizeOf33) <| .tmp rfl <| .nil) (⟨(⟨klo, klp, alo, alp, orr, crr, t0_t, t1_t, t2_t, t3_t, t4_t, t5_t, u0_t, u1_t, u2_t, u3_t, u4_t, u5_t⟩ : TmY), by show _ = Value.tuple #[.agg (tmV (zAB rl t n) _).toArray, .int .i64 ((n + zO t : Nat) : Int)]; rw [hfin, show n + zO t = u by omega]; rfl, by show TmR _ (zAB rl t n) (tmV (zAB rl t n) _); rw [hfin]; exact hout⟩)
 ·have hlj8 : MLe m4 m4 := MLe.refl _
  refine zB fun _ hK41 => ?_
  refine rp0 hst4 hfr4 (.cons rfl (zD rfl) <| .cons rfl (zY rfl underlying36) <| .cons rfl (zAy rfl rfl) <| .nil) fun a5 w5 m5 hst5 hle5 hk5 => ?_
  have hfr5 := hk5.fr (.o 1 <| .o 2 <| .o 3 <| .o 6 <| .o 8 <| .n 21 <| .nil)
  clear hst4 hfr4 hk5
  refine hK41 _ _ ?_
  refine zF hfr5 rfl rfl (fun hb21 => ?_) (fun hb21 => ?_)
  ·try simp only [nqs] at hb21
   have hmod : n % rl.length < rl.length := Nat.mod_lt _ (by omega)
   replace h_rl := h_rl.mono hle5
   obtain ⟨p42, vs42, x42, ho42, hd42, hm_x42, ht42, hcv42, hl42, hv42⟩ := h_rl.nth (k := (n % rl.length)) (by omega)
   cases ho42
   obtain ⟨o42, c42, rfl, hs42, hr42⟩ := hv42.open_
   have hbs42 := hs42.big; have hcs42 := hs42.cap
   refine ra0 (tch := [(8, 1, (fun _ => .blk _ _))]) hst5 hfr5 (.cons rfl (zD rfl) <| .cons rfl (zD rfl) <| .cons rfl (zD rfl) <| .cons rfl (zY rfl underlying36) <| .cons rfl (ob_rem rfl rfl (by omega)) <| .cons rfl (zH (k := (n % rl.length)) rfl rfl underlying36 sizeOf29 (by omega) (by omega)) <| .cons rfl (zN rfl hcv42 isAgg29 sizeOf29 rfl rfl) <| .cons rfl (zA (off := 13) rfl underlying33 rfl rfl sizeOf29 rfl) <| .consT rfl rfl (fun _ => rfl) rfl (ZG rfl rfl rfl sizeOf29 rfl rfl rfl) <| .nil) fun a6 w6 m6 hst6 hle6 hk6 => ?_
   have hfr6 := hk6.fr (.o 1 <| .o 2 <| .o 3 <| .o 6 <| .o 8 <| .nil)
   replace hst6 := hst6.fin (L' := [_, _, _, _]) (.cons rfl <| .nil)
   try simp only [List.take_succ_cons, List.take_zero, List.drop_succ_cons, List.drop_zero, List.cons_append, List.nil_append, List.append_nil, List.length_cons, List.length_nil, Nat.zero_add, Nat.reduceAdd] at hst6
   clear hst5 hfr5 hk6
   repeat (with_reducible first | refine zz ?_ | refine zv ?_ | refine zj ?_)
   have zq26 := hle5.trans hle6
   replace hlj8 := hlj8.trans zq26
   replace hv42 := hv42.mono hle6
   exact hj8 (x42, _, _) _ _ _ ⟨hst6, hlj8, hfr6.sub (.c <| .c <| .c <| .c <| .c <| .nil), ⟨by unfold zCR; rw [if_neg (fun h => by rw [h] at hb21; simp at hb21), Zq hd42], hv42⟩⟩
  ·try simp only [nqs] at hb21
   have hnil : rl = [] := List.eq_nil_of_length_eq_zero (by omega)
   refine zJ ?_
   repeat (with_reducible first | refine zz ?_ | refine zv ?_ | refine zj ?_)
   replace hrr_t := hrr_t.mono hle5
   replace hlj8 := hlj8.trans hle5
   exact hj8 (t.row, oR_t, cR_t) _ _ _ ⟨hst5, hlj8, hfr5.sub (.c <| .c <| .c <| .c <| .c <| .nil), ⟨by unfold zCR; rw [if_pos hnil], hrr_t⟩⟩
theorem rows_c (t : Tm) : rows_G t := Tm.rec_ (p := rows_G) (fun t ihk iha => rows_s ihk iha) t
set_option maxHeartbeats 1600000 in
theorem some_c {w : World} {m : Mem} {p : Pg} {vs_p : List Value} {n : Int} {o_rl : Option Addr} {c_rl : Nat} {rl : List Rw} (hA : Agree w m) (h_p : PgR m p vs_p) (h_rl : Rws m o_rl rl.length c_rl rl) (hbo : zAs p.effects ≤ 1000000000) (hbc : consN p.datas ≤ 1000000000) (hbd : p.datas.length ≤ 1000000000) (hB : ZD p.body ≤ 2100000) : FnV Tryd.prog 10 #[.agg vs_p.toArray, .int .i64 n, .slice o_rl rl.length c_rl] w m (fun _ m v => (MP.someV 2100000).p m v) := by
 obtain ⟨oE_p, cE_p, oD_p, cD_p, bs_p, rfl, hef_p, hda_p, hpb_p⟩ := id h_p
 have hbe_p := hef_p.big; have hce_p := hef_p.cap; have hbda_p := hda_p.big; have hcd_p := hda_p.cap
 obtain ⟨⟨oK_pb, cK_pb, oA_pb, cA_pb, oR_pb, cR_pb, t0_pb, t1_pb, t2_pb, t3_pb, t4_pb, t5_pb, u0_pb, u1_pb, u2_pb, u3_pb, u4_pb, u5_pb⟩, rfl, hon_pb, hkk_pb, haa_pb, hrr_pb⟩ := hpb_p.open_
 dsimp only at hkk_pb haa_pb hrr_pb
 have hbg_pb := hkk_pb.big; have hcp_pb := hkk_pb.cap; have hbh_pb := haa_pb.big; have hcq_pb := haa_pb.cap
 have hb_rl := h_rl.big; have hc_rl := h_rl.cap
 refine zX (vs := [_, _, _]) func10 rfl rfl rfl fun a0 hfr0 => ?_
 have hst0 := zV hA (zi [] _ w m)
 have hM : MLe m m := MLe.refl m
 refine zB fun _ hK1 => ?_
 replace hst0 := hst0.more (r := .free) trivial List.nodup_nil (by simp [Res.blocks])
 refine ra0 (tch := [(1, 0, (fun v => .blk v _))]) hst0 hfr0 (.cons rfl (z7 rfl rfl) <| .consT rfl rfl (fun _ => rfl) rfl (zR zeroValue33 rfl) <| .cons rfl (zC rfl) <| .nil) fun a1 w1 m1 hst1 hle1 hk1 => ?_
 have hfr1 := hk1.fr (.o 1 <| .o 2 <| .nil)
 obtain ⟨g2, e2, hc3⟩ := hk1.ex 3 rfl
 replace hfr1 := hfr1.cons e2
 obtain ⟨g3, e3, _⟩ := hk1.ex 6 rfl
 replace hfr1 := hfr1.cons e3
 replace hst1 := hst1.fin (L' := [_]) (.cons e3 <| .nil)
 replace h_p := h_p.mono hle1
 replace h_rl := h_rl.mono hle1
 clear hst0 hfr0 hk1
 refine hK1 _ _ ?_
 refine zB fun _ hK4 => ?_
 refine zu 3 (by kernel_rfl) ?_
 refine zh (tch := []) hst1 hfr1 (by kernel_rfl) (by kernel_rfl) (by kernel_rfl) (.cons rfl (zN rfl hc3 isAgg35 sizeOf35 rfl rfl) <| .cons rfl (zD rfl) <| .cons rfl (zr (φ := MP.partB 2100000) rfl (.cons rfl <| .cons rfl <| .nil) call20 (fun w m hK => by have hle_ := KC.le hK; have hA := KC.agree hK; have h_p := h_p.mono hle_; exact FnG.mono (part_c hA h_p hbo hbc hbd 2100000 hB (by omega)) fun _ _ _ _ h => h)) <| .nil) fun a2 w2 m2 hst2 hle2 hk2 => ?_
 have hfr2 := hk2.fr (.o 1 <| .o 2 <| .o 3 <| .o 6 <| .nil)
 obtain ⟨⟨⟨xt, yt⟩, bt⟩, e5, ht, hst_, hct, hbt, hrt, hcl⟩ := hk2.ex 16 rfl
 replace hfr2 := hfr2.cons e5
 replace h_rl := h_rl.mono hle2
 clear hst1 hfr1 hk2
 dsimp only at ht hst_ hct hbt hrt hcl
 have hlw := low_of hrt
 clear hst_
 replace hst2 := hst2.more (r := .free) trivial List.nodup_nil (by simp [Res.blocks])
 refine zh (tch := [(3, 1, (fun v => .blk v _)), (4, 1, (fun v => .blk v _))]) hst2 hfr2 (by kernel_rfl) (by kernel_rfl) (by kernel_rfl) (.cons rfl (zD rfl) <| .cons rfl (zS rfl rfl) <| .cons rfl (zS rfl rfl) <| .consT rfl rfl (fun _ => rfl) rfl (zR zeroValue33 rfl) <| .consT rfl rfl (fun _ => rfl) rfl (zU 8 rfl rfl rfl fun y8 => zd rfl rfl rfl rfl rfl sizeOf33 rfl rfl ht.one) <| .cons rfl (zC rfl) <| .nil) fun a3 w3 m3 hst3 hle3 hk3 => ?_
 have hfr3 := hk3.fr (.o 1 <| .o 2 <| .o 3 <| .o 6 <| .o 16 <| .n 9 <| .nil)
 obtain ⟨g8, e6, _⟩ := hk3.ex 8 rfl
 replace hfr3 := hfr3.cons e6
 replace hst3 := hst3.fin (L' := [_, _]) (.cons e6 <| .cons e6 <| .nil)
 try simp only [List.take_succ_cons, List.take_zero, List.drop_succ_cons, List.drop_zero, List.cons_append, List.nil_append, List.append_nil, List.length_cons, List.length_nil, Nat.zero_add, Nat.reduceAdd] at hst3
 replace h_rl := h_rl.mono hle3
 replace ht := ht.mono hle3
 clear hst2 hfr2 hk3
 refine hK4 _ _ ?_
 refine zB fun _ hK7 => ?_
 refine rp0 hst3 hfr3 (.cons rfl (zC rfl) <| .nil) fun a4 w4 m4 hst4 hle4 hk4 => ?_
 have hfr4 := hk4.fr (.o 2 <| .o 6 <| .o 9 <| .o 8 <| .n 10 <| .nil)
 replace h_rl := h_rl.mono hle4
 replace ht := ht.mono hle4
 clear hst3 hfr3 hk4
 have hst4 := hst4.more (r := .rowx (.slice none 0 0) 0 2 29 (MP.reads (fun m vs r => RwR m r vs) 2 [])) zAE List.nodup_nil (by simp [Res.blocks, z6])
 have hsl_F : Rws m4 none ([] : List Rw).length 0 ([] : List Rw) := Sl.empty
 refine hK7 _ _ ?_
 refine zB fun _ hK8 => ?_
 refine zB fun _ hK9 => ?_
 refine rp0 hst4 hfr4 (.cons rfl (zC rfl) <| .nil) fun a5 w5 m5 hst5 hle5 hk5 => ?_
 have hfr5 := hk5.fr (.o 2 <| .o 6 <| .o 9 <| .o 8 <| .o 10 <| .n 11 <| .nil)
 replace h_rl := h_rl.mono hle5
 replace ht := ht.mono hle5
 replace hsl_F := hsl_F.mono hle5
 clear hst4 hfr4 hk5
 refine hK9 _ _ ?_
 refine zL ?_
 refine zf (T := [(2, _), (6, _), (9, _), (8, _)]) (fun (y : Nat × Option Addr × Nat × List Rw) => ([(10, .slice y.2.1 y.2.2.2.length y.2.2.1), (11, .int .i64 (y.1 : Int))] : List (Nat × Value))) (fun y => [_, _, .rowx (nz (.slice y.2.1 y.2.2.2.length y.2.2.1)) y.2.2.2.length 2 29 (MP.reads (fun m vs r => RwR m r vs) 2 y.2.2.2)]) (fun (y : Nat × Option Addr × Nat × List Rw) m => (fun (y : Nat) (flo : Option Addr) (flp : Nat) (fl : List Rw) => (y ≤ (min rl.length 10)) ∧ (Rws m flo fl.length flp fl) ∧ (fl.length = y)) y.1 y.2.1 y.2.2.1 y.2.2.2) (fun y => (min rl.length 10) - y.1) ((0, none, 0, ([] : List Rw))) ⟨hst5, MLe.refl _, hfr5.sub (.c <| .c <| .c <| .c <| .c <| .c <| .nil), ⟨Nat.zero_le _, hsl_F, rfl⟩⟩ fun y a6 w6 m6 hh6 => ?_
 have hst6 := hh6.st; have hle6 := hh6.le; have hfr6 := hh6.fr; have hrel := hh6.rel; clear hh6
 replace h_rl := h_rl.mono hle6
 replace ht := ht.mono hle6
 clear hst5 hfr5
 obtain ⟨y, flo, flp, fl⟩ := y
 dsimp only at hrel hfr6 hst6
 obtain ⟨hyn, hsl_fl, hlen_fl⟩ := hrel
 have hlh6 := hle6
 refine zB fun _ hK11 => ?_
 refine zB fun _ hK12 => ?_
 refine rp0 hst6 hfr6 (.cons rfl (zD rfl) <| .cons rfl (zD rfl) <| .cons rfl (zY rfl underlying36) <| .cons rfl (zx rfl rfl) <| .cons rfl (zD rfl) <| .cons rfl (zD rfl) <| .cons rfl (zx rfl rfl) <| .cons rfl (ZV rfl rfl rfl) <| .nil) fun a7 w7 m7 hst7 hle7 hk7 => ?_
 have hfr7 := hk7.fr (.o 10 <| .o 11 <| .o 2 <| .o 6 <| .o 9 <| .o 8 <| .n 26 <| .nil)
 replace h_rl := h_rl.mono hle7
 replace ht := ht.mono hle7
 replace hsl_fl := hsl_fl.mono hle7
 have hlh7 := hlh6.trans hle7
 clear hst6 hfr6 hk7
 refine hK12 _ _ ?_
 refine zF hfr7 rfl rfl (fun hb26 => ?_) (fun hb26 => ?_)
 ·try simp only [nqs] at hb26
  refine zJ ?_
  refine hK11 _ _ ?_
  refine zB fun _ hK13 => ?_
  refine zL ?_
  refine zB fun _ hK14 => ?_
  have hy9 : y < rl.length := by omega
  obtain ⟨p15, vs15, x15, ho15, hd15, hm_x15, ht15, hcv15, hl15, hv15⟩ := h_rl.nth (k := y) (by omega)
  cases ho15
  obtain ⟨o15, c15, rfl, hs15, hr15⟩ := hv15.open_
  have hbs15 := hs15.big; have hcs15 := hs15.cap
  replace hst7 := hst7.more (r := .free) trivial List.nodup_nil (by simp [Res.blocks])
  refine ra0 (tch := [(4, 3, (fun v => .blk v _)), (5, 3, (fun v => .blk v _))]) hst7 hfr7 (.cons rfl (zD rfl) <| .cons rfl (zD rfl) <| .cons rfl (zH (k := y) rfl rfl underlying36 sizeOf29 rfl (by omega)) <| .cons rfl (zN rfl hcv15 isAgg29 sizeOf29 rfl rfl) <| .consT rfl rfl (fun _ => rfl) rfl (zR zeroValue29 rfl) <| .consT rfl rfl (fun _ => rfl) rfl (zU 12 rfl rfl rfl fun y12 => zd rfl rfl rfl rfl rfl sizeOf29 rfl rfl rfl) <| .nil) fun a8 w8 m8 hst8 hle8 hk8 => ?_
  have hfr8 := hk8.fr (.o 10 <| .o 11 <| .o 2 <| .o 6 <| .o 9 <| .o 8 <| .nil)
  obtain ⟨g16, e16, _⟩ := hk8.ex 12 rfl
  replace hfr8 := hfr8.cons e16
  replace hst8 := hst8.fin (L' := [_, _, _, _]) (.cons e16 <| .cons e16 <| .nil)
  try simp only [List.take_succ_cons, List.take_zero, List.drop_succ_cons, List.drop_zero, List.cons_append, List.nil_append, List.append_nil, List.length_cons, List.length_nil, Nat.zero_add, Nat.reduceAdd] at hst8
  clear hst7 hfr7 hk8
  refine hK14 _ _ ?_
  refine zB fun _ hK17 => ?_
  have emin : (if (10 : Int) < (x15.labels.length : Int) then (10 : Int) else (x15.labels.length : Int)) = ((min x15.labels.length 10 : Nat) : Int) := by split <;> omega
  refine ra0 (tch := [(8, 3, (fun _ => .blk _ _))]) hst8 hfr8 (.cons rfl (zA (off := 0) rfl underlying29 rfl rfl sizeOf27 rfl) <| .cons rfl (zP (j := 3) rfl rfl isAgg27 rfl) <| .cons rfl (zA (off := 0) rfl underlying29 rfl rfl sizeOf27 rfl) <| .cons rfl (zP (j := 3) rfl rfl isAgg27 rfl) <| .cons rfl (zY rfl underlying27) <| .cons rfl (ob_min2 rfl rfl) <| .cons rfl (zCH rfl .none (.some rfl emin) underlying27 sizeOf9 (by omega) (by omega)) <| .cons rfl (zA (off := 0) rfl underlying29 rfl rfl sizeOf27 rfl) <| .consT rfl rfl (fun _ => rfl) rfl (ZG rfl rfl rfl sizeOf27 rfl rfl rfl) <| .nil) fun a9 w9 m9 hst9 hle9 hk9 => ?_
  have hfr9 := hk9.fr (.o 10 <| .o 11 <| .o 2 <| .o 6 <| .o 9 <| .o 8 <| .o 12 <| .nil)
  replace hst9 := hst9.fin (L' := [_, _, _, _]) (.cons rfl <| .nil)
  try simp only [List.take_succ_cons, List.take_zero, List.drop_succ_cons, List.drop_zero, List.cons_append, List.nil_append, List.append_nil, List.length_cons, List.length_nil, Nat.zero_add, Nat.reduceAdd] at hst9
  clear hst8 hfr8 hk9
  have zq1 := hle8.trans hle9
  replace hs15 := hs15.mono zq1
  have hcut : Strs _ _ _ _ _ := hs15.cut (l := 0) (k := min x15.labels.length 10) (Nat.zero_le _) (Nat.min_le_left _ _)
  have hlk : min x15.labels.length 10 - 0 = ((x15.labels.take (min x15.labels.length 10)).drop 0).length := by simp
  generalize (x15.labels.take (min x15.labels.length 10)).drop 0 = ls at hlk hcut
  rw [hlk] at hcut hst9
  generalize (if c15 = 0 then o15 else o15.map (·.add (0 * 1))) = oq at hcut hst9
  generalize c15 - 0 = cq at hcut hst9
  refine hK17 _ _ ?_
  refine ra0 (tch := [(3, 2, (fun v => .rowx (nz v) _ _ _ _))]) hst9 hfr9 (.cons rfl (zD rfl) <| .cons rfl (zZ (j := 3) rfl rfl isAgg29 sizeOf29 rfl) <| .cons rfl (z1 rfl underlying36 sizeOf29 zeroValue29 rfl rfl rfl rfl) <| .consT rfl rfl (fun _ => rfl) rfl (zU 43 rfl rfl rfl fun y43 => ZU (size := 2) (bytes := 32) (l := fl) (l' := [(⟨ls, x15.var⟩ : Rw)]) rfl rfl (fun _ => by first | exact .inl rfl | exact .inr (.inl rfl)) underlying36 type29 rfl rfl rfl rfl (fun w m hK => Sl.one (R := fun m vs r => RwR m r vs) hK.2 rfl ⟨_, _, rfl, hcut.mono (KC.le hK), hr15⟩) rfl (by decide) (by simp only [maxLen]; omega) (by omega)) <| .consA 44 rfl rfl <| .nil) fun a10 w10 m10 hst10 hle10 hk10 => ?_
  have hfr10 := hk10.fr (.o 11 <| .o 2 <| .o 6 <| .o 9 <| .o 8 <| .nil)
  obtain ⟨⟨F_18o, F_18p⟩, e19, hsl_F_18⟩ := hk10.ex 44 rfl
  replace hfr10 := hfr10.cons (hk10.same 10 rfl e19)
  replace hst10 := hst10.fin (L' := [_, _, _, _]) (.cons e19 <| .nil)
  clear hst9 hfr9 hk10
  replace hsl_F_18 : Rws m10 F_18o (fl ++ [(⟨ls, x15.var⟩ : Rw)]).length F_18p (fl ++ [(⟨ls, x15.var⟩ : Rw)]) := hsl_F_18
  refine hK13 _ _ ?_
  refine rp0 hst10 hfr10 (.cons rfl (zD rfl) <| .cons rfl (zk rfl rfl ⟨by omega, by omega⟩) <| .cons rfl (zC rfl) <| .nil) fun a11 w11 m11 hst11 hle11 hk11 => ?_
  have hfr11 := hk11.fr (.o 2 <| .o 6 <| .o 9 <| .o 8 <| .o 10 <| .n 11 <| .nil)
  clear hst10 hfr10 hk11
  have hst11 := hst11.take 3
  replace hsl_F_18 := hsl_F_18.mono hle11
  have zq2 := hle10.trans hle11
  have zq3 := zq1.trans zq2
  have hlh11 := hlh7.trans zq3
  exact ⟨(y + 1, F_18o, F_18p, (fl ++ [(⟨ls, x15.var⟩ : Rw)])), m11, by show (min rl.length 10) - (y + 1) < (min rl.length 10) - y; omega, ⟨hst11, hlh11, hfr11.sub (.c <| .c <| .c <| .c <| .c <| .c <| .nil), ⟨by show y + 1 ≤ (min rl.length 10); omega, hsl_F_18, by show (fl ++ [_]).length = y + 1; simp; exact hlen_fl⟩⟩⟩
 ·try simp only [nqs] at hb26
  refine zg ?_
  refine hK8 _ _ ?_
  refine zB fun _ hK20 => ?_
  refine zu 3 (by kernel_rfl) ?_
  refine zh (tch := []) hst7 hfr7 (by kernel_rfl) (by kernel_rfl) (by kernel_rfl) (.cons rfl (zZ (j := 1) rfl rfl isAgg33 sizeOf33 rfl) <| .cons rfl (zD rfl) <| .cons rfl (zr (φ := MP.rowsV fl xt 0) rfl (.cons rfl <| .cons rfl <| .cons rfl <| .nil) call21 (fun w m hK => by have hle_ := KC.le hK; have hA := KC.agree hK; have ht := ht.mono hle_; have hsl_fl := hsl_fl.mono hle_; exact FnG.mono ((rows_c xt (n := 0) hA ht hsl_fl (by omega))) fun _ _ _ _ h => h)) <| .nil) fun a8 w8 m8 hst8 hle8 hk8 => ?_
  have hfr8 := hk8.fr (.o 10 <| .o 11 <| .o 2 <| .o 6 <| .o 9 <| .o 8 <| .nil)
  obtain ⟨yr, e21, hyr⟩ := hk8.ex 48 rfl
  replace hfr8 := hfr8.cons e21
  clear hst7 hfr7 hk8
  refine zh (tch := [(3, 1, (fun _ => .blk _ _))]) hst8 hfr8 (by kernel_rfl) (by kernel_rfl) (by kernel_rfl) (.cons rfl (zD rfl) <| .cons rfl (zS rfl rfl) <| .cons rfl (zS rfl rfl) <| .consT rfl rfl (fun _ => rfl) rfl (za rfl rfl rfl sizeOf33 rfl rfl hyr.one) <| .nil) fun a9 w9 m9 hst9 hle9 hk9 => ?_
  have hfr9 := hk9.fr (.o 10 <| .o 11 <| .o 2 <| .o 6 <| .o 9 <| .o 8 <| .o 48 <| .nil)
  replace hst9 := hst9.fin (L' := [_, _, _]) (.cons rfl <| .nil)
  try simp only [List.take_succ_cons, List.take_zero, List.drop_succ_cons, List.drop_zero, List.cons_append, List.nil_append, List.append_nil, List.length_cons, List.length_nil, Nat.zero_add, Nat.reduceAdd] at hst9
  clear hst8 hfr8 hk9
  refine hK20 _ _ ?_
  refine zB fun _ hK22 => ?_
  replace hyr := hyr.mono hle9
  refine ra0 (tch := [(2, 0, (fun _ => .blk _ _))]) hst9 hfr9 (.cons rfl (zZ (j := 1) rfl rfl isAgg33 sizeOf33 rfl) <| .cons rfl (zD rfl) <| .consT rfl rfl (fun _ => rfl) rfl (za rfl rfl rfl sizeOf33 rfl rfl hyr.one) <| .cons rfl (zC rfl) <| .nil) fun a10 w10 m10 hst10 hle10 hk10 => ?_
  have hfr10 := hk10.fr (.o 10 <| .o 11 <| .o 6 <| .n 7 <| .nil)
  replace hst10 := hst10.fin (L' := [_, _, _]) (.cons rfl <| .nil)
  try simp only [List.take_succ_cons, List.take_zero, List.drop_succ_cons, List.drop_zero, List.cons_append, List.nil_append, List.append_nil, List.length_cons, List.length_nil, Nat.zero_add, Nat.reduceAdd] at hst10
  clear hst9 hfr9 hk10
  refine hK22 _ _ ?_
  refine zK ?_
  repeat (with_reducible first | refine zI ?_ | refine zG ?_)
  replace hyr := hyr.mono hle10
  exact zM hst10 hfr10 rfl (.cell rfl (zt (zn (hst10.loc.at_ (k := 0) rfl)) isAgg33 sizeOf33) <| .tmp rfl <| .nil) (⟨((_, _), bt), rfl, hyr, hlw.rows _ _, by rw [rows_count]; exact hct, by rw [rows_bulk]; exact hbt, hcl.rows _ _⟩)
set_option maxHeartbeats 1600000 in
theorem whole_c {w : World} {m : Mem} {n : Int} (hA : Agree w m)  : FnV Tryd.prog 30 #[.int .i64 n] w m (fun _ m v => (MP.tm (intT n)).p m v) := by
 refine zX (vs := [_]) func30 rfl rfl rfl fun a0 hfr0 => ?_
 have hst0 := zV hA (zi [] _ w m)
 have hM : MLe m m := MLe.refl m
 refine zB fun _ hK1 => ?_
 replace hst0 := hst0.more (r := .free) trivial List.nodup_nil (by simp [Res.blocks])
 refine ra0 (tch := [(0, 0, (fun v => .blk v _))]) hst0 hfr0 (.consT rfl rfl (fun _ => rfl) rfl (zR zeroValue33 rfl) <| .nil) fun a1 w1 m1 hst1 hle1 hk1 => ?_
 have hfr1 := hk1.fr (.o 0 <| .nil)
 obtain ⟨g2, e2, _⟩ := hk1.ex 2 rfl
 replace hfr1 := hfr1.cons e2
 replace hst1 := hst1.fin (L' := [_]) (.cons e2 <| .nil)
 clear hst0 hfr0 hk1
 refine hK1 _ _ ?_
 refine zB fun _ hK3 => ?_
 refine ra0 (tch := [(2, 0, (fun _ => .blk _ _))]) hst1 hfr1 (.cons rfl (zD rfl) <| .cons rfl (zy (.cons rfl <| .cons rfl <| .nil) underlying33 zeroValue33 (.cons sizeOf3 <| .cons sizeOf3 <| .cons sizeOf9 <| .cons sizeOf9 <| .cons sizeOf3 <| .cons sizeOf24 <| .cons sizeOf25 <| .cons sizeOf31 <| .cons sizeOf29 <| .cons sizeOf31 <| .nil) rfl) <| .consT rfl rfl (fun _ => rfl) rfl (za rfl rfl rfl sizeOf33 rfl rfl rfl) <| .nil) fun a2 w2 m2 hst2 hle2 hk2 => ?_
 have hfr2 := hk2.fr (.o 2 <| .nil)
 replace hst2 := hst2.fin (L' := [_]) (.cons rfl <| .nil)
 try simp only [List.take_succ_cons, List.take_zero, List.drop_succ_cons, List.drop_zero, List.cons_append, List.nil_append, List.append_nil, List.length_cons, List.length_nil, Nat.zero_add, Nat.reduceAdd] at hst2
 clear hst1 hfr1 hk2
 refine hK3 _ _ ?_
 refine zK ?_
 repeat (with_reducible first | refine zI ?_ | refine zG ?_)
 exact zM hst2 hfr2 rfl (.cell rfl (zt (zn (hst2.loc.at_ (k := 0) rfl)) isAgg33 sizeOf33) <| .nil) (⟨TmY.zero none 0 none 0, rfl, TmR.build TmY.zero_one Sl.empty Sl.empty ⟨_, _, rfl, Sl.empty, inI0⟩⟩)
set_option maxHeartbeats 1600000 in
theorem shown_c {w : World} {m : Mem}  (hA : Agree w m) (hT : Tab w) : FnV Tryd.prog 9 #[] w m (fun _ _ v => v = .bool true) := by
 refine zX (vs := []) func9 rfl rfl rfl fun a0 hfr0 => ?_
 have hst0 := zV hA (zi [] _ w m)
 have hM : MLe m m := MLe.refl m
 refine zB fun _ hK1 => ?_
 refine rp0 hst0 hfr0 (.cons rfl (zC rfl) <| .nil) fun a1 w1 m1 hst1 hle1 hk1 => ?_
 have hfr1 := hk1.fr (.nil)
 clear hst0 hfr0 hk1
 refine hK1 _ _ ?_
 refine zB fun _ hK2 => ?_
 refine zu 6 (by kernel_rfl) ?_
 refine zh (tch := []) hst1 hfr1 (by kernel_rfl) (by kernel_rfl) (by kernel_rfl) (.cons rfl (zr (φ := MP.tm (zDn [102])) rfl (.cons rfl <| .nil) call29 (fun w m hK => by have hle_ := KC.le hK; have hA := KC.agree hK; exact FnG.mono (v_c (s := [102]) hA) fun _ _ _ _ h => h)) <| .cons rfl (zr (φ := MP.tm (zDn [103])) rfl (.cons rfl <| .nil) call29 (fun w m hK => by have hle_ := KC.le hK; have hA := KC.agree hK; exact FnG.mono (v_c (s := [103]) hA) fun _ _ _ _ h => h)) <| .cons rfl (zr (φ := MP.tm (intT 1)) rfl (.cons rfl <| .nil) call30 (fun w m hK => by have hle_ := KC.le hK; have hA := KC.agree hK; exact FnG.mono (whole_c (n := 1) hA) fun _ _ _ _ h => h)) <| .cons rfl (zAf 3 rfl rfl rfl fun y3 => zAf 4 rfl rfl rfl fun y4 => zr (φ := MP.tm (zDa (zDn [103]) (intT 1))) rfl (.cons rfl <| .cons rfl <| .nil) call28 (fun w m hK => by have hle_ := KC.le hK; have hA := KC.agree hK; have hr0_ := hK.2; have hr1_ := hK.1.2; exact FnG.mono (call_c (f := (zDn [103])) (a := (intT 1)) hA hr1_ hr0_) fun _ _ _ _ h => h)) <| .cons rfl (zAf 2 rfl rfl rfl fun y2 => zAf 5 rfl rfl rfl fun y5 => zr (φ := MP.tm (zDa (zDn [102]) (zDa (zDn [103]) (intT 1)))) rfl (.cons rfl <| .cons rfl <| .nil) call28 (fun w m hK => by have hle_ := KC.le hK; have hA := KC.agree hK; have hr0_ := hK.2; have hr1_ := hK.1.2; exact FnG.mono (call_c (f := (zDn [102])) (a := (zDa (zDn [103]) (intT 1))) hA hr1_ hr0_) fun _ _ _ _ h => h)) <| .cons rfl (zy (.cons rfl <| .nil) underlying38 zeroValue38 (.cons sizeOf4 <| .cons sizeOf4 <| .nil) rfl) <| .nil) fun a2 w2 m2 hst2 hle2 hk2 => ?_
 have hfr2 := hk2.fr (.n 7 <| .nil)
 obtain ⟨y6, e3, hs6⟩ := hk2.ex 6 rfl
 replace hfr2 := hfr2.cons e3
 clear hst1 hfr1 hk2
 replace hst2 := hst2.more (r := .free) trivial List.nodup_nil (by simp [Res.blocks])
 refine zh (tch := [(1, 0, (fun v => .blk v _)), (2, 0, (fun v => .blkx v _ _))]) hst2 hfr2 (by kernel_rfl) (by kernel_rfl) (by kernel_rfl) (.cons rfl (zr (φ := MP.cd (zEV true false shT)) rfl (.cons rfl <| .cons rfl <| .nil) call12 (fun w m hK => by have hle_ := KC.le hK; have hA := KC.agree hK; have hT := zCl hT hK.st.ext; have hs6 := hs6.mono hle_; exact FnG.mono (lower_c (t := shT) (sel := true) (tl := false) hA hs6 hT (low_call (low_var _) (low_call (low_var _) (low_int _))) (by decide) (by decide)) fun _ _ _ _ h => h)) <| .consT rfl rfl (fun _ => rfl) rfl (zR zeroValue46 rfl) <| .consT rfl rfl (fun _ => rfl) rfl (zU 1 rfl rfl rfl fun y1 => ZO 8 rfl rfl rfl fun y8 => Z9 rfl rfl rfl rfl rfl sizeOf46 rfl rfl (fun w m hK => hK.2.one)) <| .nil) fun a3 w3 m3 hst3 hle3 hk3 => ?_
 have hfr3 := hk3.fr (.o 7 <| .o 6 <| .nil)
 obtain ⟨g4, e4, _⟩ := hk3.ex 1 rfl
 replace hfr3 := hfr3.cons e4
 replace hst3 := hst3.fin (L' := [_]) (.cons e4 <| .cons e4 <| .nil)
 try simp only [List.take_succ_cons, List.take_zero, List.drop_succ_cons, List.drop_zero, List.cons_append, List.nil_append, List.append_nil, List.length_cons, List.length_nil, Nat.zero_add, Nat.reduceAdd] at hst3
 obtain ⟨yl, hyl, hst3⟩ := hst3.unx (k := 0) rfl (fun _ => rfl)
 clear hst2 hfr2 hk3
 rw [lowT_sh] at hyl hst3
 obtain ⟨oK9, cK9, oA9, cA9⟩ := yl
 obtain ⟨hk9, -⟩ := hyl.at_y
 dsimp only at hk9
 refine hK2 _ _ ?_
 refine zB fun _ hK6 => ?_
 have hn1 := nameQ_1
 have hl8 : (cd2 8 (Zx 1) [] shA shB).kids.length = 2 := rfl
 have hl9 : ([shA, shB] : List Cd).length = 2 := rfl
 obtain ⟨p7, vs7, x7, ho7, hd7, hm_x7, ht7, hcv7, hl7, hv7⟩ := hk9.nth (k := 0) (by omega)
 cases ho7
 obtain ⟨⟨oK7, cK7, oA7, cA7⟩, rfl, ⟨hik7, hin7⟩, hkk7, haa7⟩ := hv7.open_
 dsimp only at hkk7 haa7
 have hbg7 := hkk7.big; have hcp7 := hkk7.cap; have hbh7 := haa7.big; have hcq7 := haa7.cap
 have hx0 : x7 = shA := zBu hd7 rfl
 obtain ⟨p8, vs8, x8, ho8, hd8, hm_x8, ht8, hcv8, hl8, hv8⟩ := hk9.nth (k := 1) (by omega)
 cases ho8
 obtain ⟨⟨oK8, cK8, oA8, cA8⟩, rfl, ⟨hik8, hin8⟩, hkk8, haa8⟩ := hv8.open_
 dsimp only at hkk8 haa8
 have hbg8 := hkk8.big; have hcp8 := hkk8.cap; have hbh8 := haa8.big; have hcq8 := haa8.cap
 have hx1 : x8 = shB := zBu hd8 rfl
 have hln9 : x8.kids.length = 2 := by rw [hx1]; rfl
 obtain ⟨p9, vs9, x9, ho9, hd9, hm_x9, ht9, hcv9, hl9, hv9⟩ := hkk8.nth (k := 1) (by omega)
 cases ho9
 obtain ⟨⟨oK9, cK9, oA9, cA9⟩, rfl, ⟨hik9, hin9⟩, hkk9, haa9⟩ := hv9.open_
 dsimp only at hkk9 haa9
 have hbg9 := hkk9.big; have hcp9 := hkk9.cap; have hbh9 := haa9.big; have hcq9 := haa9.cap
 have hx2 : x9 = zBo (Zx 1) := zBu hd9 (by rw [hx1]; rfl)
 refine rp0 hst3 hfr3 (.cons rfl (zA (off := 0) rfl underlying46 rfl rfl sizeOf3 rfl) <| .cons rfl (zP (j := 0) rfl rfl isAgg3 rfl) <| .cons rfl (zW rfl rfl) <| .cons rfl (zD rfl) <| .cons rfl (zA (off := 1) rfl underlying46 rfl rfl sizeOf9 rfl) <| .cons rfl (zP (j := 0) rfl rfl isAgg9 rfl) <| .cons rfl (ZB rfl rfl) <| .cons rfl (ZV rfl rfl rfl) <| .cons rfl (zD rfl) <| .cons rfl (zA (off := 4) rfl underlying46 rfl rfl sizeOf43 rfl) <| .cons rfl (zP (j := 0) rfl rfl isAgg43 rfl) <| .cons rfl (zY rfl underlying43) <| .cons rfl (zW rfl rfl) <| .cons rfl (ZV rfl rfl rfl) <| .cons rfl (zD rfl) <| .cons rfl (zA (off := 4) rfl underlying46 rfl rfl sizeOf43 rfl) <| .cons rfl (zP (j := 0) rfl rfl isAgg43 rfl) <| .cons rfl (zH (k := 0) rfl rfl underlying43 sizeOf46 rfl (by omega)) <| .cons rfl (zA (off := 0) rfl underlying46 rfl rfl sizeOf3 rfl) <| .cons rfl (zE rfl hcv7 isAgg3 rfl) <| .cons rfl (zW rfl rfl) <| .cons rfl (ZV rfl rfl rfl) <| .cons rfl (zD rfl) <| .cons rfl (zA (off := 4) rfl underlying46 rfl rfl sizeOf43 rfl) <| .cons rfl (zP (j := 0) rfl rfl isAgg43 rfl) <| .cons rfl (zH (k := 1) rfl rfl underlying43 sizeOf46 rfl (by omega)) <| .cons rfl (zA (off := 0) rfl underlying46 rfl rfl sizeOf3 rfl) <| .cons rfl (zE rfl hcv8 isAgg3 rfl) <| .cons rfl (zW rfl rfl) <| .cons rfl (ZV rfl rfl rfl) <| .cons rfl (zD rfl) <| .cons rfl (zA (off := 4) rfl underlying46 rfl rfl sizeOf43 rfl) <| .cons rfl (zP (j := 0) rfl rfl isAgg43 rfl) <| .cons rfl (zH (k := 1) rfl rfl underlying43 sizeOf46 rfl (by omega)) <| .cons rfl (zA (off := 4) rfl underlying46 rfl rfl sizeOf43 rfl) <| .cons rfl (zE rfl hcv8 isAgg43 rfl) <| .cons rfl (zY rfl underlying43) <| .cons rfl (zW rfl rfl) <| .cons rfl (ZV rfl rfl rfl) <| .cons rfl (zD rfl) <| .cons rfl (zA (off := 4) rfl underlying46 rfl rfl sizeOf43 rfl) <| .cons rfl (zP (j := 0) rfl rfl isAgg43 rfl) <| .cons rfl (zH (k := 1) rfl rfl underlying43 sizeOf46 rfl (by omega)) <| .cons rfl (zA (off := 4) rfl underlying46 rfl rfl sizeOf43 rfl) <| .cons rfl (zE rfl hcv8 isAgg43 rfl) <| .cons rfl (zH (k := 1) rfl rfl underlying43 sizeOf46 rfl (by omega)) <| .cons rfl (zA (off := 1) rfl underlying46 rfl rfl sizeOf9 rfl) <| .cons rfl (zE rfl hcv9 isAgg9 rfl) <| .cons rfl (ZB rfl rfl) <| .cons rfl (ZV rfl rfl rfl) <| .cons rfl (zD rfl) <| .cons rfl (zZ (j := 0) rfl rfl isAgg46 sizeOf46 rfl) <| .cons rfl (zc rfl (.cons rfl <| .cons rfl <| .nil) call16 (fun w m hK => by have hle_ := KC.le hK; have hA := KC.agree hK; have hyl := hyl.mono hle_; exact lcount_c (cd2 8 (Zx 1) [] shA shB) (k := 6) hA hyl (by decide))) <| .cons rfl (zW rfl rfl) <| .cons rfl (ZV rfl rfl rfl) <| .cons rfl (zC rfl) <| .nil) fun a4 w4 m4 hst4 hle4 hk4 => ?_
 have hfr4 := hk4.fr (.n 0 <| .nil)
 clear hst3 hfr3 hk4
 refine hK6 _ _ ?_
 refine zK ?_
 repeat (with_reducible first | refine zI ?_ | refine zG ?_)
 exact zM hst4 hfr4 rfl (.tmp rfl <| .nil) (by refine congrArg Value.bool ?_; simp [hx0, hx1, hx2, hn1, shA, shB, zBo]; try decide)
end Go.Proofs.YtmdhhjmomilhjaaDoor
namespace Go.Proofs.YtmdhhjmomilhjaaDoor
set_option linter.all false
set_option maxRecDepth 4000
open Go.RowKit
def isAt (t : Cd) : Prop := 1 ≤ t.kind ∧ t.kind ≤ 5
def zCP (t : Cd) : Nat := if t.kind = 6 ∨ t.kind = 11 ∨ t.kind = 12 ∨ t.kind = 14 then t.kids.length else if t.kind = 10 ∨ t.kind = 13 then 1 else 0
inductive AtC : Cd → Prop where
 | mk {t : Cd} (h : ∀ i u, t.kids[i]? = some u → i < zCP t → isAt u) (hk : ∀ u ∈ t.kids, AtC u) (ha : ∀ a ∈ t.arms, AtC a.body) : AtC t
theorem AtC.here {t : Cd} (h : AtC t) : ∀ i u, t.kids[i]? = some u → i < zCP t → isAt u := by cases h; assumption
theorem AtC.kid {t u : Cd} (h : AtC t) (hu : u ∈ t.kids) : AtC u := by cases h with | mk _ hk _ => exact hk u hu
theorem AtC.arm {t : Cd} {a : Ca} (h : AtC t) (ha : a ∈ t.arms) : AtC a.body := by cases h with | mk _ _ hh => exact hh a ha
def bareH (s : Str) : Bool := decide (s.head? = some 39)
mutual
def bareT : Tm → Bool
 | ⟨_, _, s, _, _, ks, az, _⟩ => bareH s || (bareKs ks || bareAs az)
def bareKs : List Tm → Bool
 | [] => false
 | t :: ts => bareT t || bareKs ts
def bareAs : List Ar → Bool
 | [] => false
 | ⟨_, _, b⟩ :: ts => bareT b || bareAs ts
end
mutual
/-- How many terms are of a kind. -/
def nT (k : Int) : Tm → Nat
 | ⟨kd, _, _, _, _, ks, az, _⟩ => (if kd = k then 1 else 0) + (nTs k ks + nTa k az)
def nTs (k : Int) : List Tm → Nat
 | [] => 0
 | t :: ts => nT k t + nTs k ts
def nTa (k : Int) : List Ar → Nat
 | [] => 0
 | ⟨_, _, b⟩ :: ts => nT k b + nTa k ts
end
theorem nT_eq (k : Int) (t : Tm) : nT k t = (if t.kind = k then 1 else 0) + (nTs k t.kids + nTa k t.arms) := by obtain ⟨kd, a, s, p, n, ks, az, r⟩ := t; rw [nT]; rfl
theorem zCz (k : Int) (a : Ar) (ts : List Ar) : nTa k (a :: ts) = nT k a.body + nTa k ts := by obtain ⟨x, v, b⟩ := a; rw [nTa]; rfl
def tlA (a : Ca) : Nat := if a.tail then (if a.vars.length = 1 then 1 else 1000001) else 0
mutual
/-- How many arms are Tail. -/
def tlC : Cd → Nat
 | ⟨_, _, _, _, ks, az⟩ => tlKs ks + tlAs az
def tlKs : List Cd → Nat
 | [] => 0
 | t :: ts => tlC t + tlKs ts
def tlAs : List Ca → Nat
 | [] => 0
 | ⟨s, v, l, b⟩ :: ts => tlC b + tlA ⟨s, v, l, b⟩ + tlAs ts
end
mutual
/-- How many pieces. -/
def szC : Cd → Nat
 | ⟨_, _, _, _, ks, az⟩ => 1 + (zBd ks + zCv az)
def zBd : List Cd → Nat
 | [] => 0
 | t :: ts => szC t + zBd ts
def zCv : List Ca → Nat
 | [] => 0
 | ⟨_, _, _, b⟩ :: ts => szC b + zCv ts
end
theorem zBj (t : Cd) : szC t = 1 + (zBd t.kids + zCv t.arms) := by obtain ⟨k, s, p, n, ks, az⟩ := t; rw [szC]; rfl
theorem zDL (a : Ca) (ts : List Ca) : zCv (a :: ts) = szC a.body + zCv ts := by obtain ⟨s, v, l, b⟩ := a; rw [zCv]; rfl
end Go.Proofs.YtmdhhjmomilhjaaDoor
namespace Go.Proofs.YtmdhhjmomilhjaaDoor
set_option linter.all false
set_option maxRecDepth 4000
open Go.RowKit
theorem zDQ {t : Tm} (h : LwT t) : (t.kind = 7 ∧ (∃ a b, t.kids = [a, b]) ∧ t.arms = []) ∨ (t.kind = 8 ∧ (∃ a b, t.kids = [a, b]) ∧ t.arms = []) ∨ (t.kind = 14 ∧ ∃ a, t.kids = [a]) ∨ (t.kind = 5 ∧ (∃ a, t.kids = [a]) ∧ t.arms = []) ∨
  ((t.kind = 1 ∨ t.kind = 2 ∨ t.kind = 3 ∨ t.kind = 4) ∧ t.kids = [] ∧ t.arms = []) ∨ (t.kind = 12 ∧ ∃ a, t.kids = [a]) ∨ ((t.kind = 0 ∨ t.kind = 6 ∨ t.kind = 9 ∨ t.kind = 10 ∨ t.kind = 11 ∨ t.kind = 13) ∧ t.arms = []) := by
 rcases h.here with ⟨h1, h2⟩ | ⟨h1, h2, h3, h4⟩
 ·have one : (t.kids.length : Int) = 1 → ∃ a, t.kids = [a] := fun h => by
   match t.kids, h with
   | [a], _ => exact ⟨a, rfl⟩
  have two : (t.kids.length : Int) = 2 → ∃ a b, t.kids = [a, b] := fun h => by
   match t.kids, h with
   | [a, b], _ => exact ⟨a, b, rfl⟩
  have nil : (t.kids.length : Int) = 0 → t.kids = [] := fun h => len0.1 h
  unfold Z8 at h1
  repeat' split at h1
  ·exact .inr (.inr (.inr (.inr (.inl ⟨by assumption, nil (by omega), h2 (by omega) (by omega)⟩))))
  ·rename_i hk; rcases hk with hk | hk | hk | hk
   ·exact .inr (.inr (.inr (.inl ⟨hk, one (by omega), h2 (by omega) (by omega)⟩)))
   ·exact .inr (.inr (.inr (.inr (.inr (.inl ⟨hk, one (by omega)⟩)))))
   ·exact .inr (.inr (.inr (.inr (.inr (.inr ⟨by omega, h2 (by omega) (by omega)⟩)))))
   ·exact .inr (.inr (.inl ⟨hk, one (by omega)⟩))
  ·rename_i hk; rcases hk with hk | hk | hk
   ·exact .inr (.inr (.inr (.inr (.inr (.inr ⟨by omega, h2 (by omega) (by omega)⟩)))))
   ·exact .inl ⟨hk, two (by omega), h2 (by omega) (by omega)⟩
   ·exact .inr (.inl ⟨hk, two (by omega), h2 (by omega) (by omega)⟩)
  ·exact .inr (.inr (.inr (.inr (.inr (.inr ⟨by omega, h2 (by omega) (by omega)⟩)))))
  ·exact .inr (.inr (.inr (.inr (.inr (.inr ⟨by omega, h2 (by omega) (by omega)⟩)))))
  ·omega
 ·exact .inr (.inr (.inr (.inr (.inr (.inr ⟨by omega, h4⟩)))))
theorem zDF {t : Tm} : Zd t = true ↔ 1 ≤ t.kind ∧ t.kind ≤ 5 := by unfold Zd; simp
theorem zCM (sel : Bool) (t : Tm) : zAU sel t = 7 ∨ zAU sel t = 8 := by unfold zAU; split <;> simp
-- what is in the rows that are made
theorem zDP {sel : Bool} {g : Gen} : ∀ {l : List Tm} {n : Nat} {b : Bd}, b ∈ Zv sel g l n → ∃ u ∈ l, ∃ m, Zd u = false ∧ b = ⟨zAU sel u, Zx ((g u m).2 + 1), (g u m).1⟩
 | [], _, _, h => by simp [Zv] at h
 | t :: ts, n, b, h => by
  rw [Zv, List.mem_append] at h
  rcases h with h | h
  ·unfold kidB at h
   split at h
   ·cases h
   ·rename_i hl; rw [List.mem_singleton] at h; exact ⟨t, .head _, n, by simpa using hl, h⟩
  ·obtain ⟨u, hu, m, h1⟩ := zDP h; exact ⟨u, .tail _ hu, m, h1⟩
theorem zDS {g : Gen} : ∀ {l : List Tm} {n : Nat} {c : Cd}, c ∈ ZN g l n → (∃ u ∈ l, ∃ m, Zd u = true ∧ c = (g u m).1) ∨ ∃ s, c = zBo s
 | [], _, _, h => by simp [ZN] at h
 | t :: ts, n, b, h => by
  rw [ZN] at h
  rcases List.mem_cons.1 h with rfl | h
  ·unfold kidA
   split
   ·exact .inl ⟨t, .head _, n, by assumption, rfl⟩
   ·exact .inr ⟨_, rfl⟩
  ·rcases zDS h with ⟨u, hu, m, h1⟩ | h1
   ·exact .inl ⟨u, .tail _ hu, m, h1⟩
   ·exact .inr h1
theorem seqA_mem {g : Gen} : ∀ {l : List Tm} {n : Nat} {c : Cd}, c ∈ zBA g l n → ∃ u ∈ l, ∃ m, c = (g u m).1
 | [], _, _, h => by simp [zBA] at h
 | t :: ts, n, b, h => by
  rw [zBA] at h
  rcases List.mem_cons.1 h with rfl | h
  ·exact ⟨t, .head _, n, rfl⟩
  ·obtain ⟨u, hu, m, h1⟩ := seqA_mem h; exact ⟨u, .tail _ hu, m, h1⟩
theorem armA_mem {g : Gen} : ∀ {l : List Ar} {n : Nat} {c : Ca}, c ∈ zBn g l n → ∃ a ∈ l, ∃ m, c = armC g a m
 | [], _, _, h => by simp [zBn] at h
 | t :: ts, n, b, h => by
  rw [zBn] at h
  rcases List.mem_cons.1 h with rfl | h
  ·exact ⟨t, .head _, n, rfl⟩
  ·obtain ⟨u, hu, m, h1⟩ := armA_mem h; exact ⟨u, .tail _ hu, m, h1⟩
theorem proA_mem {tl : Bool} {g : Gen} : ∀ {l : List Ar} {i n : Nat} {c : Ca}, c ∈ zBf tl g i l n → ∃ a ∈ l, ∃ j m, c = ⟨a.name, zCO tl j a, zBP tl j a, (g (Zu tl j a) m).1⟩
 | [], _, _, _, h => by simp [zBf] at h
 | t :: ts, i, n, b, h => by
  rw [zBf] at h
  rcases List.mem_cons.1 h with rfl | h
  ·exact ⟨t, .head _, i, n, rfl⟩
  ·obtain ⟨u, hu, m, h1⟩ := proA_mem h; exact ⟨u, .tail _ hu, m, h1⟩
theorem zBk {t a : Tm} {r : List Tm} (h : t.kids = a :: r) : kid t 0 = a := by unfold kid; rw [h]; rfl
theorem kid_1 {t a b : Tm} {r : List Tm} (h : t.kids = a :: b :: r) : kid t 1 = b := by unfold kid; rw [h]; rfl
theorem zDJ {sel tl : Bool} {g : Gen} {t : Tm} {n : Nat} (hk : t.kind = 0 ∨ t.kind = 6 ∨ t.kind = 9 ∨ t.kind = 10 ∨ t.kind = 11 ∨ t.kind = 12 ∨ t.kind = 13) : ZS sel tl g t n = (ZM (Zv sel g (t.kids.take (ze t)) n) (zAT g t n), zEJ g t.arms (zBp g t n)) :=
 bodyC (by omega) (by omega) (by omega) (by omega) (fun h => by rw [zDF] at h; omega)
theorem zBV {sel tl : Bool} {g : Gen} {t : Tm} {n : Nat} (hk : t.kind = 1 ∨ t.kind = 2 ∨ t.kind = 3 ∨ t.kind = 4) : ZS sel tl g t n = (⟨t.kind, if t.kind = 1 then t.name else [], [], if t.kind = 2 ∨ t.kind = 3 then t.n else 0, [], []⟩, n) :=
 bodyA (by omega) (by omega) (by omega) (by omega) (by rw [zDF]; omega)
-- how large
theorem around_sz : ∀ (bl : List Bd) (c : Cd), szC (ZM bl c) = bl.length + (bl.map fun b => szC b.code).sum + szC c
 | [], c => by simp [ZM]
 | b :: bl, c => by
  rw [ZM, zBj]
  show 1 + (szC b.code + (szC (ZM bl c) + 0) + 0) = _
  rw [around_sz bl c]; simp; omega
theorem take_sz {sel : Bool} {g : Gen} : ∀ (l : List Tm) (n : Nat), (∀ u ∈ l, ∀ n, szC (g u n).1 + 2 ≤ 3 * zO u) → (Zv sel g l n).length + ((Zv sel g l n).map fun b => szC b.code).sum + zBd (ZN g l n) ≤ 3 * zQ l
 | [], n, _ => by simp [Zv, ZN, zBd, zQ]
 | t :: ts, n, h => by
  have ih := take_sz (sel := sel) ts (zDG g t n) fun u hu => h u (.tail _ hu)
  have ht := h t (.head _) n
  rw [Zv, ZN, zBd, zQ, List.length_append, List.map_append, List.sum_append]
  unfold kidB kidA
  split
  ·simp; omega
  ·have : szC (zBo (Zx ((g t n).2 + 1))) = 1 := by rw [zBj]; rfl
   rw [this]; simp; omega
theorem seq_sz {g : Gen} : ∀ (l : List Tm) (n : Nat), (∀ u ∈ l, ∀ n, szC (g u n).1 + 2 ≤ 3 * zO u) → zBd (zBA g l n) ≤ 3 * zQ l
 | [], n, _ => by simp [zBA, zBd, zQ]
 | t :: ts, n, h => by
  have ih := seq_sz ts (g t n).2 fun u hu => h u (.tail _ hu)
  have ht := h t (.head _) n
  rw [zBA, zBd, zQ]; omega
theorem arm_sz {g : Gen} : ∀ (l : List Ar) (n : Nat), (∀ a ∈ l, ∀ n, szC (g a.body n).1 + 2 ≤ 3 * zO a.body) → zCv (zBn g l n) ≤ 3 * zm l
 | [], n, _ => by simp [zBn, zCv, zm]
 | t :: ts, n, h => by
  have ih := arm_sz ts (g t.body n).2 fun u hu => h u (.tail _ hu)
  have ht := h t (.head _) n
  rw [zBn, zDL, zw]; show szC (g t.body n).1 + _ ≤ _; omega
theorem pro_sz {tl : Bool} {g : Gen} : ∀ (l : List Ar) (i n : Nat), (∀ a ∈ l, ∀ i n, szC (g (Zu tl i a) n).1 + 2 ≤ 3 * zO a.body) → zCv (zBf tl g i l n) ≤ 3 * zm l
 | [], i, n, _ => by simp [zBf, zCv, zm]
 | t :: ts, i, n, h => by
  have ih := pro_sz ts (i + 1) (g (Zu tl i t) n).2 fun u hu => h u (.tail _ hu)
  have ht := h t (.head _) i n
  rw [zBf, zDL, zw]; show szC (g (Zu tl i t) n).1 + _ ≤ _; omega
theorem low_sz (sel tl : Bool) : ∀ (f : Nat) (t : Tm) (n : Nat), LwT t → zO t ≤ f → szC (zT sel tl f t n).1 + 2 ≤ 3 * zO t
 | 0, t, n, _, hc => by have := zq t; omega
 | f + 1, t, n, hl, hc => by
  have hce := zq t
  have hks : ∀ u ∈ t.kids, ∀ n, szC (zT sel tl f u n).1 + 2 ≤ 3 * zO u := fun u hu n => low_sz sel tl f u n (hl.kid hu) (by have := ZA hu; omega)
  have has : ∀ a ∈ t.arms, ∀ n, szC (zT sel tl f a.body n).1 + 2 ≤ 3 * zO a.body := fun a ha n => low_sz sel tl f a.body n (hl.arm ha) (by have := Zb ha; omega)
  have hps : ∀ a ∈ t.arms, ∀ i n, szC (zT sel tl f (Zu tl i a) n).1 + 2 ≤ 3 * zO a.body := fun a ha i n => by
   have h1 := zDq (tl := tl) (i := i) (hl.arm ha)
   have h2 := low_sz sel tl f (Zu tl i a) n h1.1 (by have := Zb ha; omega)
   omega
  rw [show zT sel tl (f + 1) t n = ZS sel tl (zT sel tl f) t n from rfl]
  generalize zT sel tl f = g at hks has hps
  rcases zDQ hl with ⟨hk, ⟨a, b, e⟩, e2⟩ | ⟨hk, ⟨a, b, e⟩, e2⟩ | ⟨hk, a, e⟩ | ⟨hk, ⟨a, e⟩, e2⟩ | ⟨hk, e, e2⟩ | hc
  ·rw [body7 hk, zBk e, kid_1 e, zBj]; rw [e] at hce hks
   have h1 := hks a (.head _) n; have h2 := hks b (.tail _ (.head _)) (g a n).2
   show 1 + (szC (g a n).1 + (szC (g b (g a n).2).1 + 0) + 0) + 2 ≤ _
   simp only [zQ] at hce; omega
  ·rw [body8 hk, zBk e, kid_1 e, zBj]; rw [e] at hce hks
   have h1 := hks a (.head _) n; have h2 := hks b (.tail _ (.head _)) (g a n).2
   show 1 + (szC (g a n).1 + (szC (g b (g a n).2).1 + 0) + 0) + 2 ≤ _
   simp only [zQ] at hce; omega
  ·rw [zCW hk, zBk e, zBj]; rw [e] at hce hks
   have h1 := hks a (.head _) n; have h2 := pro_sz t.arms 0 (g a n).2 hps
   show 1 + ((szC (g a n).1 + 0) + zCv (zBf tl g 0 t.arms (g a n).2)) + 2 ≤ _
   simp only [zQ] at hce; omega
  ·rw [body5 hk, zBk e, zBj]; rw [e] at hce hks
   have h1 := hks a (.head _) n
   show 1 + ((szC (g a n).1 + 0) + 0) + 2 ≤ _
   simp only [zQ] at hce; omega
  ·rw [zBV hk, zBj]; show 1 + (0 + 0) + 2 ≤ _; omega
  ·rw [zDJ (by rcases hc with ⟨h, _⟩ | ⟨h, _⟩ <;> omega)]
   dsimp only
   rw [around_sz, zBj]
   have h1 := take_sz (sel := sel) (t.kids.take (ze t)) n fun u hu => hks u (List.mem_of_mem_take hu)
   have h2 := seq_sz (t.kids.drop (ze t)) (Z0 g (t.kids.take (ze t)) n) fun u hu => hks u (List.mem_of_mem_drop hu)
   have h3 := arm_sz t.arms (zBp g t n) has
   have h4 := zAg t.kids (ze t)
   have h5 : ∀ (l k : List Cd), zBd (l ++ k) = zBd l + zBd k := fun l k => by
    induction l with
    | nil => simp [zBd]
    | cons x l ih => simp only [List.cons_append, zBd, ih]; omega
   have h6 : zBd (zAT g t n).kids = zBd (ZN g (t.kids.take (ze t)) n) + zBd (zBA g (t.kids.drop (ze t)) (Z0 g (t.kids.take (ze t)) n)) := h5 _ _
   have h7 : zCv (zAT g t n).arms = zCv (zBn g t.arms (zBp g t n)) := rfl
   omega
-- what is counted
structure AddC (f : Cd → Nat) (fs : List Cd → Nat) : Prop where
 nil : fs [] = 0
 cons : ∀ t ts, fs (t :: ts) = f t + fs ts
 bind : ∀ k s a b, k = 7 ∨ k = 8 → f (cd2 k s [] a b) = f a + f b
 var : ∀ s, f (zBo s) = 0
theorem AddC.app {f : Cd → Nat} {fs : List Cd → Nat} (h : AddC f fs) (l k : List Cd) : fs (l ++ k) = fs l + fs k := by
 induction l with
 | nil => rw [h.nil]; simp
 | cons x l ih => rw [List.cons_append, h.cons, h.cons, ih]; omega
theorem AddC.around {f : Cd → Nat} {fs : List Cd → Nat} (h : AddC f fs) : ∀ (bl : List Bd) (c : Cd), (∀ b ∈ bl, b.kind = 7 ∨ b.kind = 8) → f (ZM bl c) = (bl.map fun b => f b.code).sum + f c
 | [], c, _ => by simp [ZM]
 | b :: bl, c, hb => by
  rw [ZM, h.bind _ _ _ _ (hb b (.head _)), h.around bl c fun x hx => hb x (.tail _ hx)]; simp; omega
structure AddT (v : Tm → Nat) (vs : List Tm → Nat) : Prop where
 nil : vs [] = 0
 cons : ∀ t ts, vs (t :: ts) = v t + vs ts
theorem AddC.take {f : Cd → Nat} {fs : List Cd → Nat} (h : AddC f fs) {v : Tm → Nat} {vs : List Tm → Nat} (hv : AddT v vs) {sel : Bool} {g : Gen} : ∀ (l : List Tm) (n : Nat), (∀ u ∈ l, ∀ n, f (g u n).1 = v u) → ((Zv sel g l n).map fun b => f b.code).sum + fs (ZN g l n) = vs l
 | [], n, _ => by simp [Zv, ZN, h.nil, hv.nil]
 | t :: ts, n, hg => by
  have ih := h.take hv (sel := sel) ts (zDG g t n) fun u hu => hg u (.tail _ hu)
  have ht := hg t (.head _) n
  rw [Zv, ZN, h.cons, hv.cons, List.map_append, List.sum_append]
  unfold kidB kidA
  split
  ·simp; omega
  ·rw [h.var]; simp; omega
theorem AddC.seq {f : Cd → Nat} {fs : List Cd → Nat} (h : AddC f fs) {v : Tm → Nat} {vs : List Tm → Nat} (hv : AddT v vs) {g : Gen} : ∀ (l : List Tm) (n : Nat), (∀ u ∈ l, ∀ n, f (g u n).1 = v u) → fs (zBA g l n) = vs l
 | [], n, _ => by rw [zBA, h.nil, hv.nil]
 | t :: ts, n, hg => by
  have ih := h.seq hv ts (g t n).2 fun u hu => hg u (.tail _ hu)
  rw [zBA, h.cons, hv.cons, ih, hg t (.head _) n]
theorem AddT.app {v : Tm → Nat} {vs : List Tm → Nat} (h : AddT v vs) (l k : List Tm) : vs (l ++ k) = vs l + vs k := by
 induction l with
 | nil => rw [h.nil]; simp
 | cons x l ih => rw [List.cons_append, h.cons, h.cons, ih]; omega
theorem AddC.core {f : Cd → Nat} {fs : List Cd → Nat} (h : AddC f fs) {v : Tm → Nat} {vs : List Tm → Nat} (hv : AddT v vs) {sel : Bool} {g : Gen} {t : Tm} {n : Nat} (hg : ∀ u ∈ t.kids, ∀ n, f (g u n).1 = v u) : f (ZM (Zv sel g (t.kids.take (ze t)) n) (zAT g t n)) + fs (zAT g t n).kids = f (zAT g t n) + vs t.kids := by
 rw [h.around _ _ fun b hb => by obtain ⟨u, _, m, _, rfl⟩ := zDP hb; exact zCM sel u]
 have h1 := h.take hv (sel := sel) (t.kids.take (ze t)) n fun u hu => hg u (List.mem_of_mem_take hu)
 have h2 := h.seq hv (t.kids.drop (ze t)) (Z0 g (t.kids.take (ze t)) n) fun u hu => hg u (List.mem_of_mem_drop hu)
 have h3 : fs (zAT g t n).kids = _ := h.app (ZN g (t.kids.take (ze t)) n) (zBA g (t.kids.drop (ze t)) (Z0 g (t.kids.take (ze t)) n))
 have h4 := hv.app (t.kids.take (ze t)) (t.kids.drop (ze t))
 rw [List.take_append_drop] at h4
 omega
end Go.Proofs.YtmdhhjmomilhjaaDoor
namespace Go.Proofs.YtmdhhjmomilhjaaDoor
open Go.Proofs.Tryd
set_option linter.all false
set_option maxRecDepth 4000
open Go.RowKit
abbrev zCn (t : Tm) : Prop := ∀ {w : World} {m : Mem} {vs_t : List Value} {k : Int} (hA : Agree w m) (h_t : TmR m t vs_t) (hb : nT k t ≤ 1000000000), FnV Tryd.prog 18 #[.agg vs_t.toArray, .int .i64 k] w m (fun _ _ v => v = .int .i64 (nT k t : Int))
set_option maxHeartbeats 800000 in
theorem tcount_s {t : Tm} (ihk : ∀ u ∈ t.kids, zCn u) (iha : ∀ a ∈ t.arms, zCn a.body) {w : World} {m : Mem} {vs_t : List Value} {k : Int} (hA : Agree w m) (h_t : TmR m t vs_t) (hb : nT k t ≤ 1000000000) : FnV Tryd.prog 18 #[.agg vs_t.toArray, .int .i64 k] w m (fun _ _ v => v = .int .i64 (nT k t : Int)) := by
 obtain ⟨⟨oK_t, cK_t, oA_t, cA_t, oR_t, cR_t, t0_t, t1_t, t2_t, t3_t, t4_t, t5_t, u0_t, u1_t, u2_t, u3_t, u4_t, u5_t⟩, rfl, hon_t, hkk_t, haa_t, hrr_t⟩ := h_t.open_
 dsimp only at hkk_t haa_t hrr_t
 have hbg_t := hkk_t.big; have hcp_t := hkk_t.cap; have hbh_t := haa_t.big; have hcq_t := haa_t.cap
 refine zX (vs := [_, _]) func18 rfl rfl rfl fun a0 hfr0 => ?_
 have hst0 := zV hA (zi [] _ w m)
 have hM : MLe m m := MLe.refl m
 have hce := nT_eq k t
 refine zB fun _ hK1 => ?_
 refine rp0 hst0 hfr0 (.cons rfl (z7 rfl rfl) <| .cons rfl (zC rfl) <| .nil) fun a1 w1 m1 hst1 hle1 hk1 => ?_
 have hfr1 := hk1.fr (.o 1 <| .nil)
 obtain ⟨g2, e2, hc2⟩ := hk1.ex 2 rfl
 replace hfr1 := hfr1.cons e2
 replace h_t := h_t.mono hle1
 replace hkk_t := hkk_t.mono hle1
 replace haa_t := haa_t.mono hle1
 replace hrr_t := hrr_t.mono hle1
 clear hst0 hfr0 hk1
 refine hK1 _ _ ?_
 refine zB fun _ hK3 => ?_
 refine rp0 hst1 hfr1 (.cons rfl (zC rfl) <| .nil) fun a2 w2 m2 hst2 hle2 hk2 => ?_
 have hfr2 := hk2.fr (.o 1 <| .o 2 <| .n 5 <| .nil)
 replace h_t := h_t.mono hle2
 replace hkk_t := hkk_t.mono hle2
 replace haa_t := haa_t.mono hle2
 replace hrr_t := hrr_t.mono hle2
 replace hc2 := hc2.mono hle2
 clear hst1 hfr1 hk2
 refine hK3 _ _ ?_
 refine zAR (T := [(1, _), (2, _)]) (fun (y : Int) => ([(5, .int .i64 y)] : List (Nat × Value))) (fun y => []) (fun (y : Int) m => (fun (c0 : Int) => (c0 = if t.kind = k then 1 else 0)) y) ((0)) ⟨hst2, MLe.refl _, hfr2.sub (.c <| .c <| .c <| .nil), trivial⟩ (fun y a3 w3 m3 hh3 => ?_) (fun K4 hj4 => ?_)
 ·have hst3 := hh3.st; have hle3 := hh3.le; have hfr3 := hh3.fr; have hrel := hh3.rel; clear hh3
  clear hst2 hfr2
  obtain ⟨c0, rfl⟩ : ∃ z, z = y := ⟨_, rfl⟩
  try dsimp only at hrel
  try dsimp only at hfr3
  try dsimp only at hst3
  have hc0 := hrel
  subst hc0
  refine zB fun _ hK5 => ?_
  refine zB fun _ hK6 => ?_
  refine rp0 hst3 hfr3 (.cons rfl (zC rfl) <| .nil) fun a4 w4 m4 hst4 hle4 hk4 => ?_
  have hfr4 := hk4.fr (.o 5 <| .o 1 <| .o 2 <| .n 6 <| .nil)
  clear hst3 hfr3 hk4
  refine hK6 _ _ ?_
  refine zL ?_
  refine zf (T := [(1, _), (2, _)]) (fun (y : Nat × Int) => ([(5, .int .i64 y.2), (6, .int .i64 (y.1 : Int))] : List (Nat × Value))) (fun _ => _) (fun (y : Nat × Int) m => (fun (y : Nat) (a : Int) => (y ≤ t.kids.length) ∧ (a + nTs k (t.kids.drop y) = (((if t.kind = k then 1 else 0) + nTs k t.kids : Nat) : Int)) ∧ (0 ≤ a)) y.1 y.2) (fun y => t.kids.length - y.1) ((0, (if t.kind = k then 1 else 0))) ⟨hst4, MLe.refl _, hfr4.sub (.c <| .c <| .c <| .c <| .nil), ⟨Nat.zero_le _, by rw [List.drop_zero]; split <;> omega, by split <;> omega⟩⟩ fun y a5 w5 m5 hh5 => ?_
  have hst5 := hh5.st; have hle5 := hh5.le; have hfr5 := hh5.fr; have hrel := hh5.rel; clear hh5
  clear hst4 hfr4
  obtain ⟨y, a⟩ := y
  dsimp only at hrel hfr5 hst5
  obtain ⟨hyn, ha, ha0⟩ := hrel
  have hlh5 := hle5
  refine zB fun _ hK8 => ?_
  refine zB fun _ hK9 => ?_
  have zq1 := hle4.trans hle5
  have zq2 := hle3.trans zq1
  replace hc2 := hc2.mono zq2
  refine rp0 hst5 hfr5 (.cons rfl (zD rfl) <| .cons rfl (zA (off := 5) rfl underlying33 rfl rfl sizeOf24 rfl) <| .cons rfl (zE rfl hc2 isAgg24 rfl) <| .cons rfl (zY rfl underlying24) <| .cons rfl (zx rfl rfl) <| .nil) fun a6 w6 m6 hst6 hle6 hk6 => ?_
  have hfr6 := hk6.fr (.o 5 <| .o 6 <| .o 1 <| .o 2 <| .n 16 <| .nil)
  clear hst5 hfr5 hk6
  refine hK9 _ _ ?_
  refine zF hfr6 rfl rfl (fun hb16 => ?_) (fun hb16 => ?_)
  ·try simp only [nqs] at hb16
   refine zJ ?_
   refine hK8 _ _ ?_
   refine zB fun _ hK10 => ?_
   refine zL ?_
   have zq3 := zq2.trans hle6
   replace hkk_t := hkk_t.mono zq3
   obtain ⟨p11, vs11, x11, ho11, hd11, hm_x11, ht11, hcv11, hl11, hv11⟩ := hkk_t.nth (k := y) (by omega)
   cases ho11
   obtain ⟨⟨oK11, cK11, oA11, cA11, oR11, cR11, t011, t111, t211, t311, t411, t511, u011, u111, u211, u311, u411, u511⟩, rfl, hon11, hkk11, haa11, hrr11⟩ := hv11.open_
   dsimp only at hkk11 haa11 hrr11
   have hbg11 := hkk11.big; have hcp11 := hkk11.cap; have hbh11 := haa11.big; have hcq11 := haa11.cap
   rw [hd11, nTs] at ha
   replace h_t := h_t.mono zq3
   replace haa_t := haa_t.mono zq3
   replace hrr_t := hrr_t.mono zq3
   replace hc2 := hc2.mono hle6
   refine rp0 hst6 hfr6 (.cons rfl (zD rfl) <| .cons rfl (zA (off := 5) rfl underlying33 rfl rfl sizeOf24 rfl) <| .cons rfl (zE rfl hc2 isAgg24 rfl) <| .cons rfl (zD rfl) <| .cons rfl (zH (k := y) rfl rfl underlying24 sizeOf33 rfl (by omega)) <| .cons rfl (zN rfl hcv11 isAgg33 sizeOf33 rfl rfl) <| .cons rfl (zD rfl) <| .cons rfl (zc rfl (.cons rfl <| .cons rfl <| .nil) call18 (fun w m hK => by have hle_ := KC.le hK; have hA := KC.agree hK; have h_t := h_t.mono hle_; have hkk_t := hkk_t.mono hle_; have haa_t := haa_t.mono hle_; have hrr_t := hrr_t.mono hle_; have hc2 := hc2.mono hle_; have hcv11 := hcv11.mono hle_; have hv11 := hv11.mono hle_; have hkk11 := hkk11.mono hle_; have haa11 := haa11.mono hle_; have hrr11 := hrr11.mono hle_; exact ihk _ (by assumption) hA hv11 (by omega))) <| .cons rfl (zk rfl rfl ⟨by omega, by omega⟩) <| .cons rfl (zC rfl) <| .nil) fun a7 w7 m7 hst7 hle7 hk7 => ?_
   have hfr7 := hk7.fr (.o 6 <| .o 1 <| .o 2 <| .n 5 <| .nil)
   clear hst6 hfr6 hk7
   refine hK10 _ _ ?_
   refine rp0 hst7 hfr7 (.cons rfl (zD rfl) <| .cons rfl (zk rfl rfl ⟨by omega, by omega⟩) <| .cons rfl (zC rfl) <| .nil) fun a8 w8 m8 hst8 hle8 hk8 => ?_
   have hfr8 := hk8.fr (.o 1 <| .o 2 <| .o 5 <| .n 6 <| .nil)
   clear hst7 hfr7 hk8
   have zq4 := hle7.trans hle8
   have zq5 := hle6.trans zq4
   have hlh8 := hlh5.trans zq5
   exact ⟨(y + 1, (a + (nT k x11 : Int))), m8, by show t.kids.length - (y + 1) < t.kids.length - y; omega, ⟨hst8, hlh8, hfr8.sub (.c <| .c <| .c <| .c <| .nil), ⟨by show y + 1 ≤ t.kids.length; omega, by show a + (nT k x11 : Int) + ((nTs k (t.kids.drop (y + 1)) : Nat) : Int) = _; omega, by show 0 ≤ a + (nT k x11 : Int); omega⟩⟩⟩
  ·try simp only [nqs] at hb16
   have hge : y = t.kids.length := by omega
   rw [List.drop_of_length_le (by omega), nTs] at ha
   refine zg ?_
   refine hK5 _ _ ?_
   refine zB fun _ hK12 => ?_
   refine zB fun _ hK13 => ?_
   refine rp0 hst6 hfr6 (.cons rfl (zC rfl) <| .nil) fun a7 w7 m7 hst7 hle7 hk7 => ?_
   have hfr7 := hk7.fr (.o 5 <| .o 6 <| .o 1 <| .o 2 <| .n 7 <| .nil)
   clear hst6 hfr6 hk7
   refine hK13 _ _ ?_
   refine zL ?_
   have zq6 := hle6.trans hle7
   have hlh7 := hlh5.trans zq6
   have hlq14 := hlh7
   refine zf (T := [(6, _), (1, _), (2, _)]) (fun (y : Nat × Int) => ([(5, .int .i64 y.2), (7, .int .i64 (y.1 : Int))] : List (Nat × Value))) (fun _ => _) (fun (y : Nat × Int) m => (fun (y : Nat) (b : Int) => (y ≤ t.arms.length) ∧ (b + nTa k (t.arms.drop y) = (nT k t : Int)) ∧ (0 ≤ b)) y.1 y.2) (fun y => t.arms.length - y.1) ((0, a)) ⟨hst7, MLe.refl _, hfr7.sub (.c <| .c <| .c <| .c <| .c <| .nil), ⟨Nat.zero_le _, by rw [List.drop_zero]; omega, by omega⟩⟩ fun y a8 w8 m8 hh8 => ?_
   have hst8 := hh8.st; have hle8 := hh8.le; have hfr8 := hh8.fr; have hrel := hh8.rel; clear hh8
   clear hst7 hfr7
   obtain ⟨y, b⟩ := y
   dsimp only at hrel hfr8 hst8
   obtain ⟨hyn, hb_, hb0⟩ := hrel
   have hlh8 := hle8
   refine zB fun _ hK15 => ?_
   refine zB fun _ hK16 => ?_
   have zq7 := zq6.trans hle8
   replace hc2 := hc2.mono zq7
   refine rp0 hst8 hfr8 (.cons rfl (zD rfl) <| .cons rfl (zA (off := 6) rfl underlying33 rfl rfl sizeOf25 rfl) <| .cons rfl (zE rfl hc2 isAgg25 rfl) <| .cons rfl (zY rfl underlying25) <| .cons rfl (zx rfl rfl) <| .nil) fun a9 w9 m9 hst9 hle9 hk9 => ?_
   have hfr9 := hk9.fr (.o 5 <| .o 7 <| .o 6 <| .o 1 <| .o 2 <| .n 32 <| .nil)
   clear hst8 hfr8 hk9
   refine hK16 _ _ ?_
   refine zF hfr9 rfl rfl (fun hb32 => ?_) (fun hb32 => ?_)
   ·try simp only [nqs] at hb32
    refine zJ ?_
    refine hK15 _ _ ?_
    refine zB fun _ hK17 => ?_
    refine zL ?_
    have zq8 := zq7.trans hle9
    have zq9 := zq2.trans zq8
    replace haa_t := haa_t.mono zq9
    obtain ⟨p18, vs18, x18, ho18, hd18, hm_x18, ht18, hcv18, hl18, hv18⟩ := haa_t.nth (k := y) (by omega)
    cases ho18
    obtain ⟨oV18, cV18, bs18, rfl, hva18, hbd18⟩ := hv18.open_
    have hbv18 := hva18.big; have hcv18_ := hva18.cap
    obtain ⟨⟨oK18b, cK18b, oA18b, cA18b, oR18b, cR18b, t018b, t118b, t218b, t318b, t418b, t518b, u018b, u118b, u218b, u318b, u418b, u518b⟩, rfl, hon18b, hkk18b, haa18b, hrr18b⟩ := hbd18.open_
    dsimp only at hkk18b haa18b hrr18b
    have hbg18b := hkk18b.big; have hcp18b := hkk18b.cap; have hbh18b := haa18b.big; have hcq18b := haa18b.cap
    rw [hd18, zCz] at hb_
    replace h_t := h_t.mono zq9
    replace hkk_t := hkk_t.mono zq9
    replace hrr_t := hrr_t.mono zq9
    replace hc2 := hc2.mono hle9
    refine rp0 hst9 hfr9 (.cons rfl (zD rfl) <| .cons rfl (zA (off := 6) rfl underlying33 rfl rfl sizeOf25 rfl) <| .cons rfl (zE rfl hc2 isAgg25 rfl) <| .cons rfl (zD rfl) <| .cons rfl (zH (k := y) rfl rfl underlying25 sizeOf72 rfl (by omega)) <| .cons rfl (zA (off := 2) rfl underlying72 rfl rfl sizeOf33 rfl) <| .cons rfl (Zf rfl hcv18 isAgg33 sizeOf33 rfl rfl) <| .cons rfl (zD rfl) <| .cons rfl (zc rfl (.cons rfl <| .cons rfl <| .nil) call18 (fun w m hK => by have hle_ := KC.le hK; have hA := KC.agree hK; have h_t := h_t.mono hle_; have hkk_t := hkk_t.mono hle_; have haa_t := haa_t.mono hle_; have hrr_t := hrr_t.mono hle_; have hc2 := hc2.mono hle_; have hcv18 := hcv18.mono hle_; have hv18 := hv18.mono hle_; have hva18 := hva18.mono hle_; have hbd18 := hbd18.mono hle_; have hkk18b := hkk18b.mono hle_; have haa18b := haa18b.mono hle_; have hrr18b := hrr18b.mono hle_; exact iha _ (by assumption) hA hbd18 (by omega))) <| .cons rfl (zk rfl rfl ⟨by omega, by omega⟩) <| .cons rfl (zC rfl) <| .nil) fun a10 w10 m10 hst10 hle10 hk10 => ?_
    have hfr10 := hk10.fr (.o 7 <| .o 6 <| .o 1 <| .o 2 <| .n 5 <| .nil)
    clear hst9 hfr9 hk10
    refine hK17 _ _ ?_
    refine rp0 hst10 hfr10 (.cons rfl (zD rfl) <| .cons rfl (zk rfl rfl ⟨by omega, by omega⟩) <| .cons rfl (zC rfl) <| .nil) fun a11 w11 m11 hst11 hle11 hk11 => ?_
    have hfr11 := hk11.fr (.o 6 <| .o 1 <| .o 2 <| .o 5 <| .n 7 <| .nil)
    clear hst10 hfr10 hk11
    have zq10 := hle10.trans hle11
    have zq11 := hle9.trans zq10
    have hlh11 := hlh8.trans zq11
    exact ⟨(y + 1, (b + (nT k x18.body : Int))), m11, by show t.arms.length - (y + 1) < t.arms.length - y; omega, ⟨hst11, hlh11, hfr11.sub (.c <| .c <| .c <| .c <| .c <| .nil), ⟨by show y + 1 ≤ t.arms.length; omega, by show b + (nT k x18.body : Int) + ((nTa k (t.arms.drop (y + 1)) : Nat) : Int) = _; omega, by show 0 ≤ b + (nT k x18.body : Int); omega⟩⟩⟩
   ·try simp only [nqs] at hb32
    have hge : y = t.arms.length := by omega
    rw [List.drop_of_length_le (by omega), nTa] at hb_
    refine zg ?_
    refine hK12 _ _ ?_
    refine zB fun _ hK19 => ?_
    refine rp0 hst9 hfr9 (.cons rfl (zD rfl) <| .cons rfl (zC rfl) <| .nil) fun a10 w10 m10 hst10 hle10 hk10 => ?_
    have hfr10 := hk10.fr (.o 5 <| .o 7 <| .o 6 <| .n 4 <| .nil)
    clear hst9 hfr9 hk10
    refine hK19 _ _ ?_
    refine zK ?_
    repeat (with_reducible first | refine zI ?_ | refine zG ?_)
    exact zM hst10 hfr10 rfl (.tmp rfl <| .nil) (by refine congrArg (Value.int _) ?_; omega)
 ·have hlj4 : MLe m2 m2 := MLe.refl _
  refine zB fun _ hK21 => ?_
  refine rp0 hst2 hfr2 (.cons rfl (zA (off := 0) rfl underlying33 rfl rfl sizeOf3 rfl) <| .cons rfl (zE rfl hc2 isAgg3 rfl) <| .cons rfl (zD rfl) <| .cons rfl (zW rfl rfl) <| .nil) fun a3 w3 m3 hst3 hle3 hk3 => ?_
  have hfr3 := hk3.fr (.o 1 <| .o 2 <| .o 5 <| .n 11 <| .nil)
  clear hst2 hfr2 hk3
  refine hK21 _ _ ?_
  refine zF hfr3 rfl rfl (fun hb11 => ?_) (fun hb11 => ?_)
  ·try simp only [nqs] at hb11
   refine rp0 hst3 hfr3 (.cons rfl (zC rfl) <| .nil) fun a4 w4 m4 hst4 hle4 hk4 => ?_
   have hfr4 := hk4.fr (.o 1 <| .o 2 <| .n 5 <| .nil)
   clear hst3 hfr3 hk4
   repeat (with_reducible first | refine zz ?_ | refine zv ?_ | refine zj ?_)
   have zq12 := hle3.trans hle4
   replace hlj4 := hlj4.trans zq12
   exact hj4 (1) _ _ _ ⟨hst4, hlj4, hfr4.sub (.c <| .c <| .c <| .nil), by simp [hb11]⟩
  ·try simp only [nqs] at hb11
   refine zJ ?_
   repeat (with_reducible first | refine zz ?_ | refine zv ?_ | refine zj ?_)
   replace hlj4 := hlj4.trans hle3
   exact hj4 (0) _ _ _ ⟨hst3, hlj4, hfr3.sub (.c <| .c <| .c <| .nil), by simp [hb11]⟩
theorem tcount_c (t : Tm) : zCn t := Tm.rec_ (p := zCn) (fun t ihk iha => tcount_s ihk iha) t
abbrev zDE (t : Cd) : Prop := ∀ {w : World} {m : Mem} {vs_t : List Value} (hA : Agree w m) (h_t : CdR m t vs_t) (h : AtC t), FnV Tryd.prog 19 #[.agg vs_t.toArray] w m (fun _ _ v => v = .bool true)
set_option maxHeartbeats 800000 in
theorem atomic_s {t : Cd} (ihk : ∀ u ∈ t.kids, zDE u) (iha : ∀ a ∈ t.arms, zDE a.body) {w : World} {m : Mem} {vs_t : List Value} (hA : Agree w m) (h_t : CdR m t vs_t) (h : AtC t) : FnV Tryd.prog 19 #[.agg vs_t.toArray] w m (fun _ _ v => v = .bool true) := by
 obtain ⟨⟨oK_t, cK_t, oA_t, cA_t⟩, rfl, ⟨hik_t, hin_t⟩, hkk_t, haa_t⟩ := h_t.open_
 dsimp only at hkk_t haa_t
 have hbg_t := hkk_t.big; have hcp_t := hkk_t.cap; have hbh_t := haa_t.big; have hcq_t := haa_t.cap
 refine zX (vs := [_]) func19 rfl rfl rfl fun a0 hfr0 => ?_
 have hst0 := zV hA (zi [] _ w m)
 have hM : MLe m m := MLe.refl m
 refine zB fun _ hK1 => ?_
 refine rp0 hst0 hfr0 (.cons rfl (z7 rfl rfl) <| .cons rfl (zC rfl) <| .nil) fun a1 w1 m1 hst1 hle1 hk1 => ?_
 have hfr1 := hk1.fr (.nil)
 obtain ⟨g2, e2, hc1⟩ := hk1.ex 1 rfl
 replace hfr1 := hfr1.cons e2
 replace h_t := h_t.mono hle1
 replace hkk_t := hkk_t.mono hle1
 replace haa_t := haa_t.mono hle1
 clear hst0 hfr0 hk1
 refine hK1 _ _ ?_
 refine zB fun _ hK3 => ?_
 refine rp0 hst1 hfr1 (.cons rfl (zC rfl) <| .nil) fun a2 w2 m2 hst2 hle2 hk2 => ?_
 have hfr2 := hk2.fr (.o 1 <| .n 3 <| .nil)
 replace h_t := h_t.mono hle2
 replace hkk_t := hkk_t.mono hle2
 replace haa_t := haa_t.mono hle2
 replace hc1 := hc1.mono hle2
 clear hst1 hfr1 hk2
 refine hK3 _ _ ?_
 refine zAR (T := [(1, _)]) (fun (y : Nat) => ([(3, .int .i64 (y : Int))] : List (Nat × Value))) (fun y => []) (fun (y : Nat) m => (fun (nc : Nat) => (nc = zCP t)) y) ((0)) ⟨hst2, MLe.refl _, hfr2.sub (.c <| .c <| .nil), trivial⟩ (fun y a3 w3 m3 hh3 => ?_) (fun K4 hj4 => ?_)
 ·have hst3 := hh3.st; have hle3 := hh3.le; have hfr3 := hh3.fr; have hrel := hh3.rel; clear hh3
  clear hst2 hfr2
  obtain ⟨nc, rfl⟩ : ∃ z, z = y := ⟨_, rfl⟩
  try dsimp only at hrel
  try dsimp only at hfr3
  try dsimp only at hst3
  have hnc := hrel
  refine zB fun _ hK5 => ?_
  refine zB fun _ hK6 => ?_
  refine rp0 hst3 hfr3 (.cons rfl (zC rfl) <| .nil) fun a4 w4 m4 hst4 hle4 hk4 => ?_
  have hfr4 := hk4.fr (.o 3 <| .o 1 <| .n 4 <| .nil)
  clear hst3 hfr3 hk4
  refine hK6 _ _ ?_
  refine zL ?_
  refine zf (T := [(3, _), (1, _)]) (fun (y : Nat) => ([(4, .int .i64 (y : Int))] : List (Nat × Value))) (fun _ => _) (fun (y : Nat) m => (y ≤ t.kids.length)) (fun y => t.kids.length - y) (0) ⟨hst4, MLe.refl _, hfr4.sub (.c <| .c <| .c <| .nil), Nat.zero_le _⟩ fun y a5 w5 m5 hh5 => ?_
  have hst5 := hh5.st; have hle5 := hh5.le; have hfr5 := hh5.fr; have hrel := hh5.rel; clear hh5
  clear hst4 hfr4
  have hyn := hrel
  have hlh5 := hle5
  refine zB fun _ hK8 => ?_
  refine zB fun _ hK9 => ?_
  have zq1 := hle4.trans hle5
  have zq2 := hle3.trans zq1
  replace hc1 := hc1.mono zq2
  refine rp0 hst5 hfr5 (.cons rfl (zD rfl) <| .cons rfl (zA (off := 4) rfl underlying46 rfl rfl sizeOf43 rfl) <| .cons rfl (zE rfl hc1 isAgg43 rfl) <| .cons rfl (zY rfl underlying43) <| .cons rfl (zx rfl rfl) <| .nil) fun a6 w6 m6 hst6 hle6 hk6 => ?_
  have hfr6 := hk6.fr (.o 4 <| .o 3 <| .o 1 <| .n 26 <| .nil)
  clear hst5 hfr5 hk6
  refine hK9 _ _ ?_
  refine zF hfr6 rfl rfl (fun hb26 => ?_) (fun hb26 => ?_)
  ·try simp only [nqs] at hb26
   refine zJ ?_
   refine hK8 _ _ ?_
   refine zB fun _ hK10 => ?_
   refine zL ?_
   refine zB fun _ hK11 => ?_
   have zq3 := zq2.trans hle6
   replace hkk_t := hkk_t.mono zq3
   obtain ⟨p12, vs12, x12, ho12, hd12, hm_x12, ht12, hcv12, hl12, hv12⟩ := hkk_t.nth (k := y) (by omega)
   cases ho12
   obtain ⟨⟨oK12, cK12, oA12, cA12⟩, rfl, ⟨hik12, hin12⟩, hkk12, haa12⟩ := hv12.open_
   dsimp only at hkk12 haa12
   have hbg12 := hkk12.big; have hcp12 := hkk12.cap; have hbh12 := haa12.big; have hcq12 := haa12.cap
   replace hc1 := hc1.mono hle6
   refine rp0 hst6 hfr6 (.cons rfl (zA (off := 4) rfl underlying46 rfl rfl sizeOf43 rfl) <| .cons rfl (zE rfl hc1 isAgg43 rfl) <| .cons rfl (zD rfl) <| .cons rfl (zH (k := y) rfl rfl underlying43 sizeOf46 rfl (by omega)) <| .cons rfl (zA (off := 0) rfl underlying46 rfl rfl sizeOf3 rfl) <| .cons rfl (zE rfl hcv12 isAgg3 rfl) <| .cons rfl (zC rfl) <| .nil) fun a7 w7 m7 hst7 hle7 hk7 => ?_
   have hfr7 := hk7.fr (.o 4 <| .o 3 <| .o 1 <| .n 5 <| .nil)
   clear hst6 hfr6 hk7
   refine hK11 _ _ ?_
   refine zB fun _ hK13 => ?_
   refine rp0 hst7 hfr7 (.cons rfl (zD rfl) <| .cons rfl (zW rfl rfl) <| .cons rfl (zD rfl) <| .cons rfl (zD rfl) <| .cons rfl (zW rfl rfl) <| .cons rfl (ZC rfl rfl rfl) <| .cons rfl (zD rfl) <| .cons rfl (zD rfl) <| .cons rfl (zW rfl rfl) <| .cons rfl (ZC rfl rfl rfl) <| .cons rfl (zD rfl) <| .cons rfl (zD rfl) <| .cons rfl (zW rfl rfl) <| .cons rfl (ZC rfl rfl rfl) <| .cons rfl (zD rfl) <| .cons rfl (zD rfl) <| .cons rfl (zW rfl rfl) <| .cons rfl (ZC rfl rfl rfl) <| .cons rfl (zC rfl) <| .nil) fun a8 w8 m8 hst8 hle8 hk8 => ?_
   have hfr8 := hk8.fr (.o 4 <| .o 3 <| .o 1 <| .n 6 <| .nil)
   clear hst7 hfr7 hk8
   refine hK13 _ _ ?_
   refine zB fun _ hK14 => ?_
   have zq4 := hle7.trans hle8
   have zq5 := zq3.trans zq4
   replace h_t := h_t.mono zq5
   replace haa_t := haa_t.mono zq5
   replace hkk_t := hkk_t.mono zq4
   replace hc1 := hc1.mono zq4
   replace hcv12 := hcv12.mono zq4
   replace hv12 := hv12.mono zq4
   replace hkk12 := hkk12.mono zq4
   replace haa12 := haa12.mono zq4
   refine rp0 hst8 hfr8 (.cons rfl (zD rfl) <| .cons rfl (zD rfl) <| .cons rfl (zx rfl rfl) <| .cons rfl (zD rfl) <| .cons rfl (zD rfl) <| .cons rfl (Zm rfl) <| .cons rfl (ZV rfl rfl rfl) <| .cons rfl (zD rfl) <| .cons rfl (zA (off := 4) rfl underlying46 rfl rfl sizeOf43 rfl) <| .cons rfl (zE rfl hc1 isAgg43 rfl) <| .cons rfl (zD rfl) <| .cons rfl (zH (k := y) rfl rfl underlying43 sizeOf46 rfl (by omega)) <| .cons rfl (zN rfl hcv12 isAgg46 sizeOf46 rfl rfl) <| .cons rfl (zc rfl (.cons rfl <| .nil) call19 (fun w m hK => by have hle_ := KC.le hK; have hA := KC.agree hK; have h_t := h_t.mono hle_; have hkk_t := hkk_t.mono hle_; have haa_t := haa_t.mono hle_; have hc1 := hc1.mono hle_; have hcv12 := hcv12.mono hle_; have hv12 := hv12.mono hle_; have hkk12 := hkk12.mono hle_; have haa12 := haa12.mono hle_; exact ihk _ (by assumption) hA hv12 (h.kid (by assumption)))) <| .cons rfl (Zm rfl) <| .cons rfl (ZC rfl rfl rfl) <| .nil) fun a9 w9 m9 hst9 hle9 hk9 => ?_
   have hfr9 := hk9.fr (.o 4 <| .o 3 <| .o 1 <| .n 68 <| .nil)
   clear hst8 hfr8 hk9
   refine hK14 _ _ ?_
   refine zF hfr9 rfl rfl (fun hb68 => ?_) (fun hb68 => ?_)
   ·try simp only [nqs] at hb68
    have ha9 := h.here _ _ (zAa hd12)
    exfalso; unfold isAt at ha9; simp at hb68; omega
   ·try simp only [nqs] at hb68
    refine zJ ?_
    refine hK10 _ _ ?_
    refine rp0 hst9 hfr9 (.cons rfl (zD rfl) <| .cons rfl (zk rfl rfl ⟨by omega, by omega⟩) <| .cons rfl (zC rfl) <| .nil) fun a10 w10 m10 hst10 hle10 hk10 => ?_
    have hfr10 := hk10.fr (.o 3 <| .o 1 <| .n 4 <| .nil)
    clear hst9 hfr9 hk10
    have zq6 := hle9.trans hle10
    have zq7 := zq4.trans zq6
    have zq8 := hle6.trans zq7
    have hlh10 := hlh5.trans zq8
    exact ⟨y + 1, m10, by show t.kids.length - (y + 1) < t.kids.length - y; omega, ⟨hst10, hlh10, hfr10.sub (.c <| .c <| .c <| .nil), by show y + 1 ≤ t.kids.length; omega⟩⟩
  ·try simp only [nqs] at hb26
   have hge : y = t.kids.length := by omega
   refine zg ?_
   refine hK5 _ _ ?_
   refine zB fun _ hK15 => ?_
   refine zB fun _ hK16 => ?_
   refine rp0 hst6 hfr6 (.cons rfl (zC rfl) <| .nil) fun a7 w7 m7 hst7 hle7 hk7 => ?_
   have hfr7 := hk7.fr (.o 4 <| .o 3 <| .o 1 <| .n 7 <| .nil)
   clear hst6 hfr6 hk7
   refine hK16 _ _ ?_
   refine zL ?_
   have zq9 := hle6.trans hle7
   have hlh7 := hlh5.trans zq9
   have hlq17 := hlh7
   refine zf (T := [(4, _), (3, _), (1, _)]) (fun (y : Nat) => ([(7, .int .i64 (y : Int))] : List (Nat × Value))) (fun _ => _) (fun (y : Nat) m => (y ≤ t.arms.length)) (fun y => t.arms.length - y) (0) ⟨hst7, MLe.refl _, hfr7.sub (.c <| .c <| .c <| .c <| .nil), Nat.zero_le _⟩ fun y a8 w8 m8 hh8 => ?_
   have hst8 := hh8.st; have hle8 := hh8.le; have hfr8 := hh8.fr; have hrel := hh8.rel; clear hh8
   clear hst7 hfr7
   have hyn := hrel
   have hlh8 := hle8
   refine zB fun _ hK18 => ?_
   refine zB fun _ hK19 => ?_
   have zq10 := zq9.trans hle8
   replace hc1 := hc1.mono zq10
   refine rp0 hst8 hfr8 (.cons rfl (zD rfl) <| .cons rfl (zA (off := 5) rfl underlying46 rfl rfl sizeOf44 rfl) <| .cons rfl (zE rfl hc1 isAgg44 rfl) <| .cons rfl (zY rfl underlying44) <| .cons rfl (zx rfl rfl) <| .nil) fun a9 w9 m9 hst9 hle9 hk9 => ?_
   have hfr9 := hk9.fr (.o 7 <| .o 4 <| .o 3 <| .o 1 <| .n 73 <| .nil)
   clear hst8 hfr8 hk9
   refine hK19 _ _ ?_
   refine zF hfr9 rfl rfl (fun hb73 => ?_) (fun hb73 => ?_)
   ·try simp only [nqs] at hb73
    refine zJ ?_
    refine hK18 _ _ ?_
    refine zB fun _ hK20 => ?_
    refine zL ?_
    refine zB fun _ hK21 => ?_
    have zq11 := zq10.trans hle9
    have zq12 := zq2.trans zq11
    replace haa_t := haa_t.mono zq12
    obtain ⟨p22, vs22, x22, ho22, hd22, hm_x22, ht22, hcv22, hl22, hv22⟩ := haa_t.nth (k := y) (by omega)
    cases ho22
    obtain ⟨oV22, cV22, bs22, rfl, hva22, hbd22⟩ := hv22.open_
    have hbv22 := hva22.big; have hcv22_ := hva22.cap
    obtain ⟨⟨oK22b, cK22b, oA22b, cA22b⟩, rfl, ⟨hik22b, hin22b⟩, hkk22b, haa22b⟩ := hbd22.open_
    dsimp only at hkk22b haa22b
    have hbg22b := hkk22b.big; have hcp22b := hkk22b.cap; have hbh22b := haa22b.big; have hcq22b := haa22b.cap
    replace h_t := h_t.mono zq12
    replace hkk_t := hkk_t.mono zq12
    replace hc1 := hc1.mono hle9
    refine rp0 hst9 hfr9 (.cons rfl (zA (off := 5) rfl underlying46 rfl rfl sizeOf44 rfl) <| .cons rfl (zE rfl hc1 isAgg44 rfl) <| .cons rfl (zD rfl) <| .cons rfl (zH (k := y) rfl rfl underlying44 sizeOf78 rfl (by omega)) <| .cons rfl (zA (off := 3) rfl underlying78 rfl rfl sizeOf46 rfl) <| .cons rfl (Zf rfl hcv22 isAgg46 sizeOf46 rfl rfl) <| .cons rfl (zc rfl (.cons rfl <| .nil) call19 (fun w m hK => by have hle_ := KC.le hK; have hA := KC.agree hK; have h_t := h_t.mono hle_; have hkk_t := hkk_t.mono hle_; have haa_t := haa_t.mono hle_; have hc1 := hc1.mono hle_; have hcv22 := hcv22.mono hle_; have hv22 := hv22.mono hle_; have hva22 := hva22.mono hle_; have hbd22 := hbd22.mono hle_; have hkk22b := hkk22b.mono hle_; have haa22b := haa22b.mono hle_; exact iha _ (by assumption) hA hbd22 (h.arm (by assumption)))) <| .cons rfl (zC rfl) <| .nil) fun a10 w10 m10 hst10 hle10 hk10 => ?_
    have hfr10 := hk10.fr (.o 7 <| .o 4 <| .o 3 <| .o 1 <| .n 8 <| .nil)
    clear hst9 hfr9 hk10
    refine hK21 _ _ ?_
    refine zB fun _ hK23 => ?_
    refine rp0 hst10 hfr10 (.cons rfl (zD rfl) <| .cons rfl (Zm rfl) <| .nil) fun a11 w11 m11 hst11 hle11 hk11 => ?_
    have hfr11 := hk11.fr (.o 7 <| .o 4 <| .o 3 <| .o 1 <| .n 84 <| .nil)
    clear hst10 hfr10 hk11
    refine hK23 _ _ ?_
    refine zF hfr11 rfl rfl (fun hb84 => ?_) (fun hb84 => ?_)
    ·simp at hb84
    ·try simp only [nqs] at hb84
     refine zJ ?_
     refine hK20 _ _ ?_
     refine rp0 hst11 hfr11 (.cons rfl (zD rfl) <| .cons rfl (zk rfl rfl ⟨by omega, by omega⟩) <| .cons rfl (zC rfl) <| .nil) fun a12 w12 m12 hst12 hle12 hk12 => ?_
     have hfr12 := hk12.fr (.o 4 <| .o 3 <| .o 1 <| .n 7 <| .nil)
     clear hst11 hfr11 hk12
     have zq13 := hle11.trans hle12
     have zq14 := hle10.trans zq13
     have zq15 := hle9.trans zq14
     have hlh12 := hlh8.trans zq15
     exact ⟨y + 1, m12, by show t.arms.length - (y + 1) < t.arms.length - y; omega, ⟨hst12, hlh12, hfr12.sub (.c <| .c <| .c <| .c <| .nil), by show y + 1 ≤ t.arms.length; omega⟩⟩
   ·try simp only [nqs] at hb73
    have hge : y = t.arms.length := by omega
    refine zg ?_
    refine hK15 _ _ ?_
    refine zB fun _ hK24 => ?_
    refine rp0 hst9 hfr9 (.cons rfl (zC rfl) <| .nil) fun a10 w10 m10 hst10 hle10 hk10 => ?_
    have hfr10 := hk10.fr (.o 7 <| .o 4 <| .o 3 <| .n 2 <| .nil)
    clear hst9 hfr9 hk10
    refine hK24 _ _ ?_
    refine zK ?_
    repeat (with_reducible first | refine zI ?_ | refine zG ?_)
    exact zM hst10 hfr10 rfl (.tmp rfl <| .nil) (rfl)
 ·have hlj4 : MLe m2 m2 := MLe.refl _
  refine zB fun _ hK26 => ?_
  refine rp0 hst2 hfr2 (.cons rfl (zA (off := 0) rfl underlying46 rfl rfl sizeOf3 rfl) <| .cons rfl (zE rfl hc1 isAgg3 rfl) <| .nil) fun a3 w3 m3 hst3 hle3 hk3 => ?_
  have hfr3 := hk3.fr (.o 1 <| .o 3 <| .n 10 <| .nil)
  clear hst2 hfr2 hk3
  refine hK26 _ _ ?_
  refine zL ?_
  refine zB fun _ hK27 => ?_
  refine zB fun _ hK28 => ?_
  refine rp0 hst3 hfr3 (.cons rfl (zW rfl rfl) <| .cons rfl (zC rfl) <| .nil) fun a4 w4 m4 hst4 hle4 hk4 => ?_
  have hfr4 := hk4.fr (.o 1 <| .o 3 <| .o 10 <| .n 11 <| .nil)
  clear hst3 hfr3 hk4
  refine hK28 _ _ ?_
  refine zF hfr4 rfl rfl (fun hb11 => ?_) (fun hb11 => ?_)
  ·try simp only [nqs] at hb11
   refine zJ ?_
   refine hK27 _ _ ?_
   refine zF hfr4 rfl rfl (fun hb11x => ?_) (fun hb11x => ?_)
   ·try simp only [nqs] at hb11x
    have zq16 := hle3.trans hle4
    replace hc1 := hc1.mono zq16
    refine rp0 hst4 hfr4 (.cons rfl (zA (off := 4) rfl underlying46 rfl rfl sizeOf43 rfl) <| .cons rfl (zE rfl hc1 isAgg43 rfl) <| .cons rfl (zY rfl underlying43) <| .cons rfl (zC rfl) <| .nil) fun a5 w5 m5 hst5 hle5 hk5 => ?_
    have hfr5 := hk5.fr (.o 1 <| .n 3 <| .nil)
    clear hst4 hfr4 hk5
    repeat (with_reducible first | refine zz ?_ | refine zv ?_ | refine zj ?_)
    have zq17 := zq16.trans hle5
    replace hlj4 := hlj4.trans zq17
    exact hj4 (t.kids.length) _ _ _ ⟨hst5, hlj4, hfr5.sub (.c <| .c <| .nil), by unfold zCP; first | rw [if_pos (by omega)] | (rw [if_neg (by omega)]; first | rw [if_pos (by omega)] | rw [if_neg (by omega)])⟩
   ·exfalso; try simp only [nqs] at hb11x
    first | exact absurd hb11x hb11 | exact absurd hb11 hb11x | simp_all
  ·try simp only [nqs] at hb11
   refine zB fun _ hK29 => ?_
   refine rp0 hst4 hfr4 (.cons rfl (zW rfl rfl) <| .cons rfl (zC rfl) <| .nil) fun a5 w5 m5 hst5 hle5 hk5 => ?_
   have hfr5 := hk5.fr (.o 1 <| .o 3 <| .o 10 <| .n 11 <| .nil)
   clear hst4 hfr4 hk5
   refine hK29 _ _ ?_
   refine zF hfr5 rfl rfl (fun hb11 => ?_) (fun hb11 => ?_)
   ·try simp only [nqs] at hb11
    refine zJ ?_
    refine hK27 _ _ ?_
    refine zF hfr5 rfl rfl (fun hb11x => ?_) (fun hb11x => ?_)
    ·try simp only [nqs] at hb11x
     have zq18 := hle4.trans hle5
     have zq19 := hle3.trans zq18
     replace hc1 := hc1.mono zq19
     refine rp0 hst5 hfr5 (.cons rfl (zA (off := 4) rfl underlying46 rfl rfl sizeOf43 rfl) <| .cons rfl (zE rfl hc1 isAgg43 rfl) <| .cons rfl (zY rfl underlying43) <| .cons rfl (zC rfl) <| .nil) fun a6 w6 m6 hst6 hle6 hk6 => ?_
     have hfr6 := hk6.fr (.o 1 <| .n 3 <| .nil)
     clear hst5 hfr5 hk6
     repeat (with_reducible first | refine zz ?_ | refine zv ?_ | refine zj ?_)
     have zq20 := zq19.trans hle6
     replace hlj4 := hlj4.trans zq20
     exact hj4 (t.kids.length) _ _ _ ⟨hst6, hlj4, hfr6.sub (.c <| .c <| .nil), by unfold zCP; first | rw [if_pos (by omega)] | (rw [if_neg (by omega)]; first | rw [if_pos (by omega)] | rw [if_neg (by omega)])⟩
    ·exfalso; try simp only [nqs] at hb11x
     first | exact absurd hb11x hb11 | exact absurd hb11 hb11x | simp_all
   ·try simp only [nqs] at hb11
    refine zB fun _ hK30 => ?_
    refine rp0 hst5 hfr5 (.cons rfl (zW rfl rfl) <| .cons rfl (zC rfl) <| .nil) fun a6 w6 m6 hst6 hle6 hk6 => ?_
    have hfr6 := hk6.fr (.o 1 <| .o 3 <| .o 10 <| .n 11 <| .nil)
    clear hst5 hfr5 hk6
    refine hK30 _ _ ?_
    refine zF hfr6 rfl rfl (fun hb11 => ?_) (fun hb11 => ?_)
    ·try simp only [nqs] at hb11
     refine zJ ?_
     refine hK27 _ _ ?_
     refine zF hfr6 rfl rfl (fun hb11x => ?_) (fun hb11x => ?_)
     ·try simp only [nqs] at hb11x
      have zq21 := hle5.trans hle6
      have zq22 := hle4.trans zq21
      have zq23 := hle3.trans zq22
      replace hc1 := hc1.mono zq23
      refine rp0 hst6 hfr6 (.cons rfl (zA (off := 4) rfl underlying46 rfl rfl sizeOf43 rfl) <| .cons rfl (zE rfl hc1 isAgg43 rfl) <| .cons rfl (zY rfl underlying43) <| .cons rfl (zC rfl) <| .nil) fun a7 w7 m7 hst7 hle7 hk7 => ?_
      have hfr7 := hk7.fr (.o 1 <| .n 3 <| .nil)
      clear hst6 hfr6 hk7
      repeat (with_reducible first | refine zz ?_ | refine zv ?_ | refine zj ?_)
      have zq24 := zq23.trans hle7
      replace hlj4 := hlj4.trans zq24
      exact hj4 (t.kids.length) _ _ _ ⟨hst7, hlj4, hfr7.sub (.c <| .c <| .nil), by unfold zCP; first | rw [if_pos (by omega)] | (rw [if_neg (by omega)]; first | rw [if_pos (by omega)] | rw [if_neg (by omega)])⟩
     ·exfalso; try simp only [nqs] at hb11x
      first | exact absurd hb11x hb11 | exact absurd hb11 hb11x | simp_all
    ·try simp only [nqs] at hb11
     refine rp0 hst6 hfr6 (.cons rfl (zW rfl rfl) <| .cons rfl (zC rfl) <| .nil) fun a7 w7 m7 hst7 hle7 hk7 => ?_
     have hfr7 := hk7.fr (.o 1 <| .o 3 <| .o 10 <| .n 11 <| .nil)
     clear hst6 hfr6 hk7
     refine hK27 _ _ ?_
     refine zF hfr7 rfl rfl (fun hb11 => ?_) (fun hb11 => ?_)
     ·try simp only [nqs] at hb11
      have zq25 := hle6.trans hle7
      have zq26 := hle5.trans zq25
      have zq27 := hle4.trans zq26
      have zq28 := hle3.trans zq27
      replace hc1 := hc1.mono zq28
      refine rp0 hst7 hfr7 (.cons rfl (zA (off := 4) rfl underlying46 rfl rfl sizeOf43 rfl) <| .cons rfl (zE rfl hc1 isAgg43 rfl) <| .cons rfl (zY rfl underlying43) <| .cons rfl (zC rfl) <| .nil) fun a8 w8 m8 hst8 hle8 hk8 => ?_
      have hfr8 := hk8.fr (.o 1 <| .n 3 <| .nil)
      clear hst7 hfr7 hk8
      repeat (with_reducible first | refine zz ?_ | refine zv ?_ | refine zj ?_)
      have zq29 := zq28.trans hle8
      replace hlj4 := hlj4.trans zq29
      exact hj4 (t.kids.length) _ _ _ ⟨hst8, hlj4, hfr8.sub (.c <| .c <| .nil), by unfold zCP; first | rw [if_pos (by omega)] | (rw [if_neg (by omega)]; first | rw [if_pos (by omega)] | rw [if_neg (by omega)])⟩
     ·try simp only [nqs] at hb11
      refine zB fun _ hK31 => ?_
      refine zB fun _ hK32 => ?_
      refine rp0 hst7 hfr7 (.cons rfl (zW rfl rfl) <| .cons rfl (zC rfl) <| .nil) fun a8 w8 m8 hst8 hle8 hk8 => ?_
      have hfr8 := hk8.fr (.o 1 <| .o 3 <| .o 10 <| .n 19 <| .nil)
      clear hst7 hfr7 hk8
      refine hK32 _ _ ?_
      refine zF hfr8 rfl rfl (fun hb19 => ?_) (fun hb19 => ?_)
      ·try simp only [nqs] at hb19
       refine zJ ?_
       refine hK31 _ _ ?_
       refine zF hfr8 rfl rfl (fun hb19x => ?_) (fun hb19x => ?_)
       ·try simp only [nqs] at hb19x
        refine rp0 hst8 hfr8 (.cons rfl (zC rfl) <| .nil) fun a9 w9 m9 hst9 hle9 hk9 => ?_
        have hfr9 := hk9.fr (.o 1 <| .n 3 <| .nil)
        clear hst8 hfr8 hk9
        repeat (with_reducible first | refine zz ?_ | refine zv ?_ | refine zj ?_)
        have zq30 := hle8.trans hle9
        have zq31 := hle7.trans zq30
        have zq32 := hle6.trans zq31
        have zq33 := hle5.trans zq32
        have zq34 := hle4.trans zq33
        have zq35 := hle3.trans zq34
        replace hlj4 := hlj4.trans zq35
        exact hj4 (1) _ _ _ ⟨hst9, hlj4, hfr9.sub (.c <| .c <| .nil), by unfold zCP; first | rw [if_pos (by omega)] | (rw [if_neg (by omega)]; first | rw [if_pos (by omega)] | rw [if_neg (by omega)])⟩
       ·exfalso; try simp only [nqs] at hb19x
        first | exact absurd hb19x hb19 | exact absurd hb19 hb19x | simp_all
      ·try simp only [nqs] at hb19
       refine rp0 hst8 hfr8 (.cons rfl (zW rfl rfl) <| .cons rfl (zC rfl) <| .nil) fun a9 w9 m9 hst9 hle9 hk9 => ?_
       have hfr9 := hk9.fr (.o 1 <| .o 3 <| .n 19 <| .nil)
       clear hst8 hfr8 hk9
       refine hK31 _ _ ?_
       refine zF hfr9 rfl rfl (fun hb19 => ?_) (fun hb19 => ?_)
       ·try simp only [nqs] at hb19
        refine rp0 hst9 hfr9 (.cons rfl (zC rfl) <| .nil) fun a10 w10 m10 hst10 hle10 hk10 => ?_
        have hfr10 := hk10.fr (.o 1 <| .n 3 <| .nil)
        clear hst9 hfr9 hk10
        repeat (with_reducible first | refine zz ?_ | refine zv ?_ | refine zj ?_)
        have zq36 := hle9.trans hle10
        have zq37 := hle8.trans zq36
        have zq38 := hle7.trans zq37
        have zq39 := hle6.trans zq38
        have zq40 := hle5.trans zq39
        have zq41 := hle4.trans zq40
        have zq42 := hle3.trans zq41
        replace hlj4 := hlj4.trans zq42
        exact hj4 (1) _ _ _ ⟨hst10, hlj4, hfr10.sub (.c <| .c <| .nil), by unfold zCP; first | rw [if_pos (by omega)] | (rw [if_neg (by omega)]; first | rw [if_pos (by omega)] | rw [if_neg (by omega)])⟩
       ·try simp only [nqs] at hb19
        refine zJ ?_
        repeat (with_reducible first | refine zz ?_ | refine zv ?_ | refine zj ?_)
        have zq43 := hle8.trans hle9
        have zq44 := hle7.trans zq43
        have zq45 := hle6.trans zq44
        have zq46 := hle5.trans zq45
        have zq47 := hle4.trans zq46
        have zq48 := hle3.trans zq47
        replace hlj4 := hlj4.trans zq48
        exact hj4 (0) _ _ _ ⟨hst9, hlj4, hfr9.sub (.c <| .c <| .nil), by unfold zCP; first | rw [if_pos (by omega)] | (rw [if_neg (by omega)]; first | rw [if_pos (by omega)] | rw [if_neg (by omega)])⟩
theorem atomic_c (t : Cd) : zDE t := Cd.rec_ (p := zDE) (fun t ihk iha => atomic_s ihk iha) t
end Go.Proofs.YtmdhhjmomilhjaaDoor
namespace Go.Proofs.YtmdhhjmomilhjaaDoor
set_option linter.all false
set_option maxRecDepth 4000
open Go.RowKit
-- counts of kinds
def P9 : List (Int × Int) := [(6, 6), (10, 11), (11, 12), (13, 14), (14, 15), (5, 5), (8, 9), (9, 10), (12, 13)]
structure PairK (a b : Int) : Prop where
 b0 : b ≠ 0 ∧ b ≠ 1 ∧ b ≠ 2 ∧ b ≠ 3 ∧ b ≠ 4 ∧ b ≠ 7 ∧ b ≠ 8
 a0 : a ≠ 1 ∧ a ≠ 2 ∧ a ≠ 3 ∧ a ≠ 4 ∧ a ≠ 7
 k8 : b = 9 ↔ a = 8
 k14 : b = 15 ↔ a = 14
 k5 : b = 5 ↔ a = 5
 out : ∀ k : Int, (k = 0 ∨ k = 6 ∨ k = 9 ∨ k = 10 ∨ k = 11 ∨ k = 12 ∨ k = 13) → (Z3 k = b ↔ k = a)
theorem pair_of {a b : Int} (h : (a, b) ∈ P9) : PairK a b := by
 simp only [P9, List.mem_cons, Prod.mk.injEq, List.not_mem_nil, or_false] at h
 have key : ∀ k : Int, (k = 0 ∨ k = 6 ∨ k = 9 ∨ k = 10 ∨ k = 11 ∨ k = 12 ∨ k = 13) → (k = 0 ∧ Z3 k = 0) ∨ (k = 6 ∧ Z3 k = 6) ∨ (k = 9 ∧ Z3 k = 10) ∨ (k = 10 ∧ Z3 k = 11) ∨ (k = 11 ∧ Z3 k = 12) ∨ (k = 12 ∧ Z3 k = 13) ∨ (k = 13 ∧ Z3 k = 14) := by
  intro k hk
  rcases hk with rfl | rfl | rfl | rfl | rfl | rfl | rfl <;> simp [Z3]
 exact ⟨by omega, by omega, by omega, by omega, by omega, fun k hk => by have := key k hk; omega⟩
theorem nK_add {b : Int} (h : b ≠ 1 ∧ b ≠ 7 ∧ b ≠ 8) : AddC (nK b) (nKs b) where
 nil := by simp [nKs]
 cons t ts := by rw [nKs]
 bind k s x y hk := by
  rw [zCx]; show (if k = b then 1 else 0) + (nK b x + (nK b y + nKs b []) + nAs b []) = _
  rw [if_neg (by omega)]; simp [nKs, nAs]
 var s := by rw [zCx]; show (if (1 : Int) = b then 1 else 0) + (nKs b [] + nAs b []) = _; rw [if_neg (by omega)]; simp [nKs, nAs]
theorem nT_add (a : Int) : AddT (nT a) (nTs a) := ⟨by simp [nTs], fun t ts => by rw [nTs]⟩
theorem arm_nK {b a : Int} {g : Gen} : ∀ (l : List Ar) (n : Nat), (∀ u ∈ l, ∀ n, nK b (g u.body n).1 = nT a u.body) → nAs b (zBn g l n) = nTa a l
 | [], n, _ => by simp [zBn, nAs, nTa]
 | t :: ts, n, h => by
  have ih := arm_nK ts (g t.body n).2 fun u hu => h u (.tail _ hu)
  rw [zBn, zCp, zCz, ih]; show nK b (g t.body n).1 + _ = _; rw [h t (.head _) n]
theorem proT_no {i : Nat} {a : Ar} : Zu false i a = a.body ∧ zBP false i a = false ∧ zCO false i a = a.vars := by
 have : zBP false i a = false := by unfold zBP; simp
 unfold Zu zCO; rw [this]; exact ⟨rfl, rfl, rfl⟩
theorem pro_nK {b a : Int} {g : Gen} : ∀ (l : List Ar) (i n : Nat), (∀ u ∈ l, ∀ n, nK b (g u.body n).1 = nT a u.body) → nAs b (zBf false g i l n) = nTa a l
 | [], i, n, _ => by simp [zBf, nAs, nTa]
 | t :: ts, i, n, h => by
  rw [zBf, zCp, zCz, proT_no.1, pro_nK ts (i + 1) _ fun u hu => h u (.tail _ hu)]; show nK b (g t.body n).1 + _ = _; rw [h t (.head _) n]
theorem low_nK {a b : Int} (hp : PairK a b) (sel : Bool) : ∀ (f : Nat) (t : Tm) (n : Nat), LwT t → zO t ≤ f → nK b (zT sel false f t n).1 = nT a t
 | 0, t, n, _, hc => by have := zq t; omega
 | f + 1, t, n, hl, hc => by
  have hce := zq t
  have hks : ∀ u ∈ t.kids, ∀ n, nK b (zT sel false f u n).1 = nT a u := fun u hu n => low_nK hp sel f u n (hl.kid hu) (by have := ZA hu; omega)
  have has : ∀ u ∈ t.arms, ∀ n, nK b (zT sel false f u.body n).1 = nT a u.body := fun u hu n => low_nK hp sel f u.body n (hl.arm hu) (by have := Zb hu; omega)
  rw [show zT sel false (f + 1) t n = ZS sel false (zT sel false f) t n from rfl]
  generalize zT sel false f = g at hks has
  have hb := hp.b0; have ha := hp.a0; have h8 := hp.k8; have h14 := hp.k14; have h5 := hp.k5
  rw [nT_eq]
  rcases zDQ hl with ⟨hk, ⟨x, y, e⟩, e2⟩ | ⟨hk, ⟨x, y, e⟩, e2⟩ | ⟨hk, x, e⟩ | ⟨hk, ⟨x, e⟩, e2⟩ | ⟨hk, e, e2⟩ | hc
  ·rw [body7 hk, zBk e, kid_1 e, (nK_add ⟨hb.2.1, hb.2.2.2.2.2.1, hb.2.2.2.2.2.2⟩).bind _ _ _ _ (zCM _ _), e, e2, if_neg (by omega)]; rw [e] at hks
   rw [hks x (.head _) n, hks y (.tail _ (.head _)) _]; simp [nTs, nTa]
  ·rw [body8 hk, zBk e, kid_1 e, zCx, e, e2]; rw [e] at hks
   show (if (9 : Int) = b then 1 else 0) + (nK b (g x n).1 + (nK b (g y (g x n).2).1 + nKs b []) + nAs b []) = _
   rw [hks x (.head _) n, hks y (.tail _ (.head _)) _, show (if (9 : Int) = b then 1 else 0) = (if t.kind = a then 1 else 0) from by split <;> split <;> omega]; simp [nTs, nTa, nKs, nAs]
  ·rw [zCW hk, zBk e, zCx, e]; rw [e] at hks
   show (if (15 : Int) = b then 1 else 0) + ((nK b (g x n).1 + nKs b []) + nAs b (zBf false g 0 t.arms (g x n).2)) = _
   rw [hks x (.head _) n, pro_nK t.arms 0 _ has, show (if (15 : Int) = b then 1 else 0) = (if t.kind = a then 1 else 0) from by split <;> split <;> omega]; simp [nTs, nKs]
  ·rw [body5 hk, zBk e, zCx, e, e2]; rw [e] at hks
   show (if (5 : Int) = b then 1 else 0) + ((nK b (g x n).1 + nKs b []) + nAs b []) = _
   rw [hks x (.head _) n, show (if (5 : Int) = b then 1 else 0) = (if t.kind = a then 1 else 0) from by split <;> split <;> omega]; simp [nTs, nTa, nKs, nAs]
  ·rw [zBV hk, zCx, e, e2]
   show (if t.kind = b then 1 else 0) + (nKs b [] + nAs b []) = _
   rw [if_neg (by omega), if_neg (by omega)]; simp [nTs, nTa, nKs, nAs]
  ·have hk7 : t.kind = 0 ∨ t.kind = 6 ∨ t.kind = 9 ∨ t.kind = 10 ∨ t.kind = 11 ∨ t.kind = 12 ∨ t.kind = 13 := by rcases hc with ⟨h, _⟩ | ⟨h, _⟩ <;> omega
   rw [zDJ hk7]
   have h1 := (nK_add ⟨hb.2.1, hb.2.2.2.2.2.1, hb.2.2.2.2.2.2⟩).core (nT_add a) (sel := sel) (n := n) hks
   have h2 : nK b (zAT g t n) = (if Z3 t.kind = b then 1 else 0) + (nKs b (zAT g t n).kids + nAs b (zBn g t.arms (zBp g t n))) := by rw [zCx]; rfl
   rw [arm_nK t.arms _ has] at h2
   have h3 := hp.out t.kind hk7
   dsimp only
   have h4 : (if Z3 t.kind = b then 1 else 0) = (if t.kind = a then 1 else 0) := by split <;> split <;> simp_all
   rw [h4] at h2; omega
theorem nT_count (k : Int) (t : Tm) : nT k t ≤ zO t := by
 induction t using Tm.rec_ with
 | h t ihk iha =>
  have hk : ∀ l : List Tm, (∀ u ∈ l, u ∈ t.kids) → nTs k l ≤ zQ l := by
   intro l
   induction l with
   | nil => intro _; simp [nTs]
   | cons u l ih => intro hl; rw [nTs, zQ]; have := ihk u (hl u (.head _)); have := ih (fun u hu => hl u (.tail _ hu)); omega
  have ha : ∀ l : List Ar, (∀ u ∈ l, u ∈ t.arms) → nTa k l ≤ zm l := by
   intro l
   induction l with
   | nil => intro _; simp [nTa]
   | cons u l ih => intro hl; rw [zCz, zw]; have := iha u (hl u (.head _)); have := ih (fun u hu => hl u (.tail _ hu)); omega
  rw [nT_eq, zq]
  have := hk t.kids (fun _ h => h); have := ha t.arms (fun _ h => h)
  split <;> omega
-- all arguments are atoms
theorem at_var (s : Str) : AtC (zBo s) := .mk (fun i u h _ => by cases h) (fun u h => nomatch h) (fun a h => nomatch h)
theorem at_cd2 {k : Int} {s p : Str} {a b : Cd} (hk : k = 7 ∨ k = 8 ∨ k = 9) (ha : AtC a) (hb : AtC b) : AtC (cd2 k s p a b) := by
 refine .mk (fun i u h hi => ?_) (fun u hu => ?_) (fun a h => nomatch h)
 ·have : zCP (cd2 k s p a b) = 0 := by unfold zCP; rw [if_neg (by show ¬ (k = 6 ∨ k = 11 ∨ k = 12 ∨ k = 14); omega), if_neg (by show ¬ (k = 10 ∨ k = 13); omega)]
  omega
 ·rcases List.mem_cons.1 hu with rfl | hu
  ·exact ha
  ·rw [List.mem_singleton] at hu; subst hu; exact hb
theorem at_around : ∀ {bl : List Bd} {c : Cd}, (∀ b ∈ bl, (b.kind = 7 ∨ b.kind = 8) ∧ AtC b.code) → AtC c → AtC (ZM bl c)
 | [], c, _, h => h
 | b :: bl, c, hb, h => at_cd2 (by have := (hb b (.head _)).1; omega) (hb b (.head _)).2 (at_around (fun x hx => hb x (.tail _ hx)) h)
theorem light_at {sel tl : Bool} {f : Nat} {t : Tm} {n : Nat} (hc : zO t ≤ f) (h : Zd t = true) : isAt (zT sel tl f t n).1 := by
 cases f with
 | zero => have := zq t; omega
 | succ f =>
  rw [show zT sel tl (f + 1) t n = ZS sel tl (zT sel tl f) t n from rfl]
  rw [zDF] at h
  by_cases h5 : t.kind = 5
  ·rw [body5 h5]; exact ⟨by show (1 : Int) ≤ 5; decide, by show (5 : Int) ≤ 5; decide⟩
  ·rw [zBV (by omega)]; exact ⟨by show 1 ≤ t.kind; omega, by show t.kind ≤ 5; omega⟩
theorem takeA_at {g : Gen} {l : List Tm} {n : Nat} {c : Cd} (h : c ∈ ZN g l n) (hg : ∀ u ∈ l, ∀ n, Zd u = true → isAt (g u n).1) : isAt c := by
 rcases zDS h with ⟨u, hu, m, hl, rfl⟩ | ⟨s, rfl⟩
 ·exact hg u hu m hl
 ·exact ⟨by show (1 : Int) ≤ 1; decide, by show (1 : Int) ≤ 5; decide⟩
theorem low_at (sel tl : Bool) : ∀ (f : Nat) (t : Tm) (n : Nat), LwT t → zO t ≤ f → AtC (zT sel tl f t n).1
 | 0, t, n, _, hc => by have := zq t; omega
 | f + 1, t, n, hl, hc => by
  have hce := zq t
  have hks : ∀ u ∈ t.kids, ∀ n, AtC (zT sel tl f u n).1 := fun u hu n => low_at sel tl f u n (hl.kid hu) (by have := ZA hu; omega)
  have hls : ∀ u ∈ t.kids, ∀ n, Zd u = true → isAt (zT sel tl f u n).1 := fun u hu n h => light_at (by have := ZA hu; omega) h
  have has : ∀ u ∈ t.arms, ∀ n, AtC (zT sel tl f u.body n).1 := fun u hu n => low_at sel tl f u.body n (hl.arm hu) (by have := Zb hu; omega)
  have hps : ∀ a ∈ t.arms, ∀ i n, AtC (zT sel tl f (Zu tl i a) n).1 := fun a ha i n => by
   have h1 := zDq (tl := tl) (i := i) (hl.arm ha)
   exact low_at sel tl f (Zu tl i a) n h1.1 (by have := Zb ha; omega)
  have hfl := from_le hl.here
  rw [show zT sel tl (f + 1) t n = ZS sel tl (zT sel tl f) t n from rfl]
  generalize zT sel tl f = g at hks has hps hls
  rcases zDQ hl with ⟨hk, ⟨x, y, e⟩, e2⟩ | ⟨hk, ⟨x, y, e⟩, e2⟩ | ⟨hk, x, e⟩ | ⟨hk, ⟨x, e⟩, e2⟩ | ⟨hk, e, e2⟩ | hc
  ·rw [body7 hk, zBk e, kid_1 e]; rw [e] at hks
   exact at_cd2 (by have := zCM sel x; omega) (hks x (.head _) n) (hks y (.tail _ (.head _)) _)
  ·rw [body8 hk, zBk e, kid_1 e]; rw [e] at hks
   exact at_cd2 (by omega) (hks x (.head _) n) (hks y (.tail _ (.head _)) _)
  ·rw [zCW hk, zBk e]; rw [e] at hks
   refine .mk (fun i u h hi => ?_) (fun u hu => ?_) (fun c hc => ?_)
   ·unfold zCP at hi; simp [Cd.kind] at hi
   ·rw [show u = (g x n).1 from List.mem_singleton.1 hu]; exact hks x (.head _) n
   ·obtain ⟨a, ha, j, m, rfl⟩ := proA_mem (show c ∈ zBf tl g 0 t.arms (g x n).2 from hc); exact hps a ha j m
  ·rw [body5 hk, zBk e]; rw [e] at hks
   refine .mk (fun i u h hi => ?_) (fun u hu => ?_) (fun c hc => nomatch hc)
   ·unfold zCP at hi; simp [Cd.kind] at hi
   ·rw [show u = (g x n).1 from List.mem_singleton.1 hu]; exact hks x (.head _) n
  ·rw [zBV hk]; exact .mk (fun i u h _ => by cases h) (fun u h => nomatch h) (fun a h => nomatch h)
  ·have hk7 : t.kind = 0 ∨ t.kind = 6 ∨ t.kind = 9 ∨ t.kind = 10 ∨ t.kind = 11 ∨ t.kind = 12 ∨ t.kind = 13 := by rcases hc with ⟨h, _⟩ | ⟨h, _⟩ <;> omega
   rw [zDJ hk7]
   refine at_around (fun b hb => ?_) ?_
   ·obtain ⟨u, hu, m, _, rfl⟩ := zDP hb; exact ⟨zCM sel u, hks u (List.mem_of_mem_take hu) m⟩
   ·have hlen : (ZN g (t.kids.take (ze t)) n).length = ze t := by rw [zDV, List.length_take]; omega
    have hin : ∀ c ∈ ZN g (t.kids.take (ze t)) n, isAt c := fun c hc => takeA_at hc fun u hu m h => hls u (List.mem_of_mem_take hu) m h
    refine .mk (fun i u h hi => ?_) (fun u hu => ?_) (fun c hc => ?_)
    ·have hlt : i < (ZN g (t.kids.take (ze t)) n).length := by
      rw [hlen]
      have hi2 : i < zCP (zAT g t n) := hi
      unfold zCP at hi2
      have hkk : (zAT g t n).kind = Z3 t.kind := rfl
      rw [hkk] at hi2
      have hkl : (zAT g t n).kids.length = ze t + (zBA g (t.kids.drop (ze t)) (Z0 g (t.kids.take (ze t)) n)).length := by
       show (ZN _ _ _ ++ zBA _ _ _).length = _; rw [List.length_append, hlen]
      unfold ze at hkl ⊢
      rcases hk7 with h | h | h | h | h | h | h <;> rw [h] at hi2 hkl ⊢ <;> simp [Z3] at hi2 hkl ⊢ <;> first | omega | (simp [zBA] at hkl; omega)
     have h2 : (ZN g (t.kids.take (ze t)) n ++ zBA g (t.kids.drop (ze t)) (Z0 g (t.kids.take (ze t)) n))[i]? = some u := h
     rw [List.getElem?_append_left hlt] at h2
     exact hin u (List.mem_of_getElem? h2)
    ·rcases List.mem_append.1 (show u ∈ ZN g (t.kids.take (ze t)) n ++ zBA g (t.kids.drop (ze t)) (Z0 g (t.kids.take (ze t)) n) from hu) with h | h
     ·rcases zDS h with ⟨v, hv, m, _, rfl⟩ | ⟨s, rfl⟩
      ·exact hks v (List.mem_of_mem_take hv) m
      ·exact at_var s
     ·obtain ⟨v, hv, m, rfl⟩ := seqA_mem h; exact hks v (List.mem_of_mem_drop hv) m
    ·obtain ⟨a, ha, m, rfl⟩ := armA_mem (show c ∈ zBn g t.arms (zBp g t n) from hc); exact has a ha m
-- a row of rows of two
def PrR (m : Mem) (x : Int × Int) (vs : List Value) : Prop := ∃ o c, vs = [.slice o [x.1, x.2].length c] ∧ Ints m o [x.1, x.2].length c [x.1, x.2]
theorem PrR.mono {m m' : Mem} {x : Int × Int} {vs : List Value} (h : PrR m x vs) (hm : MLe m m') : PrR m' x vs := by obtain ⟨o, c, e, h⟩ := h; exact ⟨o, c, e, h.mono hm⟩
abbrev Prs (m : Mem) (o : Option Addr) (n c : Nat) (l : List (Int × Int)) : Prop := Sl (fun m vs x => PrR m x vs) 1 m o n c l
theorem Prs.mono {m m' : Mem} {o : Option Addr} {n c : Nat} {l : List (Int × Int)} (h : Prs m o n c l) (hm : MLe m m') : Prs m' o n c l := Sl.mono h (fun _ _ e => e.mono hm) hm
theorem zBh {m : Mem} {g : Nat} {a b : Int} (h : CellsAt m ⟨g, 0, none⟩ [.int .i64 a, .int .i64 b]) : PrR m (a, b) [.slice (some ⟨g, 0, none⟩) 2 2] :=
 ⟨_, _, rfl, Sl.two (vs := [_]) (us := [_]) h rfl rfl rfl rfl⟩
theorem prs_of {m : Mem} {p : Addr} {vs : List Value} {l : List (Int × Int)} {c : Nat} (hc : CellsAt m p vs) (hl : vs.length = l.length) (hcap : l.length ≤ c) (hb : l.length ≤ 9223372036854775807) (hr : ∀ (i : Nat) (v : Value) (x : Int × Int), vs[i]? = some v → l[i]? = some x → PrR m x [v]) : Prs m (some p) l.length c l :=
 ⟨rfl, hcap, hb, fun i x hx => by
  have hi : i < vs.length := by rw [hl]; exact (List.getElem?_eq_some_iff.1 hx).1
  refine ⟨p, [vs[i]], rfl, ?_, rfl, hr i _ x (List.getElem?_eq_getElem hi) hx⟩
  have h2 := (hc.drop i).take 1
  rw [Nat.mul_one, show [vs[i]] = (vs.drop i).take 1 from by rw [List.drop_eq_getElem_cons hi]; rfl]
  exact h2⟩
theorem prs_nine {m : Mem} {p : Addr} {g0 g1 g2 g3 g4 g5 g6 g7 g8 : Nat} (h0 : CellsAt m ⟨g0, 0, none⟩ [.int .i64 6, .int .i64 6]) (h1 : CellsAt m ⟨g1, 0, none⟩ [.int .i64 10, .int .i64 11]) (h2 : CellsAt m ⟨g2, 0, none⟩ [.int .i64 11, .int .i64 12]) (h3 : CellsAt m ⟨g3, 0, none⟩ [.int .i64 13, .int .i64 14]) (h4 : CellsAt m ⟨g4, 0, none⟩ [.int .i64 14, .int .i64 15]) (h5 : CellsAt m ⟨g5, 0, none⟩ [.int .i64 5, .int .i64 5]) (h6 : CellsAt m ⟨g6, 0, none⟩ [.int .i64 8, .int .i64 9]) (h7 : CellsAt m ⟨g7, 0, none⟩ [.int .i64 9, .int .i64 10]) (h8 : CellsAt m ⟨g8, 0, none⟩ [.int .i64 12, .int .i64 13]) (hc : CellsAt m p [.slice (some ⟨g0, 0, none⟩) 2 2, .slice (some ⟨g1, 0, none⟩) 2 2, .slice (some ⟨g2, 0, none⟩) 2 2, .slice (some ⟨g3, 0, none⟩) 2 2, .slice (some ⟨g4, 0, none⟩) 2 2, .slice (some ⟨g5, 0, none⟩) 2 2, .slice (some ⟨g6, 0, none⟩) 2 2, .slice (some ⟨g7, 0, none⟩) 2 2, .slice (some ⟨g8, 0, none⟩) 2 2]) : Prs m (some p) 9 9 P9 :=
 prs_of (l := P9) hc rfl (by decide) (by decide) fun i v x hv hx => by
  match i with
  | 0 => simp [P9] at hv hx; subst hv hx; exact zBh h0
  | 1 => simp [P9] at hv hx; subst hv hx; exact zBh h1
  | 2 => simp [P9] at hv hx; subst hv hx; exact zBh h2
  | 3 => simp [P9] at hv hx; subst hv hx; exact zBh h3
  | 4 => simp [P9] at hv hx; subst hv hx; exact zBh h4
  | 5 => simp [P9] at hv hx; subst hv hx; exact zBh h5
  | 6 => simp [P9] at hv hx; subst hv hx; exact zBh h6
  | 7 => simp [P9] at hv hx; subst hv hx; exact zBh h7
  | 8 => simp [P9] at hv hx; subst hv hx; exact zBh h8
  | i + 9 => simp [P9] at hx
end Go.Proofs.YtmdhhjmomilhjaaDoor
namespace Go.Proofs.YtmdhhjmomilhjaaDoor
open Go.Proofs.Tryd
set_option linter.all false
set_option maxRecDepth 4000
open Go.RowKit
theorem nK_sz (k : Int) (t : Cd) : nK k t ≤ szC t := by
 induction t using Cd.rec_ with
 | h t ihk iha =>
  have hk : ∀ l : List Cd, (∀ u ∈ l, u ∈ t.kids) → nKs k l ≤ zBd l := by
   intro l
   induction l with
   | nil => intro _; simp [nKs]
   | cons u l ih => intro hl; rw [nKs, zBd]; have := ihk u (hl u (.head _)); have := ih (fun u hu => hl u (.tail _ hu)); omega
  have ha : ∀ l : List Ca, (∀ u ∈ l, u ∈ t.arms) → nAs k l ≤ zCv l := by
   intro l
   induction l with
   | nil => intro _; simp [nAs]
   | cons u l ih => intro hl; rw [zCp, zDL]; have := iha u (hl u (.head _)); have := ih (fun u hu => hl u (.tail _ hu)); omega
  rw [zCx, zBj]
  have := hk t.kids (fun _ h => h); have := ha t.arms (fun _ h => h)
  split <;> omega
theorem lowT_sz (sel tl : Bool) {t : Tm} (h : LwT t) : szC (zEV sel tl t) + 2 ≤ 3 * zO t := low_sz sel tl _ t 0 h (Nat.le_refl _)
set_option maxHeartbeats 1600000 in
theorem lowerAtoms_c {w : World} {m : Mem} {p : Pg} {vs_p : List Value} {n : Int} {o_rl : Option Addr} {c_rl : Nat} {rl : List Rw} {sel tl : Bool} (hA : Agree w m) (h_p : PgR m p vs_p) (h_rl : Rws m o_rl rl.length c_rl rl) (hT : Tab w) (hbo : zAs p.effects ≤ 1000000000) (hbc : consN p.datas ≤ 1000000000) (hbd : p.datas.length ≤ 1000000000) (hB : ZD p.body ≤ 2100000) : FnV Tryd.prog 4 #[.agg vs_p.toArray, .int .i64 n, .slice o_rl rl.length c_rl, .agg #[.bool sel, .bool tl]] w m (fun _ _ v => v = .bool true) := by
 obtain ⟨oE_p, cE_p, oD_p, cD_p, bs_p, rfl, hef_p, hda_p, hpb_p⟩ := id h_p
 have hbe_p := hef_p.big; have hce_p := hef_p.cap; have hbda_p := hda_p.big; have hcd_p := hda_p.cap
 obtain ⟨⟨oK_pb, cK_pb, oA_pb, cA_pb, oR_pb, cR_pb, t0_pb, t1_pb, t2_pb, t3_pb, t4_pb, t5_pb, u0_pb, u1_pb, u2_pb, u3_pb, u4_pb, u5_pb⟩, rfl, hon_pb, hkk_pb, haa_pb, hrr_pb⟩ := hpb_p.open_
 dsimp only at hkk_pb haa_pb hrr_pb
 have hbg_pb := hkk_pb.big; have hcp_pb := hkk_pb.cap; have hbh_pb := haa_pb.big; have hcq_pb := haa_pb.cap
 have hb_rl := h_rl.big; have hc_rl := h_rl.cap
 refine zX (vs := [_, _, _, _]) func4 rfl rfl rfl fun a0 hfr0 => ?_
 have hst0 := zV hA (zi [] _ w m)
 have hM : MLe m m := MLe.refl m
 refine zB fun _ hK1 => ?_
 replace hst0 := hst0.more (r := .free) trivial List.nodup_nil (by simp [Res.blocks])
 refine ra0 (tch := [(1, 0, (fun v => .blk v _))]) hst0 hfr0 (.cons rfl (z7 rfl rfl) <| .consT rfl rfl (fun _ => rfl) rfl (ob_boxL rfl rfl) <| .cons rfl (zC rfl) <| .nil) fun a1 w1 m1 hst1 hle1 hk1 => ?_
 have hfr1 := hk1.fr (.o 1 <| .o 2 <| .nil)
 obtain ⟨g2, e2, hc4⟩ := hk1.ex 4 rfl
 replace hfr1 := hfr1.cons e2
 obtain ⟨g3, e3, _⟩ := hk1.ex 7 rfl
 replace hfr1 := hfr1.cons e3
 replace hst1 := hst1.fin (L' := [_]) (.cons e3 <| .nil)
 replace h_p := h_p.mono hle1
 replace h_rl := h_rl.mono hle1
 clear hst0 hfr0 hk1
 refine hK1 _ _ ?_
 refine zB fun _ hK4 => ?_
 refine rp0 hst1 hfr1 (.cons rfl (zc rfl (.nil) call9 (fun w m hK => by have hle_ := KC.le hK; have hA := KC.agree hK; have hT := zCl hT hK.st.ext; exact shown_c hA hT)) <| .cons rfl (zC rfl) <| .nil) fun a2 w2 m2 hst2 hle2 hk2 => ?_
 have hfr2 := hk2.fr (.o 1 <| .o 2 <| .o 4 <| .o 7 <| .n 9 <| .nil)
 replace h_p := h_p.mono hle2
 replace h_rl := h_rl.mono hle2
 replace hc4 := hc4.mono hle2
 clear hst1 hfr1 hk2
 refine hK4 _ _ ?_
 refine zB fun _ hK5 => ?_
 refine zu 4 (by kernel_rfl) ?_
 refine zh (tch := []) hst2 hfr2 (by kernel_rfl) (by kernel_rfl) (by kernel_rfl) (.cons rfl (zN rfl hc4 isAgg35 sizeOf35 rfl rfl) <| .cons rfl (zD rfl) <| .cons rfl (zD rfl) <| .cons rfl (zr (φ := MP.someV 2100000) rfl (.cons rfl <| .cons rfl <| .cons rfl <| .nil) call10 (fun w m hK => by have hle_ := KC.le hK; have hA := KC.agree hK; have h_p := h_p.mono hle_; have h_rl := h_rl.mono hle_; exact FnG.mono (some_c hA h_p h_rl hbo hbc hbd hB) fun _ _ _ _ h => h)) <| .nil) fun a3 w3 m3 hst3 hle3 hk3 => ?_
 have hfr3 := hk3.fr (.o 1 <| .o 2 <| .o 4 <| .o 7 <| .o 9 <| .nil)
 obtain ⟨⟨⟨xt, yt⟩, bt⟩, e6, ht, hlw, hct, hbt, hcl⟩ := hk3.ex 20 rfl
 replace hfr3 := hfr3.cons e6
 clear hst2 hfr2 hk3
 dsimp only at ht hlw hct hbt hcl
 replace hst3 := hst3.more (r := .free) trivial List.nodup_nil (by simp [Res.blocks])
 refine zh (tch := [(3, 1, (fun v => .blk v _)), (4, 1, (fun v => .blk v _))]) hst3 hfr3 (by kernel_rfl) (by kernel_rfl) (by kernel_rfl) (.cons rfl (zD rfl) <| .cons rfl (zS rfl rfl) <| .cons rfl (zS rfl rfl) <| .consT rfl rfl (fun _ => rfl) rfl (zR zeroValue33 rfl) <| .consT rfl rfl (fun _ => rfl) rfl (zU 10 rfl rfl rfl fun y10 => zd rfl rfl rfl rfl rfl sizeOf33 rfl rfl ht.one) <| .cons rfl (zC rfl) <| .nil) fun a4 w4 m4 hst4 hle4 hk4 => ?_
 have hfr4 := hk4.fr (.o 1 <| .o 2 <| .o 4 <| .o 7 <| .o 9 <| .o 20 <| .n 11 <| .nil)
 obtain ⟨g7, e7, _⟩ := hk4.ex 10 rfl
 replace hfr4 := hfr4.cons e7
 replace hst4 := hst4.fin (L' := [_, _]) (.cons e7 <| .cons e7 <| .nil)
 try simp only [List.take_succ_cons, List.take_zero, List.drop_succ_cons, List.drop_zero, List.cons_append, List.nil_append, List.append_nil, List.length_cons, List.length_nil, Nat.zero_add, Nat.reduceAdd] at hst4
 replace ht := ht.mono hle4
 clear hst3 hfr3 hk4
 refine hK5 _ _ ?_
 refine zB fun _ hK8 => ?_
 refine zB fun _ hK9 => ?_
 refine rp0 hst4 hfr4 (.cons rfl (zD rfl) <| .cons rfl (Zm rfl) <| .nil) fun a5 w5 m5 hst5 hle5 hk5 => ?_
 have hfr5 := hk5.fr (.o 7 <| .o 9 <| .o 10 <| .n 24 <| .nil)
 replace ht := ht.mono hle5
 clear hst4 hfr4 hk5
 refine hK9 _ _ ?_
 refine zF hfr5 rfl rfl (fun hb24 => ?_) (fun hb24 => ?_)
 ·try simp only [nqs] at hb24
  refine zB fun _ hK10 => ?_
  refine rp0 hst5 hfr5 (.cons rfl (zD rfl) <| .cons rfl (zC rfl) <| .nil) fun a6 w6 m6 hst6 hle6 hk6 => ?_
  have hfr6 := hk6.fr (.n 8 <| .nil)
  clear hst5 hfr5 hk6
  refine hK10 _ _ ?_
  refine zK ?_
  repeat (with_reducible first | refine zI ?_ | refine zG ?_)
  exact zM hst6 hfr6 rfl (.tmp rfl <| .nil) (rfl)
 ·try simp only [nqs] at hb24
  refine zJ ?_
  refine hK8 _ _ ?_
  refine zB fun _ hK12 => ?_
  refine ra0 (tch := [(1, 0, (fun _ => .blk _ _))]) hst5 hfr5 (.cons rfl (zA (off := 1) rfl underlying38 rfl rfl sizeOf4 rfl) <| .consT rfl rfl (fun _ => rfl) rfl (ZG rfl rfl rfl sizeOf4 rfl rfl rfl) <| .nil) fun a6 w6 m6 hst6 hle6 hk6 => ?_
  have hfr6 := hk6.fr (.o 7 <| .o 9 <| .o 10 <| .nil)
  replace hst6 := hst6.fin (L' := [_, _]) (.cons rfl <| .nil)
  try simp only [List.take_succ_cons, List.take_zero, List.drop_succ_cons, List.drop_zero, List.cons_append, List.nil_append, List.append_nil, List.length_cons, List.length_nil, Nat.zero_add, Nat.reduceAdd] at hst6
  clear hst5 hfr5 hk6
  refine hK12 _ _ ?_
  refine zB fun _ hK13 => ?_
  refine zu 3 (by kernel_rfl) ?_
  replace ht := ht.mono hle6
  refine zh (tch := []) hst6 hfr6 (by kernel_rfl) (by kernel_rfl) (by kernel_rfl) (.cons rfl (zZ (j := 1) rfl rfl isAgg33 sizeOf33 rfl) <| .cons rfl (zZ (j := 0) rfl rfl isAgg38 sizeOf38 rfl) <| .cons rfl (zr (φ := MP.cd (zEV sel false xt)) rfl (.cons rfl <| .cons rfl <| .nil) call12 (fun w m hK => by have hle_ := KC.le hK; have hA := KC.agree hK; have hT := zCl hT hK.st.ext; have ht := ht.mono hle_; exact FnG.mono (lower_c (t := xt) (sel := sel) (tl := false) hA ht hT hlw (by omega) (by omega)) fun _ _ _ _ h => h)) <| .nil) fun a7 w7 m7 hst7 hle7 hk7 => ?_
  have hfr7 := hk7.fr (.o 7 <| .o 9 <| .o 10 <| .nil)
  obtain ⟨y29, e14, hy29⟩ := hk7.ex 29 rfl
  replace hfr7 := hfr7.cons e14
  clear hst6 hfr6 hk7
  replace hst7 := hst7.more (r := .free) trivial List.nodup_nil (by simp [Res.blocks])
  refine zh (tch := [(0, 2, (fun v => .blk v _)), (1, 2, (fun v => .blk v _))]) hst7 hfr7 (by kernel_rfl) (by kernel_rfl) (by kernel_rfl) (.consT rfl rfl (fun _ => rfl) rfl (zR zeroValue46 rfl) <| .consT rfl rfl (fun _ => rfl) rfl (zU 12 rfl rfl rfl fun y12 => zd rfl rfl rfl rfl rfl sizeOf46 rfl rfl hy29.one) <| .nil) fun a8 w8 m8 hst8 hle8 hk8 => ?_
  have hfr8 := hk8.fr (.o 7 <| .o 9 <| .o 10 <| .o 29 <| .nil)
  obtain ⟨g15, e15, _⟩ := hk8.ex 12 rfl
  replace hfr8 := hfr8.cons e15
  replace hst8 := hst8.fin (L' := [_, _, _]) (.cons e15 <| .cons e15 <| .nil)
  try simp only [List.take_succ_cons, List.take_zero, List.drop_succ_cons, List.drop_zero, List.cons_append, List.nil_append, List.append_nil, List.length_cons, List.length_nil, Nat.zero_add, Nat.reduceAdd] at hst8
  clear hst7 hfr7 hk8
  refine hK13 _ _ ?_
  refine zB fun _ hK16 => ?_
  refine zB fun _ hK17 => ?_
  refine zu 9 (by kernel_rfl) ?_
  have hl9 : P9.length = 9 := rfl
  have hsz9 := lowT_sz sel false hlw
  refine zh (tch := []) hst8 hfr8 (by kernel_rfl) (by kernel_rfl) (by kernel_rfl) (.cons rfl (zl (.cons rfl <| .cons rfl <| .nil) underlying52 sizeOf3 zeroValue3 rfl rfl rfl rfl) <| .cons rfl (zl (.cons rfl <| .cons rfl <| .nil) underlying52 sizeOf3 zeroValue3 rfl rfl rfl rfl) <| .cons rfl (zl (.cons rfl <| .cons rfl <| .nil) underlying52 sizeOf3 zeroValue3 rfl rfl rfl rfl) <| .cons rfl (zl (.cons rfl <| .cons rfl <| .nil) underlying52 sizeOf3 zeroValue3 rfl rfl rfl rfl) <| .cons rfl (zl (.cons rfl <| .cons rfl <| .nil) underlying52 sizeOf3 zeroValue3 rfl rfl rfl rfl) <| .cons rfl (zl (.cons rfl <| .cons rfl <| .nil) underlying52 sizeOf3 zeroValue3 rfl rfl rfl rfl) <| .cons rfl (zl (.cons rfl <| .cons rfl <| .nil) underlying52 sizeOf3 zeroValue3 rfl rfl rfl rfl) <| .cons rfl (zl (.cons rfl <| .cons rfl <| .nil) underlying52 sizeOf3 zeroValue3 rfl rfl rfl rfl) <| .cons rfl (zl (.cons rfl <| .cons rfl <| .nil) underlying52 sizeOf3 zeroValue3 rfl rfl rfl rfl) <| .nil) fun a9 w9 m9 hst9 hle9 hk9 => ?_
  have hfr9 := hk9.fr (.o 7 <| .o 9 <| .o 10 <| .o 29 <| .o 12 <| .nil)
  obtain ⟨gp0, e18, hp0⟩ := hk9.ex 30 rfl
  replace hfr9 := hfr9.cons e18
  obtain ⟨gp1, e19, hp1⟩ := hk9.ex 31 rfl
  replace hfr9 := hfr9.cons e19
  obtain ⟨gp2, e20, hp2⟩ := hk9.ex 32 rfl
  replace hfr9 := hfr9.cons e20
  obtain ⟨gp3, e21, hp3⟩ := hk9.ex 33 rfl
  replace hfr9 := hfr9.cons e21
  obtain ⟨gp4, e22, hp4⟩ := hk9.ex 34 rfl
  replace hfr9 := hfr9.cons e22
  obtain ⟨gp5, e23, hp5⟩ := hk9.ex 35 rfl
  replace hfr9 := hfr9.cons e23
  obtain ⟨gp6, e24, hp6⟩ := hk9.ex 36 rfl
  replace hfr9 := hfr9.cons e24
  obtain ⟨gp7, e25, hp7⟩ := hk9.ex 37 rfl
  replace hfr9 := hfr9.cons e25
  obtain ⟨gp8, e26, hp8⟩ := hk9.ex 38 rfl
  replace hfr9 := hfr9.cons e26
  clear hst8 hfr8 hk9
  refine zDw 1 (by kernel_rfl) ?_
  refine zh (tch := []) hst9 hfr9 (by kernel_rfl) (by kernel_rfl) (by kernel_rfl) (.cons rfl (zl (.cons rfl <| .cons rfl <| .cons rfl <| .cons rfl <| .cons rfl <| .cons rfl <| .cons rfl <| .cons rfl <| .cons rfl <| .nil) underlying53 sizeOf52 zeroValue52 rfl rfl rfl rfl) <| .nil) fun a10 w10 m10 hst10 hle10 hk10 => ?_
  have hfr10 := hk10.fr (.o 7 <| .o 9 <| .o 10 <| .o 29 <| .o 12 <| .o 30 <| .o 31 <| .o 32 <| .o 33 <| .o 34 <| .o 35 <| .o 36 <| .o 37 <| .o 38 <| .nil)
  obtain ⟨gP, e27, hP⟩ := hk10.ex 39 rfl
  replace hfr10 := hfr10.cons e27
  clear hst9 hfr9 hk10
  replace hp0 := hp0.mono hle10
  replace hp1 := hp1.mono hle10
  replace hp2 := hp2.mono hle10
  replace hp3 := hp3.mono hle10
  replace hp4 := hp4.mono hle10
  replace hp5 := hp5.mono hle10
  replace hp6 := hp6.mono hle10
  replace hp7 := hp7.mono hle10
  replace hp8 := hp8.mono hle10
  have hprs : Prs m10 (some ⟨gP, 0, none⟩) 9 9 P9 := prs_nine (by exact hp0) (by exact hp1) (by exact hp2) (by exact hp3) (by exact hp4) (by exact hp5) (by exact hp6) (by exact hp7) (by exact hp8) (by exact hP)
  refine zh (tch := []) hst10 hfr10 (by kernel_rfl) (by kernel_rfl) (by kernel_rfl) (.cons rfl (zY rfl underlying53) <| .cons rfl (zD rfl) <| .nil) fun a11 w11 m11 hst11 hle11 hk11 => ?_
  have hfr11 := hk11.fr (.o 7 <| .o 9 <| .o 10 <| .o 29 <| .o 12 <| .o 30 <| .o 31 <| .o 32 <| .o 33 <| .o 34 <| .o 35 <| .o 36 <| .o 37 <| .o 38 <| .o 39 <| .n 40 <| .n 41 <| .nil)
  clear hst10 hfr10 hk11
  refine hK17 _ _ ?_
  refine zL ?_
  refine zf (T := [(9, _), (10, _), (12, _), (39, _), (40, _)]) (fun (y : Nat) => ([(41, .int .i64 (y : Int))] : List (Nat × Value))) (fun _ => _) (fun (y : Nat) m => (y ≤ 9)) (fun y => 9 - y) (0) ⟨hst11, MLe.refl _, hfr11.sub (.c <| .c <| .c <| .c <| .c <| .c <| .nil), Nat.zero_le _⟩ fun y a12 w12 m12 hh12 => ?_
  have hst12 := hh12.st; have hle12 := hh12.le; have hfr12 := hh12.fr; have hrel := hh12.rel; clear hh12
  clear hst11 hfr11
  have hyn := hrel
  have hlh12 := hle12
  refine zB fun _ hK29 => ?_
  refine rp0 hst12 hfr12 (.cons rfl (zx rfl rfl) <| .nil) fun a13 w13 m13 hst13 hle13 hk13 => ?_
  have hfr13 := hk13.fr (.o 41 <| .o 9 <| .o 10 <| .o 12 <| .o 39 <| .o 40 <| .n 42 <| .nil)
  clear hst12 hfr12 hk13
  refine hK29 _ _ ?_
  refine zB fun _ hK30 => ?_
  refine zF hfr13 rfl rfl (fun hb42 => ?_) (fun hb42 => ?_)
  ·try simp only [nqs] at hb42
   refine zJ ?_
   refine hK30 _ _ ?_
   refine zB fun _ hK31 => ?_
   refine zL ?_
   refine zB fun _ hK32 => ?_
   have zq1 := hle12.trans hle13
   have zq2 := hle11.trans zq1
   replace hprs := hprs.mono zq2
   obtain ⟨p33, vs33, x33, ho33, hd33, hm_x33, ht33, hcv33, hl33, hv33⟩ := hprs.nth (k := y) (by omega)
   cases ho33
   obtain ⟨oP33, cP33, rfl, hpi33⟩ := id hv33
   have hmq := hm_x33
   have hl2 : ([x33.1, x33.2] : List Int).length = 2 := rfl
   refine rp0 hst13 hfr13 (.cons rfl (zH (k := y) rfl rfl underlying53 sizeOf52 rfl (by omega)) <| .cons rfl (ZK rfl hcv33 isAgg52 rfl) <| .cons rfl (zC rfl) <| .nil) fun a14 w14 m14 hst14 hle14 hk14 => ?_
   have hfr14 := hk14.fr (.o 41 <| .o 9 <| .o 10 <| .o 12 <| .o 39 <| .o 40 <| .n 14 <| .nil)
   clear hst13 hfr13 hk14
   refine hK32 _ _ ?_
   refine zB fun _ hK34 => ?_
   replace hpi33 := hpi33.mono hle14
   obtain ⟨p35, vs35, x35, ho35, hd35, hm_x35, ht35, hcv35, hl35, hv35⟩ := hpi33.nth (k := 0) (by omega)
   cases ho35
   subst hv35
   have he0 : x35 = x33.1 := zBu hd35 rfl
   obtain ⟨p36, vs36, x36, ho36, hd36, hm_x36, ht36, hcv36, hl36, hv36⟩ := hpi33.nth (k := 1) (by omega)
   cases ho36
   subst hv36
   have he1 : x36 = x33.2 := zBu hd36 rfl
   have hlaw : nK x36 (zEV sel false xt) = nT x35 xt := by rw [he0, he1]; exact low_nK (pair_of hmq) sel _ xt 0 hlw (Nat.le_refl _)
   have zq3 := zq2.trans hle14
   have zq4 := hle10.trans zq3
   have zq5 := hle9.trans zq4
   have zq6 := hle8.trans zq5
   have zq7 := hle7.trans zq6
   replace ht := ht.mono zq7
   replace hy29 := hy29.mono zq6
   refine ZL (fun _ => mixed) hst14 hfr14 (by kernel_rfl) (by kernel_rfl) (.cons rfl (zZ (j := 1) rfl rfl isAgg33 sizeOf33 rfl) <| .cons rfl (zD rfl) <| .cons rfl (zH (k := 0) rfl rfl underlying52 sizeOf3 rfl (by omega)) <| .cons rfl (ZK rfl hcv35 isAgg3 rfl) <| .cons rfl (zc rfl (.cons rfl <| .cons rfl <| .nil) call18 (fun w m hK => by have hle_ := KC.le hK; have hA := KC.agree hK; have ht := ht.mono hle_; exact tcount_c xt (k := x35) hA ht (by have := nT_count x35 xt; omega))) <| .cons rfl (zZ (j := 2) rfl rfl isAgg46 sizeOf46 rfl) <| .cons rfl (zD rfl) <| .cons rfl (zH (k := 1) rfl rfl underlying52 sizeOf3 rfl (by omega)) <| .cons rfl (ZK rfl hcv36 isAgg3 rfl) <| .cons rfl (zc rfl (.cons rfl <| .cons rfl <| .nil) call16 (fun w m hK => by have hle_ := KC.le hK; have hA := KC.agree hK; have hy29 := hy29.mono hle_; exact lcount_c (zEV sel false xt) (k := x36) hA hy29 (by have := nK_sz x36 (zEV sel false xt); omega))) <| .cons rfl (ZW rfl rfl) <| .nil) fun a15 w15 m15 hst15 hle15 hk15 => ?_
   have hfr15 := hk15.fr (.o 41 <| .o 9 <| .o 10 <| .o 12 <| .o 39 <| .o 40 <| .n 55 <| .nil)
   clear hst14 hfr14 hk15
   refine hK34 _ _ ?_
   refine zF hfr15 rfl rfl (fun hb55 => ?_) (fun hb55 => ?_)
   ·exfalso; simp at hb55; first | omega | exact hb55 hlaw.symm
   ·try simp only [nqs] at hb55
    refine zJ ?_
    refine hK31 _ _ ?_
    refine rp0 hst15 hfr15 (.cons rfl (zk rfl rfl ⟨by omega, by omega⟩) <| .cons rfl (zD rfl) <| .nil) fun a16 w16 m16 hst16 hle16 hk16 => ?_
    have hfr16 := hk16.fr (.o 9 <| .o 10 <| .o 12 <| .o 39 <| .o 40 <| .n 41 <| .nil)
    clear hst15 hfr15 hk16
    have zq8 := hle15.trans hle16
    have zq9 := hle14.trans zq8
    have zq10 := hle13.trans zq9
    have hlh16 := hlh12.trans zq10
    exact ⟨y + 1, m16, by show 9 - (y + 1) < 9 - y; omega, ⟨hst16, hlh16, hfr16.sub (.c <| .c <| .c <| .c <| .c <| .c <| .nil), by show y + 1 ≤ 9; omega⟩⟩
  ·try simp only [nqs] at hb42
   have hge : y = 9 := by omega
   refine zg ?_
   refine hK16 _ _ ?_
   refine zB fun _ hK37 => ?_
   have zq11 := hle12.trans hle13
   have zq12 := hle11.trans zq11
   have zq13 := hle10.trans zq12
   have zq14 := hle9.trans zq13
   have zq15 := hle8.trans zq14
   replace hy29 := hy29.mono zq15
   refine rp0 hst13 hfr13 (.cons rfl (zD rfl) <| .cons rfl (zD rfl) <| .cons rfl (zZ (j := 2) rfl rfl isAgg46 sizeOf46 rfl) <| .cons rfl (zc rfl (.cons rfl <| .nil) call19 (fun w m hK => by have hle_ := KC.le hK; have hA := KC.agree hK; have hy29 := hy29.mono hle_; exact atomic_c (zEV sel false xt) hA hy29 (low_at sel false _ xt 0 hlw (Nat.le_refl _)))) <| .cons rfl (ZV rfl rfl rfl) <| .cons rfl (zC rfl) <| .nil) fun a14 w14 m14 hst14 hle14 hk14 => ?_
   have hfr14 := hk14.fr (.o 41 <| .n 8 <| .nil)
   clear hst13 hfr13 hk14
   refine hK37 _ _ ?_
   refine zK ?_
   repeat (with_reducible first | refine zI ?_ | refine zG ?_)
   exact zM hst14 hfr14 rfl (.tmp rfl <| .nil) (by refine congrArg Value.bool ?_; simp)
end Go.Proofs.YtmdhhjmomilhjaaDoor
namespace Go.Proofs.YtmdhhjmomilhjaaDoor
set_option linter.all false
open Go.RowKit Go.WideShapes Go.ChangeShapes Go.Deep Go.WideElems Go.ChangeAt Go.ChangeMaps
def zBD (W : World) : Mem := ⟨fun b o => W.cell? ⟨b, o, none⟩, fun b => match W.heap[b]? with | some (.map es cl) => some (es, cl) | _ => none⟩
theorem agree_snap (W : World) : Agree W (zBD W) := ⟨fun _ _ _ h => h, fun b es h => by
 change (match W.heap[b]? with | some (.map es cl) => some (es, cl) | _ => none) = some es at h
 split at h
 ·rename_i ents cl he
  injection h with h
  subst h; exact he
 ·cases h⟩
theorem cell_spot {W : World} {a : Addr} {v : Value} (h : W.cell? a = some v) : a.spot = none := by
 unfold World.cell? at h
 split at h
 ·split at h
  ·cases h
  ·rename_i hs; cases e : a.spot with
   | none => rfl
   | some x => rw [e] at hs; exact absurd rfl hs
 ·cases h
theorem snap_of {W : World} {a : Addr} {v : Value} (h : W.cell? a = some v) : zBD W a.block a.off = some v := by
 have := cell_spot h
 show W.cell? ⟨a.block, a.off, none⟩ = some v
 rw [← h]; congr 1
 cases a; simp only at this; subst this; rfl
theorem cellsAt_snap {W : World} {base : Nat} {a : Addr} {n : Nat} {cs : List Value} (h : W.cells? base a n = some cs) (hn : 0 < n) : CellsAt (zBD W) a cs ∧ cs.length = n := by
 obtain ⟨_, hl, hat⟩ := World.cells?_some h
 have h0 := hat 0 hn
 have e0 : a.add 0 = a := by unfold Addr.add; rfl
 rw [e0, List.getElem?_eq_getElem (by omega)] at h0
 refine ⟨⟨cell_spot h0, fun i v e => ?_⟩, hl⟩
 have hi : i < n := by have := (List.getElem?_eq_some_iff.1 e).1; omega
 have := hat i hi
 rw [e] at this
 have := snap_of this
 rwa [zCL, zDv] at this
section
variable {H : Type} {enc : TypeId × Value → H} {P : Program} {W : World} {base : Nat} {spare : Nat → Bool} {held : Bool}
theorem open_I {r : Reach} {b0 : Nat} {t : TypeId} {v : Value} {d : DataW H} {ps : List MemPlace} (ht : P.underlying t = some (.int .i64)) (hval : Value.okWide P W r b0 t v) (hd : DataW.Trod enc P W base spare held t v d ps) :
  ∃ n : Int, v = .int .i64 n ∧ zAC n := by
 obtain ⟨n, rfl, _, _, hs⟩ := open_int ht hval hd
 simp only [Lit.wf, Bool.and_eq_true, decide_eq_true_eq] at hs
 have h1 : IntKind.i64.min = -9223372036854775808 := by decide
 have h2 : IntKind.i64.max = 9223372036854775807 := by decide
 exact ⟨n, rfl, by omega, by omega⟩
theorem zCT (hl : laidOutB P = true) {W' : World} {sp : Nat → Bool} : ∀ {ts : List TypeId} {vs : List Value} {ds : List (DataW H)} {ps : List MemPlace}, (ts.all fun t => P.readableRec t && decide (t < P.types.size)) = true →
  DataW.TrodAll enc P W base (fun _ => true) true ts vs ds ps → (∀ p ∈ ps, W.sameAt W' p) → (∀ p ∈ ps, sp p.block = true) → DataW.TrodAll enc P W' base sp true ts vs ds ps
 | [], vs, ds, ps, _, h, _, _ => by
  obtain ⟨rfl, rfl, rfl⟩ := trodAll_nil h
  exact rfl
 | t :: ts, vs, ds, ps, hts, h, h1, h2 => by
  obtain ⟨v, vs', d, ds', p, q, rfl, rfl, rfl, hd, hr⟩ := trodAll_cons h
  simp only [List.all_cons, Bool.and_eq_true, decide_eq_true_eq] at hts
  obtain ⟨⟨hr1, hr2⟩, hts'⟩ := hts
  exact ⟨p, q, Trod_stays hl hr1 hr2 hd (fun x hx => h1 x (List.mem_append_left _ hx)) (fun x hx => h2 x (List.mem_append_left _ hx)),
   zCT hl hts' hr (fun x hx => h1 x (List.mem_append_right _ hx)) (fun x hx => h2 x (List.mem_append_right _ hx)), rfl⟩
theorem post_law {f : Func} {s : ChangeSpec} {W' : World} {m' : Mem} {args : Array Value} {ds : List (DataW H)} {gs : List (DataW H)} {before : List MemPlace} {t : TypeId}
  (hl : laidOutB P = true) (hts : (f.params.toList.all fun t => P.readableRec t && decide (t < P.types.size)) = true) (hvs : s.vars = []) (hres : f.resultTypes = #[t]) (ht : P.underlying t = some .bool)
  (hfn : s.fn H (ds ++ gs) = { results := [.lit (.bool true)], args := ds }) (hW : DataW.Whole enc P f.params.toList s.vars false W args.toList ds gs before) (hx : ExtG [] W (zBD W) W' m') :
  s.post enc P f false true false false W args (.bool true) W' := by
 have hb := hx.below
 have hlt : ∀ p ∈ before, p.block < W.heap.size := fun p hp => hW.lt p hp
 have hold : ∀ p ∈ before, (fun b => decide (b < W.heap.size)) p.block = true := fun p hp => by simpa using hlt p hp
 have hsame : ∀ p ∈ before, W.sameAt W' p := fun p hp => hb.same (hlt p hp)
 have hW0 := hW
 obtain ⟨pa, pv, hA, hV, hps, hz, hn⟩ := hW
 rw [hvs] at hV
 obtain ⟨rfl, rfl⟩ := trodVars_none hV
 rw [List.append_nil] at hps
 subst hps
 have hres' : ∀ (b : Nat) (sp : Nat → Bool) (hd : Bool), DataW.TrodAll enc P W' b sp hd f.resultTypes.toList ((Value.bool true).resultList f.resultTypes.size) (s.fn H (ds ++ [])).results [] := fun b sp hd => by
  rw [hfn, hres]
  exact trodAll_mk1 ⟨1, by simp [DataW.trod, Value.cells, ht]⟩
 have hargs : ∀ sp : Nat → Bool, (∀ p ∈ before, sp p.block = true) → DataW.TrodAll enc P W' 0 sp true f.params.toList args.toList (s.fn H (ds ++ [])).args before := fun sp hsp => by
  rw [hfn]; exact zCT hl hts hA hsame hsp
 have hvars : ∀ sp : Nat → Bool, DataW.TrodVars enc P W' sp s.vars (s.fn H (ds ++ [])).vars [] := fun sp => by
  rw [hvs, hfn]; exact rfl
 refine ⟨ds, [], before, [], before, [], hW0, hres' _ _ _, hargs _ hold, hvars _, World.keptBut_mono (fun p hp => ⟨hp, ?_⟩) (hb.frame (· ∈ before)), fun _ => ?_⟩
 ·exact Or.inr (Or.inl hp)
 ·refine ⟨ok_one hres rfl (okWide_bool_mk ht true), _, _, ([] ++ before) ++ [], ⟨[] ++ before, [], trodAll_append (hargs _ (fun _ _ => rfl)) (hres' _ _ _), hvars _, rfl, ?_, ?_⟩, ?_⟩
  ·intro b off hp
   have hin : MemPlace.cell b off ∈ before := by simpa using hp
   rw [hb.frozen (hlt _ hin)]
   exact hz b off hin
  ·intro ha
   have := hn ha
   simpa using this
  ·intro p hp _
   simpa using hp
end
end Go.Proofs.YtmdhhjmomilhjaaDoor
namespace Go.Proofs.YtmdhhjmomilhjaaDoor
set_option linter.all false
open Go.RowKit Go.WideShapes Go.ChangeShapes Go.Deep Go.WideElems Go.ChangeAt Go.ChangeMaps
section
variable {H : Type} {enc : TypeId × Value → H} {P : Program} {W : World} {base : Nat} {spare : Nat → Bool} {held : Bool}
theorem bulk_mem {d : DataW H} : ∀ {l : List (DataW H)}, d ∈ l → Rows.uptoBulk d ≤ Rows.uptoBulkAll l
 | x :: l, h => by
  rw [Rows.uptoBulkAll]
  rcases List.mem_cons.1 h with rfl | h
  ·omega
  ·have := bulk_mem h; omega
theorem zAm (d : DataW H) : 1 ≤ Rows.uptoBulk d := by
 cases d with
 | lit l => cases l <;> simp [Rows.uptoBulk]
 | _ => simp [Rows.uptoBulk]
theorem bulk_app : ∀ (l r : List (DataW H)), Rows.uptoBulkAll (l ++ r) = Rows.uptoBulkAll l + Rows.uptoBulkAll r
 | [], r => by simp [Rows.uptoBulkAll]
 | x :: l, r => by simp only [List.cons_append, Rows.uptoBulkAll, bulk_app l r]; omega
theorem zAQ {α : Type} {R : Mem → List Value → α → Prop} {β : α → Nat} {t e : TypeId} {sz fuel : Nat} {cs : List Value} {x : DataW H × List MemPlace} (B : Nat) (ht : P.underlying t = some (.slice e)) (hc : P.cellsOf e = sz) (hsz : 0 < sz)
  (hR : ∀ n cs (x : DataW H × List MemPlace), Rows.uptoBulk x.1 < B → DataW.trod enc P W base spare held n e cs = some x → cs.length = sz → ∃ a : α, R (zBD W) cs a ∧ β a ≤ Rows.uptoBulk x.1)
  (h : DataW.trod enc P W base spare held fuel t cs = some x) (hB : Rows.uptoBulk x.1 ≤ B) :
  ∃ o n c l, cs = [.slice o n c] ∧ Sl R sz (zBD W) o n c l ∧ c ≤ maxLen ∧ (l.map β).sum + 1 ≤ Rows.uptoBulk x.1 := by
 rcases open_slice ht h with ⟨rfl, rfl⟩ | ⟨a, len, cap, m, n, D, Pl, rfl, hb, hl, hm, hmm, rfl, hi⟩
 ·exact ⟨none, 0, 0, [], rfl, ⟨rfl, Nat.le_refl _, Nat.zero_le _, fun i x hx => by simp at hx⟩, Nat.zero_le _, by simp [Rows.uptoBulk]⟩
 ·have hlm : len ≤ m := by rw [hmm]; split <;> omega
  simp only [Rows.uptoBulk] at hB ⊢
  have key : ∀ k, k ≤ len → ∃ l : List α, l.length = k ∧ (l.map β).sum ≤ Rows.uptoBulkAll ((List.range k).map D) ∧ ∀ i x, l[i]? = some x → ∃ vs, CellsAt (zBD W) (a.add (i * sz)) vs ∧ vs.length = sz ∧ R (zBD W) vs x := by
   intro k
   induction k with
   | zero => intro _; exact ⟨[], rfl, by simp, fun i x hx => by simp at hx⟩
   | succ k ih =>
    intro hk
    obtain ⟨l, hl1, hl0, hl2⟩ := ih (by omega)
    obtain ⟨cs', hcs, htr⟩ := hi k (by omega)
    rw [hc] at hcs
    obtain ⟨h1, h2⟩ := cellsAt_snap hcs hsz
    have hD : Rows.uptoBulk (D k) ≤ Rows.uptoBulkAll ((List.range len).map D) := bulk_mem (List.mem_map.2 ⟨k, List.mem_range.2 (by omega), rfl⟩)
    obtain ⟨y, hy, hβ⟩ := hR n cs' _ (by simp only; omega) htr h2
    refine ⟨l ++ [y], by simp [hl1], ?_, fun i x hx => ?_⟩
    ·simp only [List.range_succ, List.map_append, bulk_app, List.sum_append, List.map_cons, List.map_nil, List.sum_cons, List.sum_nil, Rows.uptoBulkAll] at hβ ⊢; omega
    rw [List.getElem?_append] at hx
    split at hx
    ·exact hl2 i x hx
    ·have hik : i = k := by
      have := (List.getElem?_eq_some_iff.1 hx).1
      simp at this; omega
     subst hik
     rw [hl1, Nat.sub_self] at hx
     simp only [List.getElem?_cons_zero, Option.some.injEq] at hx
     subst hx
     exact ⟨cs', h1, h2, hy⟩
  obtain ⟨l, hl1, hl0, hl2⟩ := key len (Nat.le_refl _)
  refine ⟨some a, len, cap, l, rfl, ⟨hl1, hl, ?_, fun i x hx => ?_⟩, hm, by omega⟩
  ·simp only [maxLen] at hm; omega
  ·obtain ⟨vs, h1, h2, h3⟩ := hl2 i x hx
   exact ⟨a, vs, rfl, h1, h2, h3⟩
theorem ZY {e : TypeId} {fs : Array Field} {fuel : Nat} {cs : List Value} {x : DataW H × List MemPlace} (he : P.underlying e = some (.struct fs)) (h : DataW.trod enc P W base spare held fuel e cs = some x) :
  ∃ (n : Nat) (ys : List (DataW H × List MemPlace)), ys.length = fs.size ∧ Rows.uptoBulk x.1 = Rows.uptoBulkAll (ys.map (·.1)) + 1 ∧ cs.length = P.cellsOf e ∧
   ∀ (i : Nat) (f : Field), fs[i]? = some f → ∃ y, ys[i]? = some y ∧ DataW.trod enc P W base spare held n f.type ((cs.drop f.offset).take (P.cellsOf f.type)) = some y := by
 obtain ⟨xs, n, rfl, rfl, hl, hx, hf⟩ := DataW.trod_struct he h
 refine ⟨n, xs, hx, by simp [Rows.uptoBulk], hl, fun i f hi => ?_⟩
 have h1 : i < fs.size := (Array.getElem?_eq_some_iff.1 hi).1
 have h2 : xs[i]? = some (xs[i]'(by omega)) := List.getElem?_eq_getElem (by omega)
 exact ⟨_, h2, (hf i f hi).trans h2⟩
theorem zAx {t : TypeId} {n : Nat} {cs : List Value} {x : DataW H × List MemPlace} (ht : P.underlying t = some (.int .i64)) (h : DataW.trod enc P W base spare held n t cs = some x) : ∃ k : Int, cs = [.int .i64 k] ∧ zAC k ∧ Rows.uptoBulk x.1 = 1 := by
 obtain ⟨k, e, rfl, hs⟩ := DataW.trod_int ht h
 simp only [Lit.wf, Bool.and_eq_true, decide_eq_true_eq] at hs
 have h1 : IntKind.i64.min = -9223372036854775808 := by decide
 have h2 : IntKind.i64.max = 9223372036854775807 := by decide
 exact ⟨k, e, ⟨by omega, by omega⟩, by simp [Rows.uptoBulk]⟩
theorem zAS {t : TypeId} {n : Nat} {cs : List Value} {x : DataW H × List MemPlace} (ht : P.underlying t = some .string) (h : DataW.trod enc P W base spare held n t cs = some x) : ∃ l : Str, cs = [S l] ∧ l.length ≤ maxLen ∧ Rows.uptoBulk x.1 = l.length + 1 := by
 obtain ⟨s, e, rfl, hs⟩ := DataW.trod_string ht h
 obtain ⟨⟨l⟩⟩ := s
 exact ⟨l, e, by rw [S_size] at hs; exact hs, by simp [Rows.uptoBulk]⟩
end
end Go.Proofs.YtmdhhjmomilhjaaDoor
namespace Go.Proofs.YtmdhhjmomilhjaaDoor
open Go.Proofs.Tryd
set_option linter.all false
set_option maxRecDepth 4000
open Go.RowKit Go.WideShapes Go.ChangeShapes Go.Deep Go.WideElems Go.ChangeAt Go.ChangeMaps
theorem sum_two (l : List Str) : (l.map fun x => x.length + 2).sum ≤ 2 * (l.map fun s => s.length + 1).sum := by
 induction l with
 | nil => simp
 | cons x xs ih => simp only [List.map_cons, List.sum_cons]; omega
theorem zDH {H : Type} {enc : TypeId × Value → H} {W : World} {base : Nat} {spare : Nat → Bool} {held : Bool} {n : Nat} {cs : List Value} {x : DataW H × List MemPlace} (h : DataW.trod enc Tryd.prog W base spare held n 27 cs = some x) :
  ∃ o c l, cs = [.slice o l.length c] ∧ Strs (zBD W) o l.length c l ∧ (l.map fun x => x.length + 2).sum ≤ 2 * Rows.uptoBulk x.1 := by
 obtain ⟨o, q, c, l, el, hsl, hc, bl⟩ := zAQ (R := fun _ vs (x : Str) => vs = [S x]) (β := fun s => s.length + 1) (sz := 1) (Rows.uptoBulk x.1) underlying27 (by kernel_rfl) (by omega)
  (fun n cs x _ ht _ => by obtain ⟨s, es, _, bs⟩ := zAS underlying9 ht; exact ⟨s, es, by omega⟩) h (Nat.le_refl _)
 obtain rfl := hsl.len
 exact ⟨o, c, l, el, hsl, by have := sum_two l; omega⟩
theorem bulkAs_c (a : Ar) (ts : List Ar) : Zl (a :: ts) = a.name.length + (a.vars.map fun x => x.length + 2).sum + ZD a.body + Zl ts := by obtain ⟨s, l, b⟩ := a; rw [Zl]; rfl
theorem zCj {α : Type} (l : List α) : (l.map fun _ => 1).sum = l.length := by induction l with | nil => rfl | cons x xs ih => rw [List.map_cons, List.sum_cons, ih, List.length_cons, Nat.add_comm]
theorem rw_open {H : Type} {enc : TypeId × Value → H} {W : World} {base : Nat} {spare : Nat → Bool} {held : Bool} {n : Nat} {cs : List Value} {x : DataW H × List MemPlace} (h : DataW.trod enc Tryd.prog W base spare held n 29 cs = some x) : ∃ r : Rw, RwR (zBD W) r cs := by
 obtain ⟨rn, rys, rhl, hx, rhcl, rhf⟩ := ZY underlying29 h
 obtain ⟨ry0, re0, rh0⟩ := rhf 0 _ rfl
 obtain ⟨ry1, re1, rh1⟩ := rhf 1 _ rfl
 have rhcl2 : (cs : List Value).length = 2 := rhcl.trans (by kernel_rfl)
 obtain ⟨rc0, rc1, rfl⟩ : ∃ rc0 rc1, cs = [rc0, rc1] := by match cs, rhcl2 with | [a0, a1], _ => exact ⟨_, _, rfl⟩
 change DataW.trod enc Tryd.prog W base spare held rn 27 (([rc0, rc1].drop 0).take (Tryd.prog.cellsOf 27)) = some ry0 at rh0
 rw [show Tryd.prog.cellsOf 27 = 1 by kernel_rfl] at rh0
 change DataW.trod enc Tryd.prog W base spare held rn 27 [rc0] = some ry0 at rh0
 change DataW.trod enc Tryd.prog W base spare held rn 3 (([rc0, rc1].drop 1).take (Tryd.prog.cellsOf 3)) = some ry1 at rh1
 rw [show Tryd.prog.cellsOf 3 = 1 by kernel_rfl] at rh1
 change DataW.trod enc Tryd.prog W base spare held rn 3 [rc1] = some ry1 at rh1
 have rhys : rys = [ry0, ry1] := by
  match rys, rhl with
  | [q0, q1], _ => simp at re0 re1; subst re0 re1; rfl
 subst rhys; simp only [List.map_cons, List.map_nil, Rows.uptoBulkAll] at hx
 obtain ⟨o, c, ls, e1, hs, _⟩ := zDH rh0; injection e1 with e1; subst e1
 obtain ⟨v, e_v, h_v, b_v⟩ := zAx underlying3 rh1; injection e_v with e_v; subst e_v
 exact ⟨⟨ls, v⟩, _, _, rfl, hs, h_v⟩
theorem zCu {H : Type} {enc : TypeId × Value → H} {W : World} {base : Nat} {spare : Nat → Bool} {held : Bool} : ∀ (B n : Nat) (cs : List Value) (x : DataW H × List MemPlace), Rows.uptoBulk x.1 ≤ B → DataW.trod enc Tryd.prog W base spare held n 31 cs = some x → ∃ t : Ty, TyR (zBD W) t cs := by
 intro B
 induction B with
 | zero => intro n cs x hB h; exact absurd (zAm x.1) (by omega)
 | succ B ih =>
  intro n cs x hB h
  obtain ⟨tn, tys, thl, hx, thcl, thf⟩ := ZY underlying31 h
  obtain ⟨ty0, te0, th0⟩ := thf 0 _ rfl
  obtain ⟨ty1, te1, th1⟩ := thf 1 _ rfl
  obtain ⟨ty2, te2, th2⟩ := thf 2 _ rfl
  obtain ⟨ty3, te3, th3⟩ := thf 3 _ rfl
  obtain ⟨ty4, te4, th4⟩ := thf 4 _ rfl
  have thcl2 : (cs : List Value).length = 6 := thcl.trans (by kernel_rfl)
  obtain ⟨tc0, tc1, tc2, tc3, tc4, tc5, rfl⟩ : ∃ tc0 tc1 tc2 tc3 tc4 tc5, cs = [tc0, tc1, tc2, tc3, tc4, tc5] := by match cs, thcl2 with | [a0, a1, a2, a3, a4, a5], _ => exact ⟨_, _, _, _, _, _, rfl⟩
  change DataW.trod enc Tryd.prog W base spare held tn 3 (([tc0, tc1, tc2, tc3, tc4, tc5].drop 0).take (Tryd.prog.cellsOf 3)) = some ty0 at th0
  rw [show Tryd.prog.cellsOf 3 = 1 by kernel_rfl] at th0
  change DataW.trod enc Tryd.prog W base spare held tn 3 [tc0] = some ty0 at th0
  change DataW.trod enc Tryd.prog W base spare held tn 9 (([tc0, tc1, tc2, tc3, tc4, tc5].drop 1).take (Tryd.prog.cellsOf 9)) = some ty1 at th1
  rw [show Tryd.prog.cellsOf 9 = 1 by kernel_rfl] at th1
  change DataW.trod enc Tryd.prog W base spare held tn 9 [tc1] = some ty1 at th1
  change DataW.trod enc Tryd.prog W base spare held tn 3 (([tc0, tc1, tc2, tc3, tc4, tc5].drop 2).take (Tryd.prog.cellsOf 3)) = some ty2 at th2
  rw [show Tryd.prog.cellsOf 3 = 1 by kernel_rfl] at th2
  change DataW.trod enc Tryd.prog W base spare held tn 3 [tc2] = some ty2 at th2
  change DataW.trod enc Tryd.prog W base spare held tn 26 (([tc0, tc1, tc2, tc3, tc4, tc5].drop 3).take (Tryd.prog.cellsOf 26)) = some ty3 at th3
  rw [show Tryd.prog.cellsOf 26 = 1 by kernel_rfl] at th3
  change DataW.trod enc Tryd.prog W base spare held tn 26 [tc3] = some ty3 at th3
  change DataW.trod enc Tryd.prog W base spare held tn 29 (([tc0, tc1, tc2, tc3, tc4, tc5].drop 4).take (Tryd.prog.cellsOf 29)) = some ty4 at th4
  rw [show Tryd.prog.cellsOf 29 = 2 by kernel_rfl] at th4
  change DataW.trod enc Tryd.prog W base spare held tn 29 [tc4, tc5] = some ty4 at th4
  have thys : tys = [ty0, ty1, ty2, ty3, ty4] := by
   match tys, thl with
   | [q0, q1, q2, q3, q4], _ => simp at te0 te1 te2 te3 te4; subst te0 te1 te2 te3 te4; rfl
  subst thys; simp only [List.map_cons, List.map_nil, Rows.uptoBulkAll] at hx
  obtain ⟨k, e_k, h_k, b_k⟩ := zAx underlying3 th0; injection e_k with e_k; subst e_k
  obtain ⟨s, e_s, h_s, b_s⟩ := zAS underlying9 th1; injection e_s with e_s; subst e_s
  obtain ⟨v, e_v, h_v, b_v⟩ := zAx underlying3 th2; injection e_v with e_v; subst e_v
  obtain ⟨rn, rys, rhl, hx2, rhcl, rhf⟩ := ZY underlying29 th4
  obtain ⟨ry0, re0, rh0⟩ := rhf 0 _ rfl
  obtain ⟨ry1, re1, rh1⟩ := rhf 1 _ rfl
  have rhcl2 : ([tc4, tc5] : List Value).length = 2 := rhcl.trans (by kernel_rfl)
  change DataW.trod enc Tryd.prog W base spare held rn 27 (([tc4, tc5].drop 0).take (Tryd.prog.cellsOf 27)) = some ry0 at rh0
  rw [show Tryd.prog.cellsOf 27 = 1 by kernel_rfl] at rh0
  change DataW.trod enc Tryd.prog W base spare held rn 27 [tc4] = some ry0 at rh0
  change DataW.trod enc Tryd.prog W base spare held rn 3 (([tc4, tc5].drop 1).take (Tryd.prog.cellsOf 3)) = some ry1 at rh1
  rw [show Tryd.prog.cellsOf 3 = 1 by kernel_rfl] at rh1
  change DataW.trod enc Tryd.prog W base spare held rn 3 [tc5] = some ry1 at rh1
  have rhys : rys = [ry0, ry1] := by
   match rys, rhl with
   | [q0, q1], _ => simp at re0 re1; subst re0 re1; rfl
  subst rhys; simp only [List.map_cons, List.map_nil, Rows.uptoBulkAll] at hx2
  obtain ⟨ol, cl, ls, el, hls, _⟩ := zDH rh0; injection el with el; subst el
  obtain ⟨rv, e_rv, h_rv, b_rv⟩ := zAx underlying3 rh1; injection e_rv with e_rv; subst e_rv
  obtain ⟨o, q, c, l, el2, hsl, hc, bl⟩ := zAQ (R := fun m vs t => TyR m t vs) (β := fun _ => 0) (sz := 6) (Rows.uptoBulk ty3.1) underlying26 (by kernel_rfl) (by omega)
   (fun n cs x hx9 ht _ => by obtain ⟨t, h1⟩ := ih n cs x (by omega) ht; exact ⟨t, h1, Nat.zero_le _⟩) th3 (Nat.le_refl _)
  obtain rfl := hsl.len
  injection el2 with el2; subst el2
  exact ⟨⟨k, s, v, l, ls, rv⟩, TyR.build hsl hls h_k h_v h_rv⟩
theorem os_open {H : Type} {enc : TypeId × Value → H} {W : World} {base : Nat} {spare : Nat → Bool} {held : Bool} {n : Nat} {cs : List Value} {x : DataW H × List MemPlace} (h : DataW.trod enc Tryd.prog W base spare held n 118 cs = some x) : ∃ r : Os, OsR (zBD W) r cs := by
 obtain ⟨sn, sys, shl, hx, shcl, shf⟩ := ZY underlying118 h
 obtain ⟨sy0, se0, sh0⟩ := shf 0 _ rfl
 obtain ⟨sy1, se1, sh1⟩ := shf 1 _ rfl
 obtain ⟨sy2, se2, sh2⟩ := shf 2 _ rfl
 have shcl2 : (cs : List Value).length = 13 := shcl.trans (by kernel_rfl)
 obtain ⟨sc0, sc1, sc2, sc3, sc4, sc5, sc6, sc7, sc8, sc9, sc10, sc11, sc12, rfl⟩ : ∃ sc0 sc1 sc2 sc3 sc4 sc5 sc6 sc7 sc8 sc9 sc10 sc11 sc12, cs = [sc0, sc1, sc2, sc3, sc4, sc5, sc6, sc7, sc8, sc9, sc10, sc11, sc12] := by match cs, shcl2 with | [a0, a1, a2, a3, a4, a5, a6, a7, a8, a9, a10, a11, a12], _ => exact ⟨_, _, _, _, _, _, _, _, _, _, _, _, _, rfl⟩
 change DataW.trod enc Tryd.prog W base spare held sn 9 (([sc0, sc1, sc2, sc3, sc4, sc5, sc6, sc7, sc8, sc9, sc10, sc11, sc12].drop 0).take (Tryd.prog.cellsOf 9)) = some sy0 at sh0
 rw [show Tryd.prog.cellsOf 9 = 1 by kernel_rfl] at sh0
 change DataW.trod enc Tryd.prog W base spare held sn 9 [sc0] = some sy0 at sh0
 change DataW.trod enc Tryd.prog W base spare held sn 31 (([sc0, sc1, sc2, sc3, sc4, sc5, sc6, sc7, sc8, sc9, sc10, sc11, sc12].drop 1).take (Tryd.prog.cellsOf 31)) = some sy1 at sh1
 rw [show Tryd.prog.cellsOf 31 = 6 by kernel_rfl] at sh1
 change DataW.trod enc Tryd.prog W base spare held sn 31 [sc1, sc2, sc3, sc4, sc5, sc6] = some sy1 at sh1
 change DataW.trod enc Tryd.prog W base spare held sn 31 (([sc0, sc1, sc2, sc3, sc4, sc5, sc6, sc7, sc8, sc9, sc10, sc11, sc12].drop 7).take (Tryd.prog.cellsOf 31)) = some sy2 at sh2
 rw [show Tryd.prog.cellsOf 31 = 6 by kernel_rfl] at sh2
 change DataW.trod enc Tryd.prog W base spare held sn 31 [sc7, sc8, sc9, sc10, sc11, sc12] = some sy2 at sh2
 have shys : sys = [sy0, sy1, sy2] := by
  match sys, shl with
  | [q0, q1, q2], _ => simp at se0 se1 se2; subst se0 se1 se2; rfl
 subst shys; simp only [List.map_cons, List.map_nil, Rows.uptoBulkAll] at hx
 obtain ⟨s, e_s, h_s, b_s⟩ := zAS underlying9 sh0; injection e_s with e_s; subst e_s
 obtain ⟨a, ha⟩ := (zCu _ _ _ _ (Nat.le_refl _) sh1)
 obtain ⟨r, hr⟩ := (zCu _ _ _ _ (Nat.le_refl _) sh2)
 exact ⟨⟨s, a, r⟩, _, _, rfl, ha, hr⟩
theorem ef_open {H : Type} {enc : TypeId × Value → H} {W : World} {base : Nat} {spare : Nat → Bool} {held : Bool} {n : Nat} {cs : List Value} {x : DataW H × List MemPlace} (h : DataW.trod enc Tryd.prog W base spare held n 115 cs = some x) : ∃ r : Ef, EfR (zBD W) r cs ∧ r.ops.length ≤ Rows.uptoBulk x.1 := by
 obtain ⟨sn, sys, shl, hx, shcl, shf⟩ := ZY underlying115 h
 obtain ⟨sy0, se0, sh0⟩ := shf 0 _ rfl
 obtain ⟨sy1, se1, sh1⟩ := shf 1 _ rfl
 have shcl2 : (cs : List Value).length = 2 := shcl.trans (by kernel_rfl)
 obtain ⟨sc0, sc1, rfl⟩ : ∃ sc0 sc1, cs = [sc0, sc1] := by match cs, shcl2 with | [a0, a1], _ => exact ⟨_, _, rfl⟩
 change DataW.trod enc Tryd.prog W base spare held sn 9 (([sc0, sc1].drop 0).take (Tryd.prog.cellsOf 9)) = some sy0 at sh0
 rw [show Tryd.prog.cellsOf 9 = 1 by kernel_rfl] at sh0
 change DataW.trod enc Tryd.prog W base spare held sn 9 [sc0] = some sy0 at sh0
 change DataW.trod enc Tryd.prog W base spare held sn 113 (([sc0, sc1].drop 1).take (Tryd.prog.cellsOf 113)) = some sy1 at sh1
 rw [show Tryd.prog.cellsOf 113 = 1 by kernel_rfl] at sh1
 change DataW.trod enc Tryd.prog W base spare held sn 113 [sc1] = some sy1 at sh1
 have shys : sys = [sy0, sy1] := by
  match sys, shl with
  | [q0, q1], _ => simp at se0 se1; subst se0 se1; rfl
 subst shys; simp only [List.map_cons, List.map_nil, Rows.uptoBulkAll] at hx
 obtain ⟨s, e_s, h_s, b_s⟩ := zAS underlying9 sh0; injection e_s with e_s; subst e_s
 obtain ⟨o, q, c, l, el2, hsl, hc, bl⟩ := zAQ (R := fun m vs t => OsR m t vs) (β := fun _ => 1) (sz := 13) (Rows.uptoBulk sy1.1) underlying113 (by kernel_rfl) (by omega)
  (fun n cs x hx9 ht _ => by obtain ⟨t, h1⟩ := os_open ht; exact ⟨t, h1, zAm _⟩) sh1 (Nat.le_refl _)
 obtain rfl := hsl.len
 injection el2 with el2; subst el2
 have h1 := zCj l
 exact ⟨⟨s, l⟩, ⟨_, _, rfl, hsl⟩, by show l.length ≤ _; omega⟩
theorem cs_open {H : Type} {enc : TypeId × Value → H} {W : World} {base : Nat} {spare : Nat → Bool} {held : Bool} {n : Nat} {cs : List Value} {x : DataW H × List MemPlace} (h : DataW.trod enc Tryd.prog W base spare held n 124 cs = some x) : ∃ r : Cs, CsR (zBD W) r cs ∧ r.fields.length ≤ Rows.uptoBulk x.1 := by
 obtain ⟨sn, sys, shl, hx, shcl, shf⟩ := ZY underlying124 h
 obtain ⟨sy0, se0, sh0⟩ := shf 0 _ rfl
 obtain ⟨sy1, se1, sh1⟩ := shf 1 _ rfl
 have shcl2 : (cs : List Value).length = 2 := shcl.trans (by kernel_rfl)
 obtain ⟨sc0, sc1, rfl⟩ : ∃ sc0 sc1, cs = [sc0, sc1] := by match cs, shcl2 with | [a0, a1], _ => exact ⟨_, _, rfl⟩
 change DataW.trod enc Tryd.prog W base spare held sn 9 (([sc0, sc1].drop 0).take (Tryd.prog.cellsOf 9)) = some sy0 at sh0
 rw [show Tryd.prog.cellsOf 9 = 1 by kernel_rfl] at sh0
 change DataW.trod enc Tryd.prog W base spare held sn 9 [sc0] = some sy0 at sh0
 change DataW.trod enc Tryd.prog W base spare held sn 26 (([sc0, sc1].drop 1).take (Tryd.prog.cellsOf 26)) = some sy1 at sh1
 rw [show Tryd.prog.cellsOf 26 = 1 by kernel_rfl] at sh1
 change DataW.trod enc Tryd.prog W base spare held sn 26 [sc1] = some sy1 at sh1
 have shys : sys = [sy0, sy1] := by
  match sys, shl with
  | [q0, q1], _ => simp at se0 se1; subst se0 se1; rfl
 subst shys; simp only [List.map_cons, List.map_nil, Rows.uptoBulkAll] at hx
 obtain ⟨s, e_s, h_s, b_s⟩ := zAS underlying9 sh0; injection e_s with e_s; subst e_s
 obtain ⟨o, q, c, l, el2, hsl, hc, bl⟩ := zAQ (R := fun m vs t => TyR m t vs) (β := fun _ => 1) (sz := 6) (Rows.uptoBulk sy1.1) underlying26 (by kernel_rfl) (by omega)
  (fun n cs x hx9 ht _ => by obtain ⟨t, h1⟩ := (zCu _ _ _ _ (Nat.le_refl _) ht); exact ⟨t, h1, zAm _⟩) sh1 (Nat.le_refl _)
 obtain rfl := hsl.len
 injection el2 with el2; subst el2
 have h1 := zCj l
 exact ⟨⟨s, l⟩, ⟨_, _, rfl, hsl⟩, by show l.length ≤ _; omega⟩
theorem da_open {H : Type} {enc : TypeId × Value → H} {W : World} {base : Nat} {spare : Nat → Bool} {held : Bool} {n : Nat} {cs : List Value} {x : DataW H × List MemPlace} (h : DataW.trod enc Tryd.prog W base spare held n 122 cs = some x) : ∃ r : Da, DaR (zBD W) r cs ∧ r.cons.length ≤ Rows.uptoBulk x.1 := by
 obtain ⟨sn, sys, shl, hx, shcl, shf⟩ := ZY underlying122 h
 obtain ⟨sy0, se0, sh0⟩ := shf 0 _ rfl
 obtain ⟨sy1, se1, sh1⟩ := shf 1 _ rfl
 have shcl2 : (cs : List Value).length = 2 := shcl.trans (by kernel_rfl)
 obtain ⟨sc0, sc1, rfl⟩ : ∃ sc0 sc1, cs = [sc0, sc1] := by match cs, shcl2 with | [a0, a1], _ => exact ⟨_, _, rfl⟩
 change DataW.trod enc Tryd.prog W base spare held sn 9 (([sc0, sc1].drop 0).take (Tryd.prog.cellsOf 9)) = some sy0 at sh0
 rw [show Tryd.prog.cellsOf 9 = 1 by kernel_rfl] at sh0
 change DataW.trod enc Tryd.prog W base spare held sn 9 [sc0] = some sy0 at sh0
 change DataW.trod enc Tryd.prog W base spare held sn 120 (([sc0, sc1].drop 1).take (Tryd.prog.cellsOf 120)) = some sy1 at sh1
 rw [show Tryd.prog.cellsOf 120 = 1 by kernel_rfl] at sh1
 change DataW.trod enc Tryd.prog W base spare held sn 120 [sc1] = some sy1 at sh1
 have shys : sys = [sy0, sy1] := by
  match sys, shl with
  | [q0, q1], _ => simp at se0 se1; subst se0 se1; rfl
 subst shys; simp only [List.map_cons, List.map_nil, Rows.uptoBulkAll] at hx
 obtain ⟨s, e_s, h_s, b_s⟩ := zAS underlying9 sh0; injection e_s with e_s; subst e_s
 obtain ⟨o, q, c, l, el2, hsl, hc, bl⟩ := zAQ (R := fun m vs t => CsR m t vs) (β := fun _ => 1) (sz := 2) (Rows.uptoBulk sy1.1) underlying120 (by kernel_rfl) (by omega)
  (fun n cs x hx9 ht _ => by obtain ⟨t, h1, _⟩ := cs_open ht; exact ⟨t, h1, zAm _⟩) sh1 (Nat.le_refl _)
 obtain rfl := hsl.len
 injection el2 with el2; subst el2
 have h1 := zCj l
 exact ⟨⟨s, l⟩, ⟨_, _, rfl, hsl⟩, by show l.length ≤ _; omega⟩
theorem tm_open {H : Type} {enc : TypeId × Value → H} {W : World} {base : Nat} {spare : Nat → Bool} {held : Bool} : ∀ (B : Nat), (∀ (n : Nat) (cs : List Value) (x : DataW H × List MemPlace), Rows.uptoBulk x.1 ≤ B → DataW.trod enc Tryd.prog W base spare held n 33 cs = some x → ∃ t : Tm, TmR (zBD W) t cs ∧ ZD t ≤ 2 * Rows.uptoBulk x.1) ∧ (∀ (n : Nat) (cs : List Value) (x : DataW H × List MemPlace), Rows.uptoBulk x.1 ≤ B → DataW.trod enc Tryd.prog W base spare held n 72 cs = some x → ∃ a : Ar, ArR (zBD W) a cs ∧ a.name.length + (a.vars.map fun x => x.length + 2).sum + ZD a.body ≤ 2 * Rows.uptoBulk x.1) := by
 intro B
 induction B with
 | zero => exact ⟨fun n cs x hB h => absurd (zAm x.1) (by omega), fun n cs x hB h => absurd (zAm x.1) (by omega)⟩
 | succ B ih =>
  refine ⟨fun n cs x hB h => ?_, fun n cs x hB h => ?_⟩
  ·obtain ⟨tn, tys, thl, hx, thcl, thf⟩ := ZY underlying33 h
   obtain ⟨ty0, te0, th0⟩ := thf 0 _ rfl
   obtain ⟨ty1, te1, th1⟩ := thf 1 _ rfl
   obtain ⟨ty2, te2, th2⟩ := thf 2 _ rfl
   obtain ⟨ty3, te3, th3⟩ := thf 3 _ rfl
   obtain ⟨ty4, te4, th4⟩ := thf 4 _ rfl
   obtain ⟨ty5, te5, th5⟩ := thf 5 _ rfl
   obtain ⟨ty6, te6, th6⟩ := thf 6 _ rfl
   obtain ⟨ty7, te7, th7⟩ := thf 7 _ rfl
   obtain ⟨ty8, te8, th8⟩ := thf 8 _ rfl
   obtain ⟨ty9, te9, th9⟩ := thf 9 _ rfl
   have thcl2 : (cs : List Value).length = 21 := thcl.trans (by kernel_rfl)
   obtain ⟨tc0, tc1, tc2, tc3, tc4, tc5, tc6, tc7, tc8, tc9, tc10, tc11, tc12, tc13, tc14, tc15, tc16, tc17, tc18, tc19, tc20, rfl⟩ : ∃ tc0 tc1 tc2 tc3 tc4 tc5 tc6 tc7 tc8 tc9 tc10 tc11 tc12 tc13 tc14 tc15 tc16 tc17 tc18 tc19 tc20, cs = [tc0, tc1, tc2, tc3, tc4, tc5, tc6, tc7, tc8, tc9, tc10, tc11, tc12, tc13, tc14, tc15, tc16, tc17, tc18, tc19, tc20] := by match cs, thcl2 with | [a0, a1, a2, a3, a4, a5, a6, a7, a8, a9, a10, a11, a12, a13, a14, a15, a16, a17, a18, a19, a20], _ => exact ⟨_, _, _, _, _, _, _, _, _, _, _, _, _, _, _, _, _, _, _, _, _, rfl⟩
   change DataW.trod enc Tryd.prog W base spare held tn 3 (([tc0, tc1, tc2, tc3, tc4, tc5, tc6, tc7, tc8, tc9, tc10, tc11, tc12, tc13, tc14, tc15, tc16, tc17, tc18, tc19, tc20].drop 0).take (Tryd.prog.cellsOf 3)) = some ty0 at th0
   rw [show Tryd.prog.cellsOf 3 = 1 by kernel_rfl] at th0
   change DataW.trod enc Tryd.prog W base spare held tn 3 [tc0] = some ty0 at th0
   change DataW.trod enc Tryd.prog W base spare held tn 3 (([tc0, tc1, tc2, tc3, tc4, tc5, tc6, tc7, tc8, tc9, tc10, tc11, tc12, tc13, tc14, tc15, tc16, tc17, tc18, tc19, tc20].drop 1).take (Tryd.prog.cellsOf 3)) = some ty1 at th1
   rw [show Tryd.prog.cellsOf 3 = 1 by kernel_rfl] at th1
   change DataW.trod enc Tryd.prog W base spare held tn 3 [tc1] = some ty1 at th1
   change DataW.trod enc Tryd.prog W base spare held tn 9 (([tc0, tc1, tc2, tc3, tc4, tc5, tc6, tc7, tc8, tc9, tc10, tc11, tc12, tc13, tc14, tc15, tc16, tc17, tc18, tc19, tc20].drop 2).take (Tryd.prog.cellsOf 9)) = some ty2 at th2
   rw [show Tryd.prog.cellsOf 9 = 1 by kernel_rfl] at th2
   change DataW.trod enc Tryd.prog W base spare held tn 9 [tc2] = some ty2 at th2
   change DataW.trod enc Tryd.prog W base spare held tn 9 (([tc0, tc1, tc2, tc3, tc4, tc5, tc6, tc7, tc8, tc9, tc10, tc11, tc12, tc13, tc14, tc15, tc16, tc17, tc18, tc19, tc20].drop 3).take (Tryd.prog.cellsOf 9)) = some ty3 at th3
   rw [show Tryd.prog.cellsOf 9 = 1 by kernel_rfl] at th3
   change DataW.trod enc Tryd.prog W base spare held tn 9 [tc3] = some ty3 at th3
   change DataW.trod enc Tryd.prog W base spare held tn 3 (([tc0, tc1, tc2, tc3, tc4, tc5, tc6, tc7, tc8, tc9, tc10, tc11, tc12, tc13, tc14, tc15, tc16, tc17, tc18, tc19, tc20].drop 4).take (Tryd.prog.cellsOf 3)) = some ty4 at th4
   rw [show Tryd.prog.cellsOf 3 = 1 by kernel_rfl] at th4
   change DataW.trod enc Tryd.prog W base spare held tn 3 [tc4] = some ty4 at th4
   change DataW.trod enc Tryd.prog W base spare held tn 24 (([tc0, tc1, tc2, tc3, tc4, tc5, tc6, tc7, tc8, tc9, tc10, tc11, tc12, tc13, tc14, tc15, tc16, tc17, tc18, tc19, tc20].drop 5).take (Tryd.prog.cellsOf 24)) = some ty5 at th5
   rw [show Tryd.prog.cellsOf 24 = 1 by kernel_rfl] at th5
   change DataW.trod enc Tryd.prog W base spare held tn 24 [tc5] = some ty5 at th5
   change DataW.trod enc Tryd.prog W base spare held tn 25 (([tc0, tc1, tc2, tc3, tc4, tc5, tc6, tc7, tc8, tc9, tc10, tc11, tc12, tc13, tc14, tc15, tc16, tc17, tc18, tc19, tc20].drop 6).take (Tryd.prog.cellsOf 25)) = some ty6 at th6
   rw [show Tryd.prog.cellsOf 25 = 1 by kernel_rfl] at th6
   change DataW.trod enc Tryd.prog W base spare held tn 25 [tc6] = some ty6 at th6
   change DataW.trod enc Tryd.prog W base spare held tn 31 (([tc0, tc1, tc2, tc3, tc4, tc5, tc6, tc7, tc8, tc9, tc10, tc11, tc12, tc13, tc14, tc15, tc16, tc17, tc18, tc19, tc20].drop 7).take (Tryd.prog.cellsOf 31)) = some ty7 at th7
   rw [show Tryd.prog.cellsOf 31 = 6 by kernel_rfl] at th7
   change DataW.trod enc Tryd.prog W base spare held tn 31 [tc7, tc8, tc9, tc10, tc11, tc12] = some ty7 at th7
   change DataW.trod enc Tryd.prog W base spare held tn 29 (([tc0, tc1, tc2, tc3, tc4, tc5, tc6, tc7, tc8, tc9, tc10, tc11, tc12, tc13, tc14, tc15, tc16, tc17, tc18, tc19, tc20].drop 13).take (Tryd.prog.cellsOf 29)) = some ty8 at th8
   rw [show Tryd.prog.cellsOf 29 = 2 by kernel_rfl] at th8
   change DataW.trod enc Tryd.prog W base spare held tn 29 [tc13, tc14] = some ty8 at th8
   change DataW.trod enc Tryd.prog W base spare held tn 31 (([tc0, tc1, tc2, tc3, tc4, tc5, tc6, tc7, tc8, tc9, tc10, tc11, tc12, tc13, tc14, tc15, tc16, tc17, tc18, tc19, tc20].drop 15).take (Tryd.prog.cellsOf 31)) = some ty9 at th9
   rw [show Tryd.prog.cellsOf 31 = 6 by kernel_rfl] at th9
   change DataW.trod enc Tryd.prog W base spare held tn 31 [tc15, tc16, tc17, tc18, tc19, tc20] = some ty9 at th9
   have thys : tys = [ty0, ty1, ty2, ty3, ty4, ty5, ty6, ty7, ty8, ty9] := by
    match tys, thl with
    | [q0, q1, q2, q3, q4, q5, q6, q7, q8, q9], _ => simp at te0 te1 te2 te3 te4 te5 te6 te7 te8 te9; subst te0 te1 te2 te3 te4 te5 te6 te7 te8 te9; rfl
   subst thys; simp only [List.map_cons, List.map_nil, Rows.uptoBulkAll] at hx
   obtain ⟨k, e_k, h_k, b_k⟩ := zAx underlying3 th0; injection e_k with e_k; subst e_k
   obtain ⟨a, e_a, h_a, b_a⟩ := zAx underlying3 th1; injection e_a with e_a; subst e_a
   obtain ⟨s, e_s, h_s, b_s⟩ := zAS underlying9 th2; injection e_s with e_s; subst e_s
   obtain ⟨p, e_p, h_p, b_p⟩ := zAS underlying9 th3; injection e_p with e_p; subst e_p
   obtain ⟨nn, e_nn, h_nn, b_nn⟩ := zAx underlying3 th4; injection e_nn with e_nn; subst e_nn
   obtain ⟨ty, hty⟩ := (zCu _ _ _ _ (Nat.le_refl _) th7)
   obtain ⟨rr, hrr⟩ := rw_open th8
   obtain ⟨tz, htz⟩ := (zCu _ _ _ _ (Nat.le_refl _) th9)
   obtain ⟨o, q, cc, l, el2, hsl, hc, bl⟩ := zAQ (R := fun m vs t => TmR m t vs ∧ ZD t ≤ 2 * Rows.uptoBulk ty5.1) (β := fun t => (ZD t + 1) / 2) (sz := 21) (Rows.uptoBulk ty5.1) underlying24 (by kernel_rfl) (by omega)
    (fun n cs x hx9 ht _ => by obtain ⟨t, h1, h2⟩ := ih.1 n cs x (by omega) ht; exact ⟨t, ⟨h1, by omega⟩, by omega⟩) th5 (Nat.le_refl _)
   obtain rfl := hsl.len
   injection el2 with el2; subst el2
   have hsl2 : Tms (zBD W) o l.length cc l := ⟨rfl, hsl.cap, hsl.big, fun i x hx => by obtain ⟨p, vs, a1, a2, a3, a4⟩ := hsl.at_ i x hx; exact ⟨p, vs, a1, a2, a3, a4.1⟩⟩
   obtain ⟨o4, q4, c4, l4, el4, hsl4, hc4, bl4⟩ := zAQ (R := fun m vs a => ArR m a vs ∧ a.name.length + (a.vars.map fun x => x.length + 2).sum + ZD a.body ≤ 2 * Rows.uptoBulk ty6.1) (β := fun a => (a.name.length + (a.vars.map fun x => x.length + 2).sum + ZD a.body + 1) / 2) (sz := 23) (Rows.uptoBulk ty6.1) underlying25 (by kernel_rfl) (by omega)
    (fun n cs x hx9 ht _ => by obtain ⟨t, h1, h2⟩ := ih.2 n cs x (by omega) ht; exact ⟨t, ⟨h1, by omega⟩, by omega⟩) th6 (Nat.le_refl _)
   obtain rfl := hsl4.len
   injection el4 with el4; subst el4
   have hsl5 : Ars (zBD W) o4 l4.length c4 l4 := ⟨rfl, hsl4.cap, hsl4.big, fun i x hx => by obtain ⟨p, vs, a1, a2, a3, a4⟩ := hsl4.at_ i x hx; exact ⟨p, vs, a1, a2, a3, a4.1⟩⟩
   have key : ∀ l : List Tm, Zy l ≤ 2 * (l.map fun t => (ZD t + 1) / 2).sum := by
    intro l
    induction l with
    | nil => simp [Zy]
    | cons x xs ih => simp only [Zy, List.map_cons, List.sum_cons]; omega
   have key2 : ∀ l : List Ar, Zl l ≤ 2 * (l.map fun a => (a.name.length + (a.vars.map fun x => x.length + 2).sum + ZD a.body + 1) / 2).sum := by
    intro l
    induction l with
    | nil => simp [Zl]
    | cons x xs ih => rw [bulkAs_c, List.map_cons, List.sum_cons]; omega
   have hk := key l; have hk2 := key2 l4
   obtain ⟨o3, c3, e3, hs3, hv3⟩ := hrr
   simp only [List.cons.injEq, and_true] at e3
   obtain ⟨e3a, e3b⟩ := e3; subst e3a e3b
   have hone1 := RepR.one (R := fun m vs t => TyR m t vs) hty; have hone2 := RepR.one (R := fun m vs t => TyR m t vs) htz
   refine ⟨⟨k, a, s, p, nn, l, l4, rr⟩, TmR.build (y := ⟨o, cc, o4, c4, o3, c3, tc7, tc8, tc9, tc10, tc11, tc12, tc15, tc16, tc17, tc18, tc19, tc20⟩) ?_ hsl2 hsl5 ⟨_, _, rfl, hs3, hv3⟩, ?_⟩
   ·unfold TmY.one
    simp only [List.all_cons, List.all_nil, Bool.and_true, Bool.and_eq_true] at hone1 hone2 ⊢
    exact ⟨hone1.1, hone1.2.1, hone1.2.2.1, hone1.2.2.2.1, hone1.2.2.2.2.1, hone1.2.2.2.2.2, hone2.1, hone2.2.1, hone2.2.2.1, hone2.2.2.2.1, hone2.2.2.2.2.1, hone2.2.2.2.2.2⟩
   ·have e1 := zAm (H := H) ty0.1; rw [ZD]; omega
  ·obtain ⟨tn, tys, thl, hx, thcl, thf⟩ := ZY underlying72 h
   obtain ⟨ty0, te0, th0⟩ := thf 0 _ rfl
   obtain ⟨ty1, te1, th1⟩ := thf 1 _ rfl
   obtain ⟨ty2, te2, th2⟩ := thf 2 _ rfl
   have thcl2 : (cs : List Value).length = 23 := thcl.trans (by kernel_rfl)
   obtain ⟨tc0, tc1, tc2, tc3, tc4, tc5, tc6, tc7, tc8, tc9, tc10, tc11, tc12, tc13, tc14, tc15, tc16, tc17, tc18, tc19, tc20, tc21, tc22, rfl⟩ : ∃ tc0 tc1 tc2 tc3 tc4 tc5 tc6 tc7 tc8 tc9 tc10 tc11 tc12 tc13 tc14 tc15 tc16 tc17 tc18 tc19 tc20 tc21 tc22, cs = [tc0, tc1, tc2, tc3, tc4, tc5, tc6, tc7, tc8, tc9, tc10, tc11, tc12, tc13, tc14, tc15, tc16, tc17, tc18, tc19, tc20, tc21, tc22] := by match cs, thcl2 with | [a0, a1, a2, a3, a4, a5, a6, a7, a8, a9, a10, a11, a12, a13, a14, a15, a16, a17, a18, a19, a20, a21, a22], _ => exact ⟨_, _, _, _, _, _, _, _, _, _, _, _, _, _, _, _, _, _, _, _, _, _, _, rfl⟩
   change DataW.trod enc Tryd.prog W base spare held tn 9 (([tc0, tc1, tc2, tc3, tc4, tc5, tc6, tc7, tc8, tc9, tc10, tc11, tc12, tc13, tc14, tc15, tc16, tc17, tc18, tc19, tc20, tc21, tc22].drop 0).take (Tryd.prog.cellsOf 9)) = some ty0 at th0
   rw [show Tryd.prog.cellsOf 9 = 1 by kernel_rfl] at th0
   change DataW.trod enc Tryd.prog W base spare held tn 9 [tc0] = some ty0 at th0
   change DataW.trod enc Tryd.prog W base spare held tn 27 (([tc0, tc1, tc2, tc3, tc4, tc5, tc6, tc7, tc8, tc9, tc10, tc11, tc12, tc13, tc14, tc15, tc16, tc17, tc18, tc19, tc20, tc21, tc22].drop 1).take (Tryd.prog.cellsOf 27)) = some ty1 at th1
   rw [show Tryd.prog.cellsOf 27 = 1 by kernel_rfl] at th1
   change DataW.trod enc Tryd.prog W base spare held tn 27 [tc1] = some ty1 at th1
   change DataW.trod enc Tryd.prog W base spare held tn 33 (([tc0, tc1, tc2, tc3, tc4, tc5, tc6, tc7, tc8, tc9, tc10, tc11, tc12, tc13, tc14, tc15, tc16, tc17, tc18, tc19, tc20, tc21, tc22].drop 2).take (Tryd.prog.cellsOf 33)) = some ty2 at th2
   rw [show Tryd.prog.cellsOf 33 = 21 by kernel_rfl] at th2
   change DataW.trod enc Tryd.prog W base spare held tn 33 [tc2, tc3, tc4, tc5, tc6, tc7, tc8, tc9, tc10, tc11, tc12, tc13, tc14, tc15, tc16, tc17, tc18, tc19, tc20, tc21, tc22] = some ty2 at th2
   have thys : tys = [ty0, ty1, ty2] := by
    match tys, thl with
    | [q0, q1, q2], _ => simp at te0 te1 te2; subst te0 te1 te2; rfl
   subst thys; simp only [List.map_cons, List.map_nil, Rows.uptoBulkAll] at hx
   obtain ⟨s, e_s, h_s, b_s⟩ := zAS underlying9 th0; injection e_s with e_s; subst e_s
   obtain ⟨o, c, l, e1, hs, hb⟩ := zDH th1; injection e1 with e1; subst e1
   obtain ⟨b, hbt, hbb⟩ := ih.1 _ _ _ (by omega) th2
   exact ⟨⟨s, l, b⟩, ⟨_, _, _, rfl, hs, hbt⟩, by simp only [Ar.name, Ar.vars, Ar.body]; omega⟩
theorem pg_open {H : Type} {enc : TypeId × Value → H} {W : World} {base : Nat} {spare : Nat → Bool} {held : Bool} {n : Nat} {cs : List Value} {x : DataW H × List MemPlace} (h : DataW.trod enc Tryd.prog W base spare held n 35 cs = some x) : ∃ p : Pg, PgR (zBD W) p cs ∧ zAs p.effects ≤ Rows.uptoBulk x.1 ∧ consN p.datas ≤ Rows.uptoBulk x.1 ∧ p.datas.length ≤ Rows.uptoBulk x.1 ∧ ZD p.body ≤ 2 * Rows.uptoBulk x.1 := by
 obtain ⟨tn, tys, thl, hx, thcl, thf⟩ := ZY underlying35 h
 obtain ⟨ty0, te0, th0⟩ := thf 0 _ rfl
 obtain ⟨ty1, te1, th1⟩ := thf 1 _ rfl
 obtain ⟨ty2, te2, th2⟩ := thf 2 _ rfl
 have thcl2 : (cs : List Value).length = 23 := thcl.trans (by kernel_rfl)
 obtain ⟨tc0, tc1, tc2, tc3, tc4, tc5, tc6, tc7, tc8, tc9, tc10, tc11, tc12, tc13, tc14, tc15, tc16, tc17, tc18, tc19, tc20, tc21, tc22, rfl⟩ : ∃ tc0 tc1 tc2 tc3 tc4 tc5 tc6 tc7 tc8 tc9 tc10 tc11 tc12 tc13 tc14 tc15 tc16 tc17 tc18 tc19 tc20 tc21 tc22, cs = [tc0, tc1, tc2, tc3, tc4, tc5, tc6, tc7, tc8, tc9, tc10, tc11, tc12, tc13, tc14, tc15, tc16, tc17, tc18, tc19, tc20, tc21, tc22] := by match cs, thcl2 with | [a0, a1, a2, a3, a4, a5, a6, a7, a8, a9, a10, a11, a12, a13, a14, a15, a16, a17, a18, a19, a20, a21, a22], _ => exact ⟨_, _, _, _, _, _, _, _, _, _, _, _, _, _, _, _, _, _, _, _, _, _, _, rfl⟩
 change DataW.trod enc Tryd.prog W base spare held tn 22 (([tc0, tc1, tc2, tc3, tc4, tc5, tc6, tc7, tc8, tc9, tc10, tc11, tc12, tc13, tc14, tc15, tc16, tc17, tc18, tc19, tc20, tc21, tc22].drop 0).take (Tryd.prog.cellsOf 22)) = some ty0 at th0
 rw [show Tryd.prog.cellsOf 22 = 1 by kernel_rfl] at th0
 change DataW.trod enc Tryd.prog W base spare held tn 22 [tc0] = some ty0 at th0
 change DataW.trod enc Tryd.prog W base spare held tn 23 (([tc0, tc1, tc2, tc3, tc4, tc5, tc6, tc7, tc8, tc9, tc10, tc11, tc12, tc13, tc14, tc15, tc16, tc17, tc18, tc19, tc20, tc21, tc22].drop 1).take (Tryd.prog.cellsOf 23)) = some ty1 at th1
 rw [show Tryd.prog.cellsOf 23 = 1 by kernel_rfl] at th1
 change DataW.trod enc Tryd.prog W base spare held tn 23 [tc1] = some ty1 at th1
 change DataW.trod enc Tryd.prog W base spare held tn 33 (([tc0, tc1, tc2, tc3, tc4, tc5, tc6, tc7, tc8, tc9, tc10, tc11, tc12, tc13, tc14, tc15, tc16, tc17, tc18, tc19, tc20, tc21, tc22].drop 2).take (Tryd.prog.cellsOf 33)) = some ty2 at th2
 rw [show Tryd.prog.cellsOf 33 = 21 by kernel_rfl] at th2
 change DataW.trod enc Tryd.prog W base spare held tn 33 [tc2, tc3, tc4, tc5, tc6, tc7, tc8, tc9, tc10, tc11, tc12, tc13, tc14, tc15, tc16, tc17, tc18, tc19, tc20, tc21, tc22] = some ty2 at th2
 have thys : tys = [ty0, ty1, ty2] := by
  match tys, thl with
  | [q0, q1, q2], _ => simp at te0 te1 te2; subst te0 te1 te2; rfl
 subst thys; simp only [List.map_cons, List.map_nil, Rows.uptoBulkAll] at hx
 obtain ⟨o, q, cc, l, el2, hsl, hc, bl⟩ := zAQ (R := fun m vs t => EfR m t vs) (β := fun e => e.ops.length) (sz := 2) (Rows.uptoBulk ty0.1) underlying22 (by kernel_rfl) (by omega) (fun n cs x hx9 ht _ => ef_open ht) th0 (Nat.le_refl _)
 obtain rfl := hsl.len
 injection el2 with el2; subst el2
 obtain ⟨o4, q4, c4, l4, el4, hsl4, hc4, bl4⟩ := zAQ (R := fun m vs t => DaR m t vs) (β := fun e => e.cons.length) (sz := 2) (Rows.uptoBulk ty1.1) underlying23 (by kernel_rfl) (by omega) (fun n cs x hx9 ht _ => da_open ht) th1 (Nat.le_refl _)
 obtain rfl := hsl4.len
 injection el4 with el4; subst el4
 obtain ⟨o5, q5, c5, l5, el5, hsl5, hc5, bl5⟩ := zAQ (R := fun m vs (t : Unit) => True) (β := fun _ => 1) (sz := 2) (Rows.uptoBulk ty1.1) underlying23 (by kernel_rfl) (by omega) (fun n cs x hx9 ht _ => ⟨(), trivial, zAm _⟩) th1 (Nat.le_refl _)
 have h5 := zCj l5
 have h6 : l5.length = l4.length := by have e := hsl5.len; injection el5 with el5 _; injection el5 with _ e2 _; omega
 obtain ⟨b, hbt, hbb⟩ := (tm_open _).1 _ _ _ (Nat.le_refl _) th2
 exact ⟨⟨l, l4, b⟩, ⟨_, _, _, _, _, rfl, hsl, hsl4, hbt⟩, by show (l.map fun e => e.ops.length).sum ≤ _; omega, by show (l4.map fun e => e.cons.length).sum ≤ _; omega, by show l4.length ≤ _; omega, by show ZD b ≤ _; omega⟩
theorem open_Pg {H : Type} {enc : TypeId × Value → H} {W : World} {base : Nat} {spare : Nat → Bool} {held : Bool} {r : Reach} {b0 : Nat} {v : Value} {d : DataW H} {ps : List MemPlace} (hval : Value.okWide Tryd.prog W r b0 35 v) (hd : DataW.Trod enc Tryd.prog W base spare held 35 v d ps) :
  ∃ vs p, v = .agg vs.toArray ∧ PgR (zBD W) p vs ∧ zAs p.effects ≤ Rows.uptoBulk d ∧ consN p.datas ≤ Rows.uptoBulk d ∧ p.datas.length ≤ Rows.uptoBulk d ∧ ZD p.body ≤ 2 * Rows.uptoBulk d := by
 obtain ⟨cs, rfl, _⟩ := okWide_struct underlying35 hval
 obtain ⟨fuel, hf⟩ := hd
 obtain ⟨p, h1, h2⟩ := pg_open hf
 exact ⟨cs.toList, p, rfl, h1, h2⟩
end Go.Proofs.YtmdhhjmomilhjaaDoor
namespace Go.Proofs.YtmdhhjmomilhjaaDoor
open Go.Proofs.Tryd
set_option linter.all false
set_option maxRecDepth 4000
open Go.RowKit
abbrev theLaid : List (String × DataW Unit) := Rows.lowerTellsRow.laid
theorem table {W : World} (h : laidMetH Tryd.prog theLaid W) : Tab W := by
 rw [Go.MakeChecks.laidMetH_plain _ _ _ (by kernel_rfl)] at h
 have h2 := h.filter (fun x => x.1 == "internal/strconv.uint64pow10")
 have e : (theLaid.filter fun x => x.1 == "internal/strconv.uint64pow10") = [("internal/strconv.uint64pow10", Go.Lib.tabData .u64 Go.Lib.pow10Tab)] := by kernel_rfl
 rw [e] at h2
 exact Go.Lib.tabIs_of_head (g := 0) (rest := []) (by kernel_rfl) (by kernel_rfl) underlying162 underlying153 (by kernel_rfl) (by kernel_rfl) h2
def litV : DataW Unit → Value
 | .lit (.int k n) => .int k n
 | _ => undef
def zEB : DataW Unit → Array Value
 | .agg l => (l.map litV).toArray
 | _ => #[]
def layTab (h : Array Obj) (g : Nat) (cs : Array Value) : Array Obj := h.modify g fun
 | .cells _ t f => .cells cs t f
 | o => o
noncomputable def zDO (os : Go.Os) : World :=
 { World.holding Tryd.prog os ⟨#[], #[], []⟩ with heap := layTab (layTab (layTab ((World.holding Tryd.prog os ⟨#[], #[], []⟩).heap) 1 (zEB (Rows.laid_math_bits_deBruijn32tab (H := Unit)))) 2 (zEB (Rows.laid_math_bits_deBruijn64tab (H := Unit)))) 0 (zEB (Rows.laid_internal_strconv_uint64pow10 (H := Unit))) }
end Go.Proofs.YtmdhhjmomilhjaaDoor
namespace Go.Proofs.YtmdhhjmomilhjaaDoor
open Go.Proofs.Tryd
set_option linter.all false
set_option maxRecDepth 4000
open Go.ChangeShapes Go.WideShapes Go.ChangeAt Go.RowKit Go.Deep
open Go.WideElems Go.ChangeMaps
theorem rws_arg {H : Type} {enc : TypeId × Value → H} {W : World} {base : Nat} {spare : Nat → Bool} {held : Bool} {r : Reach} {b0 : Nat} {v : Value} {d : DataW H} {ps : List MemPlace} (hval : Value.okWide Tryd.prog W r b0 36 v) (hd : DataW.Trod enc Tryd.prog W base spare held 36 v d ps) :
  ∃ o c l, v = .slice o l.length c ∧ Rws (zBD W) o l.length c l := by
 obtain ⟨o, n, c, rfl⟩ := okWide_slice underlying36 hval
 obtain ⟨fuel, hf⟩ := hd
 obtain ⟨o', q, c', l, e1, hsl, hc, bl⟩ := zAQ (R := fun m vs r => RwR m r vs) (β := fun _ => 0) (sz := 2) (Rows.uptoBulk d) underlying36 (by kernel_rfl) (by omega)
  (fun n cs x _ ht _ => by obtain ⟨q, h1⟩ := rw_open ht; exact ⟨q, h1, Nat.zero_le _⟩) hf (Nat.le_refl _)
 simp only [Value.cells, List.cons.injEq, and_true] at e1
 obtain rfl := hsl.len
 rw [e1]
 exact ⟨o', c', l, rfl, hsl⟩
theorem op_arg {H : Type} {enc : TypeId × Value → H} {W : World} {base : Nat} {spare : Nat → Bool} {held : Bool} {r : Reach} {b0 : Nat} {v : Value} {d : DataW H} {ps : List MemPlace} (hval : Value.okWide Tryd.prog W r b0 38 v) (hd : DataW.Trod enc Tryd.prog W base spare held 38 v d ps) : ∃ a b : Bool, v = .agg #[.bool a, .bool b] := by
 obtain ⟨cs, rfl, _⟩ := okWide_struct underlying38 hval
 obtain ⟨fuel, hf⟩ := hd
 obtain ⟨cs9, rfl⟩ : ∃ l : List Value, cs = l.toArray := ⟨cs.toList, by simp⟩
 have hx9 : True := trivial
 obtain ⟨fuel, hf⟩ : ∃ n, DataW.trod enc Tryd.prog W base spare held n 38 cs9 = some (d, ps) := ⟨fuel, by simpa [Value.cells] using hf⟩
 obtain ⟨sn, sys, shl, hx9, shcl, shf⟩ := ZY underlying38 hf
 obtain ⟨sy0, se0, sh0⟩ := shf 0 _ rfl
 obtain ⟨sy1, se1, sh1⟩ := shf 1 _ rfl
 have shcl2 : (cs9 : List Value).length = 2 := shcl.trans (by kernel_rfl)
 obtain ⟨sc0, sc1, rfl⟩ : ∃ sc0 sc1, cs9 = [sc0, sc1] := by match cs9, shcl2 with | [a0, a1], _ => exact ⟨_, _, rfl⟩
 change DataW.trod enc Tryd.prog W base spare held sn 4 (([sc0, sc1].drop 0).take (Tryd.prog.cellsOf 4)) = some sy0 at sh0
 rw [show Tryd.prog.cellsOf 4 = 1 by kernel_rfl] at sh0
 change DataW.trod enc Tryd.prog W base spare held sn 4 [sc0] = some sy0 at sh0
 change DataW.trod enc Tryd.prog W base spare held sn 4 (([sc0, sc1].drop 1).take (Tryd.prog.cellsOf 4)) = some sy1 at sh1
 rw [show Tryd.prog.cellsOf 4 = 1 by kernel_rfl] at sh1
 change DataW.trod enc Tryd.prog W base spare held sn 4 [sc1] = some sy1 at sh1
 have shys : sys = [sy0, sy1] := by
  match sys, shl with
  | [q0, q1], _ => simp at se0 se1; subst se0 se1; rfl
 subst shys; simp only [List.map_cons, List.map_nil, Rows.uptoBulkAll] at hx9
 obtain ⟨a, e0, _⟩ := DataW.trod_bool underlying4 sh0; injection e0 with e0; subst e0
 obtain ⟨b, e1, _⟩ := DataW.trod_bool underlying4 sh1; injection e1 with e1; subst e1
 exact ⟨a, b, rfl⟩
theorem lowerAtoms_own : ownKnob Tryd.prog.godebug = none := by kernel_rfl
theorem lowerAtoms_laid : laidOutB Tryd.prog = true := by kernel_rfl
set_option maxRecDepth 100000 in
theorem lowerAtoms_contract (H : Type) (enc : TypeId × Value → H) (W : World) (base : Nat) (args : Array Value) (ds gs : List (DataW H)) (before : List MemPlace)
  (hval : ∀ (j : Nat) t v, Tryd.f4.params[j]? = some t → args[j]? = some v → Value.okWide Tryd.prog W .any base t v)
  (hW : DataW.Whole enc Tryd.prog Tryd.f4.params.toList Rows.lowerAtomsSpec.vars false W args.toList ds gs before) (hc : ∀ k, (Rows.OpenSpec.upto Rows.lowerAtomsSpec).cond = some k → k H (ds ++ gs) = true) (hL : laidMetH Tryd.prog Rows.lowerAtomsUptoRow.laid W) :
  Calls Tryd.prog 4 args W fun e W' => ∃ v, e = .returned v ∧ Rows.lowerAtomsSpec.post enc Tryd.prog Tryd.f4 false true false false W args v W' := by
 have hW' := hW
 obtain ⟨p, q, hA0, hV, rfl, hfz, hnd⟩ := hW
 have hA : DataW.TrodAll enc Tryd.prog W 0 (fun _ => true) true Tryd.f4.params.toList args.toList ds p := hA0
 rw [Tryd.params4] at hA hval
 obtain ⟨v0, vs0, d0, ds0, p0, q0, e0, rfl, rfl, h0, hA0⟩ := trodAll_cons hA
 obtain ⟨v1, vs1, d1, ds1, p1, q1, e1, rfl, rfl, h1, hA1⟩ := trodAll_cons hA0
 obtain ⟨v2, vs2, d2, ds2, p2, q2, e2, rfl, rfl, h2, hA2⟩ := trodAll_cons hA1
 obtain ⟨v3, vs3, d3, ds3, p3, q3, e3, rfl, rfl, h3, hA3⟩ := trodAll_cons hA2
 obtain ⟨e4, rfl, rfl⟩ := trodAll_nil hA3
 subst e4 e3 e2 e1
 obtain rfl : args = #[v0, v1, v2, v3] := Array.toList_inj.1 e0
 obtain ⟨rfl, rfl⟩ := trodVars_none hV
 have hbulk : Rows.uptoBulkAll [d0, d1, d2, d3] ≤ 1048576 := by have := hc _ rfl; simpa [Rows.uptoSmall] using this
 obtain ⟨vs_p, p, rfl, hv_p, hq1_p, hq2_p, hq3_p, hq4_p⟩ := open_Pg (hval 0 35 v0 rfl rfl) h0
 obtain ⟨n, rfl, hn_⟩ := open_I underlying3 (hval 1 3 v1 rfl rfl) h1
 obtain ⟨o_l, c_l, l, rfl, hs_l⟩ := rws_arg (hval 2 36 v2 rfl rfl) h2
 obtain ⟨sel, tl, rfl⟩ := op_arg (hval 3 38 v3 rfl rfl) h3
 have hA0 := agree_snap W
 have hT : Tab W := table hL
 simp only [Rows.uptoBulkAll] at hbulk
 refine Calls.mono (lowerAtoms_c (n := n) (sel := sel) (tl := tl) hA0 hv_p hs_l hT (by omega) (by omega) (by omega) (by omega)) fun e W' ⟨v, m', he, hx, hv⟩ => ?_
 subst hv
 exact ⟨_, he, post_law lowerAtoms_laid (by kernel_rfl) rfl rfl underlying4 rfl hW' hx⟩
theorem lowerAtoms_laidmet (os : Go.Os) : laidMetH Tryd.prog Rows.lowerAtomsUptoRow.laid ((zDO os).forCall (fun _ _ => 0) ⟨#[], #[.agg #[.slice none 0 0, .slice none 0 0, .int .i64 0, .int .i64 0, .string ⟨#[]⟩, .string ⟨#[]⟩, .int .i64 0, .slice none 0 0, .slice none 0 0, .int .i64 0, .string ⟨#[]⟩, .int .i64 0, .slice none 0 0, .slice none 0 0, .int .i64 0, .slice none 0 0, .int .i64 0, .int .i64 0, .string ⟨#[]⟩, .int .i64 0, .slice none 0 0, .slice none 0 0, .int .i64 0], .int .i64 0, .slice none 0 0, .agg #[.bool false, .bool false]], []⟩).memory :=
 laidMet_of_run' 8 (by kernel_rfl) (by kernel_rfl)
theorem lowerAtoms_reads (os : Go.Os) {H : Type} (enc : TypeId × Value → H) : ∃ places, DataW.whole enc Tryd.prog ((zDO os).forCall (fun _ _ => 0) ⟨#[], #[.agg #[.slice none 0 0, .slice none 0 0, .int .i64 0, .int .i64 0, .string ⟨#[]⟩, .string ⟨#[]⟩, .int .i64 0, .slice none 0 0, .slice none 0 0, .int .i64 0, .string ⟨#[]⟩, .int .i64 0, .slice none 0 0, .slice none 0 0, .int .i64 0, .slice none 0 0, .int .i64 0, .int .i64 0, .string ⟨#[]⟩, .int .i64 0, .slice none 0 0, .slice none 0 0, .int .i64 0], .int .i64 0, .slice none 0 0, .agg #[.bool false, .bool false]], []⟩).memory Tryd.f4.params.toList Rows.lowerAtomsSpec.vars false #[.agg #[.slice none 0 0, .slice none 0 0, .int .i64 0, .int .i64 0, .string ⟨#[]⟩, .string ⟨#[]⟩, .int .i64 0, .slice none 0 0, .slice none 0 0, .int .i64 0, .string ⟨#[]⟩, .int .i64 0, .slice none 0 0, .slice none 0 0, .int .i64 0, .slice none 0 0, .int .i64 0, .int .i64 0, .string ⟨#[]⟩, .int .i64 0, .slice none 0 0, .slice none 0 0, .int .i64 0], .int .i64 0, .slice none 0 0, .agg #[.bool false, .bool false]].toList 30 = some ([.agg [.nil, .nil, .agg [.lit (.int .i64 0), .lit (.int .i64 0), .lit (.string []), .lit (.string []), .lit (.int .i64 0), .nil, .nil, .agg [.lit (.int .i64 0), .lit (.string []), .lit (.int .i64 0), .nil, .agg [.nil, .lit (.int .i64 0)]], .agg [.nil, .lit (.int .i64 0)], .agg [.lit (.int .i64 0), .lit (.string []), .lit (.int .i64 0), .nil, .agg [.nil, .lit (.int .i64 0)]]]], .lit (.int .i64 0), .nil, .agg [.lit (.bool false), .lit (.bool false)]], [], places) :=
 ⟨[], by kernel_rfl⟩
set_option maxRecDepth 100000 in
theorem lowerAtoms_lifted (os : Go.Os) (started : os.Started) (H : Type) (enc : TypeId × Value → H) (F : Stop.Interp) :
  ReturnsInHanded {} Tryd.checked os 4 .any ((Rows.OpenSpec.upto Rows.lowerAtomsSpec).preRow enc Tryd.prog Tryd.f4 Rows.lowerAtomsUptoRow.domain false Rows.lowerAtomsUptoRow.laid) (((Rows.OpenSpec.upto Rows.lowerAtomsSpec).at F).post enc Tryd.prog Tryd.f4 false true false false) := by
 obtain ⟨places, hx⟩ := lowerAtoms_reads os enc
 refine returnsInHanded_of_row (C := Tryd.checked) (s := (Rows.OpenSpec.upto Rows.lowerAtomsSpec)) lowerAtoms_own started (by kernel_rfl) func4
  (witness_row_at (enc := enc) (C := Tryd.checked) false (zDO os) #[.agg #[.slice none 0 0, .slice none 0 0, .int .i64 0, .int .i64 0, .string ⟨#[]⟩, .string ⟨#[]⟩, .int .i64 0, .slice none 0 0, .slice none 0 0, .int .i64 0, .string ⟨#[]⟩, .int .i64 0, .slice none 0 0, .slice none 0 0, .int .i64 0, .slice none 0 0, .int .i64 0, .int .i64 0, .string ⟨#[]⟩, .int .i64 0, .slice none 0 0, .slice none 0 0, .int .i64 0], .int .i64 0, .slice none 0 0, .agg #[.bool false, .bool false]] rfl (by kernel_rfl) (by kernel_rfl) (by kernel_rfl)
   (OpenSpec.preRow_of_cond 30 hx (by kernel_rfl) (fun k hk => by cases hk; kernel_rfl) (by kernel_rfl) (lowerAtoms_laidmet os))) ?_
 intro W base args ds gs before hval hW _ hc _ hL _ _
 exact lowerAtoms_contract H enc W base args ds gs before hval hW hc hL
theorem lowerAtoms_said : Rows.LowerAtomsUptoSaid :=
 OpenClaim.holds_of_cond 4 Tryd.f4 rfl rfl rfl rfl rfl rfl rfl ⟨rfl, rfl, rfl, rfl, rfl⟩ rfl rfl rfl rfl rfl (by kernel_rfl) func4 (by kernel_rfl)
  (of_decide_eq_true (by kernel_rfl)) (by unfold Func.isWrapper; first | (rw [if_pos (by decide +kernel)]; kernel_rfl) | (rw [if_neg (by decide +kernel)]; exact ⟨rfl, rfl⟩))
  (fun os started H enc _ F => by rw [OpenClaim.pre_eq_preRow]; exact lowerAtoms_lifted os started H enc F)
theorem lowerAtoms_plain (f : FuncId) (fn : Func) (hf : Tryd.pinned.checked.prog.funcNamed "brocade/brocadelaw17.LowerAtoms" = some f) (hfn : Tryd.pinned.checked.prog.funcs[f]? = some fn) :
  false = Tryd.pinned.checked.prog.looks [] ∧ ∀ (j : Nat) t, fn.params[j]? = some t → Tryd.pinned.checked.prog.wantsStandIn t = false := by
 obtain rfl : f = 4 := Option.some.inj ((show Tryd.prog.funcNamed "brocade/brocadelaw17.LowerAtoms" = some 4 by kernel_rfl).symm.trans hf) |>.symm
 obtain rfl : fn = Tryd.f4 := (Option.some.inj (func4.symm.trans hfn)).symm
 refine ⟨by kernel_rfl, fun j t ht => ?_⟩
 rw [Tryd.params4] at ht
 have hm : t ∈ [35, 3, 36, 38] := by simpa using Array.mem_of_getElem? ht
 have hall : ([35, 3, 36, 38].all fun u => !Tryd.prog.wantsStandIn u) = true := by kernel_rfl
 exact (show Tryd.prog.wantsStandIn t = false by simpa using List.all_eq_true.1 hall t hm)
theorem lowerAtoms_holds : Rows.LowerAtomsUptoCardSaid :=
 Claim7.holds_tied_plain_at .later [] _ _ _ _ lowerAtoms_said (fun _ h => by cases h) (by kernel_rfl) (fun _ h => by cases h) lowerAtomsUpto_row_tie rfl ⟨rfl, rfl⟩ (by kernel_rfl) rfl lowerAtoms_plain (by kernel_rfl)
end Go.Proofs.YtmdhhjmomilhjaaDoor
