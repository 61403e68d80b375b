/-
  Texts that the law rests on: Terms1, Terms2, Names1, Part1, Range, Mapx. Conditions: those of each theorem.
-/
import Derived.Test.YtmdhhjmomilhjaaDoorSqB
import Derived.Lib.SliceRun
namespace Go.Proofs.YtmdhhjmomilhjaaDoor
open Go.Proofs.Tryd
set_option linter.all false
set_option maxRecDepth 4000
open Go.RowKit
def uS : Str := [95]
mutual
def Ze (s : Str) : Tm → Nat
 | ⟨k, _, nm, p, _, ks, az, _⟩ => if k = 1 then (if nm = s then 1 else 0) else zAL s (z1 k nm p) 0 ks + zAN s az
def zAL (s : Str) (f : Nat → List Str) : Nat → List Tm → Nat
 | _, [] => 0
 | i, t :: ts => (if s = uS ∨ ¬ s ∈ f i then Ze s t else 0) + zAL s f (i + 1) ts
def zAN (s : Str) : List Ar → Nat
 | [] => 0
 | ⟨_, l, b⟩ :: ts => (if s = uS ∨ ¬ s ∈ l then Ze s b else 0) + zAN s ts
end
theorem zCg (s : Str) (t : Tm) : Ze s t = if t.kind = 1 then (if t.name = s then 1 else 0) else zAL s (z1 t.kind t.name t.param) 0 t.kids + zAN s t.arms := by obtain ⟨k, a, s', p, n, ks, az, r⟩ := t; rw [Ze]; rfl
theorem zBs (s : Str) (a : Ar) (ts : List Ar) : zAN s (a :: ts) = (if s = uS ∨ ¬ s ∈ a.vars then Ze s a.body else 0) + zAN s ts := by obtain ⟨x, l, b⟩ := a; rw [zAN]; rfl
theorem zBi (s : Str) (t : Tm) : Ze s t ≤ zP t := by
 induction t using Tm.rec_ with
 | h t ihk iha =>
  have hk : ∀ (l : List Tm), (∀ u ∈ l, u ∈ t.kids) → ∀ f i, zAL s f i l ≤ zR l := by
   intro l
   induction l with
   | nil => intro _ f i; simp [zAL]
   | cons u l ih => intro hl f i; rw [zAL, zR]; have := ihk u (hl u (.head _)); have := ih (fun u hu => hl u (.tail _ hu)) f (i + 1); split <;> omega
  have ha : ∀ (l : List Ar), (∀ u ∈ l, u ∈ t.arms) → zAN s l ≤ zo l := by
   intro l
   induction l with
   | nil => intro _; simp [zAN]
   | cons u l ih => intro hl; rw [zBs, ZD]; have := iha u (hl u (.head _)); have := ih (fun u hu => hl u (.tail _ hu)); split <;> omega
  rw [zCg, zr]
  have := hk t.kids (fun _ h => h) (z1 t.kind t.name t.param) 0
  have := ha t.arms (fun _ h => h)
  split
  ·split <;> omega
  ·omega
def Z2 (t : Tm) : Str := if t.kind = 8 then t.param else []
def zAX (t : Tm) : Int := if t.kind = 2 ∨ t.kind = 3 then t.n else 0
def zAF (t : Tm) : Str := if t.kind = 2 ∨ t.kind = 3 ∨ t.kind = 4 ∨ t.kind = 6 ∨ t.kind = 9 ∨ t.kind = 12 then [] else t.name
mutual
def ZK : Tm → Tm
 | ⟨k, a, s, p, n, ks, az, r⟩ => ⟨k, a, if k = 2 ∨ k = 3 ∨ k = 4 ∨ k = 6 ∨ k = 9 ∨ k = 12 then [] else s, if k = 8 then p else [], if k = 2 ∨ k = 3 then n else 0, zCf ks, zCb az, r⟩
def zCf : List Tm → List Tm
 | [] => []
 | t :: ts => ZK t :: zCf ts
def zCb : List Ar → List Ar
 | [] => []
 | ⟨s, l, b⟩ :: ts => ⟨s, l, ZK b⟩ :: zCb ts
end
def zAW (a : Ar) : Ar := ⟨a.name, a.vars, ZK a.body⟩
theorem zDH : ∀ l : List Tm, zCf l = l.map ZK
 | [] => by simp [zCf]
 | t :: ts => by simp [zCf, zDH ts]
theorem zDA : ∀ l : List Ar, zCb l = l.map zAW
 | [] => by simp [zCb]
 | ⟨s, v, b⟩ :: ts => by simp [zCb, zDA ts, zAW, Ar.name, Ar.vars, Ar.body]
theorem zAo (t : Tm) : ZK t = ⟨t.kind, t.at_, zAF t, Z2 t, zAX t, t.kids.map ZK, t.arms.map zAW, t.row⟩ := by
 obtain ⟨k, a, s, p, n, ks, az, r⟩ := t; rw [ZK, zDH, zDA]; rfl
inductive PtT : Tm → Tm → Prop where
 | refl (t : Tm) : PtT t t
 | kid {x u t : Tm} (h : u ∈ t.kids) (hs : PtT x u) : PtT x t
 | arm {x t : Tm} {a : Ar} (h : a ∈ t.arms) (hs : PtT x a.body) : PtT x t
theorem RtT.clean {t : Tm} (h : RtT t) : RtT (ZK t) := by
 induction t using Tm.rec_ with
 | h t ihk iha =>
  rw [zAo]
  refine .mk ?_ (fun u hu => ?_) (fun a ha => ?_)
  ·have := h.here
   unfold zCy at this ⊢
   simpa [Tm.kind, Tm.kids, Tm.arms] using this
  ·simp only [Tm.kids, List.mem_map] at hu
   obtain ⟨v, hv, rfl⟩ := hu
   exact ihk v hv (h.kid hv)
  ·simp only [Tm.arms, List.mem_map] at ha
   obtain ⟨b, hb, rfl⟩ := ha
   exact iha b hb (h.arm hb)
theorem RtT.sub {x t : Tm} (hs : PtT x t) (h : RtT t) : RtT x := by
 induction hs with
 | refl => exact h
 | kid hu _ ih => exact ih (h.kid hu)
 | arm ha _ ih => exact ih (h.arm ha)
def Zv : Tm := ⟨0, 0, [], [], 0, [], [], ⟨[], 0⟩⟩
theorem zBz {m : Mem} : TmR m Zv (tmV Zv (TmY.zero none 0 none 0)) := TmR.build TmY.zero_one Sl.empty Sl.empty ⟨_, _, rfl, Sl.empty, ⟨by decide, by decide⟩⟩
theorem cleanT_count (t : Tm) : zP (ZK t) = zP t := by
 induction t using Tm.rec_ with
 | h t ihk iha =>
  rw [zAo, zr, zr t]
  have hk : ∀ (l : List Tm), (∀ u ∈ l, zP (ZK u) = zP u) → zR (l.map ZK) = zR l := by
   intro l
   induction l with
   | nil => intro _; rfl
   | cons u l ih => intro h; rw [List.map_cons, zR, zR, h u (.head _), ih fun v hv => h v (.tail _ hv)]
  have ha : ∀ (l : List Ar), (∀ u ∈ l, zP (ZK u.body) = zP u.body) → zo (l.map zAW) = zo l := by
   intro l
   induction l with
   | nil => intro _; rfl
   | cons u l ih => intro h; rw [List.map_cons, ZD, ZD, ih fun v hv => h v (.tail _ hv)]; show zP (ZK u.body) + _ = _; rw [h u (.head _)]
  show 1 + zR (t.kids.map ZK) + zo (t.arms.map zAW) = _
  rw [hk _ ihk, ha _ iha]
theorem PtT.count {x t : Tm} (hs : PtT x t) : zP x ≤ zP t := by
 have hkm : ∀ {l : List Tm} {u : Tm}, u ∈ l → zP u ≤ zR l := by
  intro l u h
  induction l with
  | nil => cases h
  | cons v l ih => rw [zR]; cases h with
   | head => omega
   | tail _ h => have := ih h; omega
 have ham : ∀ {l : List Ar} {u : Ar}, u ∈ l → zP u.body ≤ zo l := by
  intro l u h
  induction l with
  | nil => cases h
  | cons v l ih => rw [ZD]; cases h with
   | head => omega
   | tail _ h => have := ih h; omega
 induction hs with
 | refl => exact Nat.le_refl _
 | @kid u t hu _ ih => have := zr t; have := hkm hu; omega
 | @arm t a ha _ ih => have := zr t; have := ham ha; omega
theorem countM_bulk (t : Tm) : zP t ≤ zt t := by
 induction t using Tm.rec_ with
 | h t ihk iha =>
  rw [zr, Zi]
  have hk : ∀ (l : List Tm), (∀ u ∈ l, zP u ≤ zt u) → zR l ≤ zAG l := by
   intro l
   induction l with
   | nil => intro _; simp [zR]
   | cons u l ih => intro h; rw [zR, zAG]; have := h u (.head _); have := ih fun v hv => h v (.tail _ hv); omega
  have ha : ∀ (l : List Ar), (∀ u ∈ l, zP u.body ≤ zt u.body) → zo l ≤ Zy l := by
   intro l
   induction l with
   | nil => intro _; simp [zo]
   | cons u l ih => intro h; obtain ⟨n_, v_, b_⟩ := u; rw [zo, Zy]; have := h ⟨n_, v_, b_⟩ (.head _); have := ih fun v hv => h v (.tail _ hv); simp only [Ar.body] at *; omega
  have := hk _ ihk; have := ha _ iha; omega
theorem cleanT_bulk (t : Tm) : zt (ZK t) ≤ zt t := by
 induction t using Tm.rec_ with
 | h t ihk iha =>
  rw [zAo, Zi, Zi t]
  have hk : ∀ (l : List Tm), (∀ u ∈ l, zt (ZK u) ≤ zt u) → zAG (l.map ZK) ≤ zAG l := by
   intro l
   induction l with
   | nil => intro _; exact Nat.le_refl _
   | cons u l ih => intro h; rw [List.map_cons, zAG, zAG]; have := h u (.head _); have := ih fun v hv => h v (.tail _ hv); omega
  have ha : ∀ (l : List Ar), (∀ u ∈ l, zt (ZK u.body) ≤ zt u.body) → Zy (l.map zAW) ≤ Zy l := by
   intro l
   induction l with
   | nil => intro _; exact Nat.le_refl _
   | cons u l ih =>
    intro h
    obtain ⟨n_, v_, b_⟩ := u
    rw [List.map_cons, Zy]
    have h1 := h ⟨n_, v_, b_⟩ (.head _); have h2 := ih fun v hv => h v (.tail _ hv)
    show Zy (⟨n_, v_, ZK b_⟩ :: l.map zAW) ≤ _
    rw [Zy]
    simp only [Ar.body] at h1; omega
  show 3 + (zAF t).length + (Z2 t).length + zAG (t.kids.map ZK) + Zy (t.arms.map zAW) ≤ _
  have h1 := hk _ ihk; have h2 := ha _ iha
  have h3 : (zAF t).length ≤ t.name.length := by unfold zAF; split <;> simp
  have h4 : (Z2 t).length ≤ t.param.length := by unfold Z2; split <;> simp
  omega
theorem PtT.bulk {x t : Tm} (hs : PtT x t) : zt x ≤ zt t := by
 induction hs with
 | refl => exact Nat.le_refl _
 | @kid u t hu _ ih => have := bulk_kid hu; omega
 | @arm t a ha _ ih => have := bulk_arm ha; omega
def MP.atB (t : Tm) (n : Int) : MP := MP.mem (fun y : (Tm × TmY) × Int × Bool => .tuple #[.agg (tmV y.1.1 y.1.2).toArray, .int .i64 y.2.1, .bool y.2.2]) (fun y m => TmR m y.1.1 (tmV y.1.1 y.1.2) ∧ (0 ≤ y.2.1 ∧ y.2.1 ≤ n) ∧ (PtT y.1.1 t ∨ y.1.1 = Zv)) fun hm h => ⟨h.1.mono hm, h.2⟩
abbrev uses_G (t : Tm) : Prop := ∀ {w : World} {m : Mem} {vs_t : List Value} {s : Str} (hA : Agree w m) (h_t : TmR m t vs_t) (hb : zP t ≤ 1073741824), FnV Tryd.prog 52 #[.agg vs_t.toArray, S s] w m (fun _ _ v => v = .int .i64 (Ze s t : Int))
set_option maxHeartbeats 400000 in
theorem uses_s {t : Tm} (ihk : ∀ u ∈ t.kids, uses_G u) (iha : ∀ a ∈ t.arms, uses_G a.body) {w : World} {m : Mem} {vs_t : List Value} {s : Str} (hA : Agree w m) (h_t : TmR m t vs_t) (hb : zP t ≤ 1073741824) : FnV Tryd.prog 52 #[.agg vs_t.toArray, S s] w m (fun _ _ v => v = .int .i64 (Ze s t : Int)) := by
 obtain ⟨⟨oK_t, cK_t, oA_t, cA_t, oR_t, cR_t, t0_t, t1_t, t2_t, t3_t, t4_t, t5_t, u0_t, u1_t, u2_t, u3_t, u4_t, u5_t⟩, rfl, hon_t, hkk_t, haa_t, hrr_t⟩ := h_t.open_
 dsimp only at hkk_t haa_t hrr_t
 have hbg_t := hkk_t.big; have hcp_t := hkk_t.cap; have hbh_t := haa_t.big; have hcq_t := haa_t.cap
 refine zX (vs := [_, _]) func52 rfl rfl rfl fun a0 hfr0 => ?_
 have hst0 := zW hA (zf [] _ w m)
 have hM : MLe m m := MLe.refl m
 have hce := zr t
 have hue := zCg s t
 have hul := zBi s t
 refine zB fun _ hK1 => ?_
 refine rp0 hst0 hfr0 (.cons rfl (zv rfl rfl) <| .cons rfl (zC rfl) <| .nil) fun a1 w1 m1 hst1 hle1 hk1 => ?_
 have hfr1 := hk1.fr (.o 1 <| .nil)
 obtain ⟨g2, e2, hc2⟩ := hk1.ex 2 rfl
 replace hfr1 := hfr1.cons e2
 replace h_t := h_t.mono hle1
 replace hkk_t := hkk_t.mono hle1
 replace haa_t := haa_t.mono hle1
 replace hrr_t := hrr_t.mono hle1
 clear hst0 hfr0 hk1
 refine hK1 _ _ ?_
 refine zB fun _ hK3 => ?_
 refine zB fun _ hK4 => ?_
 refine rp0 hst1 hfr1 (.cons rfl (zA (off := 0) rfl underlying33 rfl rfl sizeOf3 rfl) <| .cons rfl (zE rfl hc2 isAgg3 rfl) <| .cons rfl (zV rfl rfl) <| .nil) fun a2 w2 m2 hst2 hle2 hk2 => ?_
 have hfr2 := hk2.fr (.o 1 <| .o 2 <| .n 11 <| .nil)
 replace h_t := h_t.mono hle2
 replace hkk_t := hkk_t.mono hle2
 replace haa_t := haa_t.mono hle2
 replace hrr_t := hrr_t.mono hle2
 replace hc2 := hc2.mono hle2
 clear hst1 hfr1 hk2
 refine hK4 _ _ ?_
 refine zG hfr2 rfl rfl (fun hb11 => ?_) (fun hb11 => ?_)
 ·try simp only [nqs] at hb11
  rw [if_pos hb11] at hue
  refine zB fun _ hK5 => ?_
  refine zB fun _ hK6 => ?_
  refine rp0 hst2 hfr2 (.cons rfl (zA (off := 2) rfl underlying33 rfl rfl sizeOf9 rfl) <| .cons rfl (zE rfl hc2 isAgg9 rfl) <| .cons rfl (zD rfl) <| .cons rfl (z6 rfl rfl) <| .nil) fun a3 w3 m3 hst3 hle3 hk3 => ?_
  have hfr3 := hk3.fr (.n 15 <| .nil)
  clear hst2 hfr2 hk3
  refine hK6 _ _ ?_
  refine zG hfr3 rfl rfl (fun hb15 => ?_) (fun hb15 => ?_)
  ·try simp only [nqs] at hb15
   rw [if_pos hb15] at hue
   refine zB fun _ hK7 => ?_
   refine rp0 hst3 hfr3 (.cons rfl (zC rfl) <| .nil) fun a4 w4 m4 hst4 hle4 hk4 => ?_
   have hfr4 := hk4.fr (.n 4 <| .nil)
   clear hst3 hfr3 hk4
   refine hK7 _ _ ?_
   refine zK ?_
   repeat (with_reducible first | refine zI ?_ | refine zF ?_)
   exact zL hst4 hfr4 rfl (.tmp rfl <| .nil) (by refine congrArg (Value.int _) ?_; omega)
  ·try simp only [nqs] at hb15
   rw [if_neg hb15] at hue
   refine zJ ?_
   refine hK5 _ _ ?_
   refine zB fun _ hK9 => ?_
   refine rp0 hst3 hfr3 (.cons rfl (zC rfl) <| .nil) fun a4 w4 m4 hst4 hle4 hk4 => ?_
   have hfr4 := hk4.fr (.n 4 <| .nil)
   clear hst3 hfr3 hk4
   refine hK9 _ _ ?_
   refine zK ?_
   repeat (with_reducible first | refine zI ?_ | refine zF ?_)
   exact zL hst4 hfr4 rfl (.tmp rfl <| .nil) (by refine congrArg (Value.int _) ?_; omega)
 ·try simp only [nqs] at hb11
  rw [if_neg hb11] at hue
  refine zJ ?_
  refine hK3 _ _ ?_
  refine zB fun _ hK11 => ?_
  refine rp0 hst2 hfr2 (.cons rfl (zC rfl) <| .nil) fun a3 w3 m3 hst3 hle3 hk3 => ?_
  have hfr3 := hk3.fr (.o 1 <| .o 2 <| .n 5 <| .nil)
  clear hst2 hfr2 hk3
  refine hK11 _ _ ?_
  refine zB fun _ hK12 => ?_
  refine zB fun _ hK13 => ?_
  refine rp0 hst3 hfr3 (.cons rfl (zC rfl) <| .nil) fun a4 w4 m4 hst4 hle4 hk4 => ?_
  have hfr4 := hk4.fr (.o 1 <| .o 2 <| .o 5 <| .n 6 <| .nil)
  clear hst3 hfr3 hk4
  refine hK13 _ _ ?_
  refine zN ?_
  refine ze (T := [(1, _), (2, _)]) (fun (y : Nat × Int) => ([(5, .int .i64 y.2), (6, .int .i64 (y.1 : Int))] : List (Nat × Value))) (fun _ => _) (fun (y : Nat × Int) m => (fun (y : Nat) (a : Int) => (y ≤ t.kids.length) ∧ (a + zAL s (z1 t.kind t.name t.param) y (t.kids.drop y) + zAN s t.arms = (Ze s t : Int)) ∧ (0 ≤ a) ∧ (zR (t.kids.drop y) ≤ zR t.kids)) y.1 y.2) (fun y => t.kids.length - y.1) ((0, 0)) ⟨hst4, MLe.refl _, hfr4.sub (.c <| .c <| .c <| .c <| .nil), ⟨Nat.zero_le _, by show (0 : Int) + ((zAL s (z1 t.kind t.name t.param) 0 (t.kids.drop 0) : Nat) : Int) + _ = _; rw [List.drop_zero]; omega, by omega, Nat.le_refl _⟩⟩ fun y a5 w5 m5 hh5 => ?_
  have hst5 := hh5.st; have hle5 := hh5.le; have hfr5 := hh5.fr; have hrel := hh5.rel; clear hh5
  clear hst4 hfr4
  obtain ⟨y, a⟩ := y
  dsimp only at hrel hfr5 hst5
  obtain ⟨hyn, ha, ha0, hck⟩ := hrel
  have hlh5 := hle5
  refine zB fun _ hK15 => ?_
  refine zB fun _ hK16 => ?_
  have zq1 := hle4.trans hle5
  have zq2 := hle3.trans zq1
  replace hc2 := hc2.mono zq2
  refine rp0 hst5 hfr5 (.cons rfl (zD rfl) <| .cons rfl (zA (off := 5) rfl underlying33 rfl rfl sizeOf24 rfl) <| .cons rfl (zE rfl hc2 isAgg24 rfl) <| .cons rfl (zY rfl underlying24) <| .cons rfl (z7 rfl rfl) <| .nil) fun a6 w6 m6 hst6 hle6 hk6 => ?_
  have hfr6 := hk6.fr (.o 5 <| .o 6 <| .o 1 <| .o 2 <| .n 20 <| .nil)
  clear hst5 hfr5 hk6
  refine hK16 _ _ ?_
  refine zG hfr6 rfl rfl (fun hb20 => ?_) (fun hb20 => ?_)
  ·try simp only [nqs] at hb20
   refine zJ ?_
   refine hK15 _ _ ?_
   refine zB fun _ hK17 => ?_
   refine zN ?_
   refine zB fun _ hK18 => ?_
   have zq3 := zq2.trans hle6
   replace hkk_t := hkk_t.mono zq3
   obtain ⟨p19, vs19, x19, ho19, hd19, hm_x19, ht19, hcv19, hl19, hv19⟩ := hkk_t.nth (k := y) (by omega)
   cases ho19
   obtain ⟨⟨oK19, cK19, oA19, cA19, oR19, cR19, t019, t119, t219, t319, t419, t519, u019, u119, u219, u319, u419, u519⟩, rfl, hon19, hkk19, haa19, hrr19⟩ := hv19.open_
   dsimp only at hkk19 haa19 hrr19
   have hbg19 := hkk19.big; have hcp19 := hkk19.cap; have hbh19 := haa19.big; have hcq19 := haa19.cap
   rw [hd19, zAL] at ha
   rw [hd19, zR] at hck
   replace h_t := h_t.mono zq3
   replace hc2 := hc2.mono hle6
   refine ra0 (tch := []) hst6 hfr6 (.cons rfl (zO rfl hc2 isAgg33 sizeOf33 rfl rfl) <| .cons rfl (zD rfl) <| .cons rfl (zi (φ := MP.strs (z1 t.kind t.name t.param y)) rfl (.cons rfl <| .cons rfl <| .nil) call65 (fun w m hK => by have hle_ := KC.le hK; have hA := KC.agree hK; have h_t := h_t.mono hle_; exact FnG.mono (bound_c (t := t) (i := y) hA h_t) fun _ _ _ _ h => h)) <| .consA 25 rfl rfl <| .nil) fun a7 w7 m7 hst7 hle7 hk7 => ?_
   have hfr7 := hk7.fr (.o 5 <| .o 6 <| .o 1 <| .o 2 <| .nil)
   obtain ⟨⟨oB, cB⟩, e20, hB⟩ := hk7.ex 25 rfl
   replace hfr7 := hfr7.cons (hk7.same 7 rfl e20)
   clear hst6 hfr6 hk7
   dsimp only [MP.strs, MP.mem] at hB
   refine hK18 _ _ ?_
   refine zB fun _ hK21 => ?_
   refine rp0 hst7 hfr7 (.cons rfl (zD rfl) <| .cons rfl (z6 rfl rfl) <| .cons rfl (zD rfl) <| .cons rfl (zD rfl) <| .cons rfl (zD rfl) <| .cons rfl (zc rfl (.cons rfl <| .cons rfl <| .nil) call61 (fun w m hK => by have hle_ := KC.le hK; have hA := KC.agree hK; have hB := hB.mono hle_; exact in_c (l := z1 t.kind t.name t.param y) hA hB)) <| .cons rfl (Zn rfl) <| .cons rfl (zx rfl rfl rfl) <| .nil) fun a8 w8 m8 hst8 hle8 hk8 => ?_
   have hfr8 := hk8.fr (.o 5 <| .o 6 <| .o 1 <| .o 2 <| .n 33 <| .nil)
   clear hst7 hfr7 hk8
   refine hK21 _ _ ?_
   refine zG hfr8 rfl rfl (fun hb33 => ?_) (fun hb33 => ?_)
   ·try simp only [nqs] at hb33
    rw [if_pos (show s = uS ∨ ¬ s ∈ z1 t.kind t.name t.param y by simpa [uS] using hb33)] at ha
    have hul2 := zBi s x19
    have zq4 := hle7.trans hle8
    have zq5 := zq3.trans zq4
    replace haa_t := haa_t.mono zq5
    replace hrr_t := hrr_t.mono zq5
    replace h_t := h_t.mono zq4
    replace hkk_t := hkk_t.mono zq4
    replace hc2 := hc2.mono zq4
    replace hcv19 := hcv19.mono zq4
    replace hv19 := hv19.mono zq4
    replace hkk19 := hkk19.mono zq4
    replace haa19 := haa19.mono zq4
    replace hrr19 := hrr19.mono zq4
    replace hB := hB.mono hle8
    refine rp0 hst8 hfr8 (.cons rfl (zD rfl) <| .cons rfl (zA (off := 5) rfl underlying33 rfl rfl sizeOf24 rfl) <| .cons rfl (zE rfl hc2 isAgg24 rfl) <| .cons rfl (zD rfl) <| .cons rfl (zH (k := y) rfl rfl underlying24 sizeOf33 rfl (by omega)) <| .cons rfl (zO rfl hcv19 isAgg33 sizeOf33 rfl rfl) <| .cons rfl (zD rfl) <| .cons rfl (zc rfl (.cons rfl <| .cons rfl <| .nil) call52 (fun w m hK => by have hle_ := KC.le hK; have hA := KC.agree hK; have h_t := h_t.mono hle_; have hkk_t := hkk_t.mono hle_; have haa_t := haa_t.mono hle_; have hrr_t := hrr_t.mono hle_; have hc2 := hc2.mono hle_; have hcv19 := hcv19.mono hle_; have hv19 := hv19.mono hle_; have hkk19 := hkk19.mono hle_; have haa19 := haa19.mono hle_; have hrr19 := hrr19.mono hle_; have hB := hB.mono hle_; exact ihk _ (by assumption) hA (by assumption) (by omega))) <| .cons rfl (zk rfl rfl ⟨by omega, by omega⟩) <| .cons rfl (zC rfl) <| .nil) fun a9 w9 m9 hst9 hle9 hk9 => ?_
    have hfr9 := hk9.fr (.o 6 <| .o 1 <| .o 2 <| .n 5 <| .nil)
    clear hst8 hfr8 hk9
    refine hK17 _ _ ?_
    refine rp0 hst9 hfr9 (.cons rfl (zD rfl) <| .cons rfl (zk rfl rfl ⟨by omega, by omega⟩) <| .cons rfl (zC rfl) <| .nil) fun a10 w10 m10 hst10 hle10 hk10 => ?_
    have hfr10 := hk10.fr (.o 1 <| .o 2 <| .o 5 <| .n 6 <| .nil)
    clear hst9 hfr9 hk10
    have zq6 := hle9.trans hle10
    have zq7 := zq4.trans zq6
    have zq8 := hle6.trans zq7
    have hlh10 := hlh5.trans zq8
    exact ⟨(y + 1, a + (Ze s x19 : Int)), m10, by show t.kids.length - (y + 1) < t.kids.length - y; omega, ⟨hst10, hlh10, hfr10.sub (.c <| .c <| .c <| .c <| .nil), ⟨by show y + 1 ≤ t.kids.length; omega, by show a + (Ze s x19 : Int) + ((zAL s (z1 t.kind t.name t.param) (y + 1) (t.kids.drop (y + 1)) : Nat) : Int) + _ = _; omega, by show 0 ≤ a + (Ze s x19 : Int); omega, by show zR (t.kids.drop (y + 1)) ≤ zR t.kids; omega⟩⟩⟩
   ·try simp only [nqs] at hb33
    rw [if_neg (show ¬ (s = uS ∨ ¬ s ∈ z1 t.kind t.name t.param y) by simpa [uS] using hb33)] at ha
    refine zJ ?_
    refine hK17 _ _ ?_
    refine rp0 hst8 hfr8 (.cons rfl (zD rfl) <| .cons rfl (zk rfl rfl ⟨by omega, by omega⟩) <| .cons rfl (zC rfl) <| .nil) fun a9 w9 m9 hst9 hle9 hk9 => ?_
    have hfr9 := hk9.fr (.o 5 <| .o 1 <| .o 2 <| .n 6 <| .nil)
    clear hst8 hfr8 hk9
    have zq9 := hle8.trans hle9
    have zq10 := hle7.trans zq9
    have zq11 := hle6.trans zq10
    have hlh9 := hlh5.trans zq11
    exact ⟨(y + 1, a), m9, by show t.kids.length - (y + 1) < t.kids.length - y; omega, ⟨hst9, hlh9, hfr9.sub (.c <| .c <| .c <| .c <| .nil), ⟨by show y + 1 ≤ t.kids.length; omega, by show a + ((zAL s (z1 t.kind t.name t.param) (y + 1) (t.kids.drop (y + 1)) : Nat) : Int) + _ = _; omega, by show 0 ≤ a; omega, by show zR (t.kids.drop (y + 1)) ≤ zR t.kids; omega⟩⟩⟩
  ·try simp only [nqs] at hb20
   have hge : y = t.kids.length := by omega
   rw [List.drop_of_length_le (by omega), zAL] at ha
   have haa0 : a + zAN s t.arms = (Ze s t : Int) := by omega
   refine zg ?_
   refine hK12 _ _ ?_
   refine zB fun _ hK22 => ?_
   refine zB fun _ hK23 => ?_
   refine rp0 hst6 hfr6 (.cons rfl (zC rfl) <| .nil) fun a7 w7 m7 hst7 hle7 hk7 => ?_
   have hfr7 := hk7.fr (.o 5 <| .o 6 <| .o 1 <| .o 2 <| .n 8 <| .nil)
   clear hst6 hfr6 hk7
   refine hK23 _ _ ?_
   refine zN ?_
   have zq12 := hle6.trans hle7
   have hlh7 := hlh5.trans zq12
   have hlq24 := hlh7
   refine ze (T := [(6, _), (1, _), (2, _)]) (fun (y : Nat × Int) => ([(5, .int .i64 y.2), (8, .int .i64 (y.1 : Int))] : List (Nat × Value))) (fun _ => _) (fun (y : Nat × Int) m => (fun (y : Nat) (b : Int) => (y ≤ t.arms.length) ∧ (b + zAN s (t.arms.drop y) = (Ze s t : Int)) ∧ (0 ≤ b) ∧ (zo (t.arms.drop y) ≤ zo t.arms)) y.1 y.2) (fun y => t.arms.length - y.1) ((0, a)) ⟨hst7, MLe.refl _, hfr7.sub (.c <| .c <| .c <| .c <| .c <| .nil), ⟨Nat.zero_le _, by rw [List.drop_zero]; omega, ha0, Nat.le_refl _⟩⟩ fun y a8 w8 m8 hh8 => ?_
   have hst8 := hh8.st; have hle8 := hh8.le; have hfr8 := hh8.fr; have hrel := hh8.rel; clear hh8
   clear hst7 hfr7
   obtain ⟨y, b⟩ := y
   dsimp only at hrel hfr8 hst8
   obtain ⟨hyn, hb_, hb0, hck⟩ := hrel
   have hlh8 := hle8
   refine zB fun _ hK25 => ?_
   refine zB fun _ hK26 => ?_
   have zq13 := zq12.trans hle8
   replace hc2 := hc2.mono zq13
   refine rp0 hst8 hfr8 (.cons rfl (zD rfl) <| .cons rfl (zA (off := 6) rfl underlying33 rfl rfl sizeOf25 rfl) <| .cons rfl (zE rfl hc2 isAgg25 rfl) <| .cons rfl (zY rfl underlying25) <| .cons rfl (z7 rfl rfl) <| .nil) fun a9 w9 m9 hst9 hle9 hk9 => ?_
   have hfr9 := hk9.fr (.o 5 <| .o 8 <| .o 6 <| .o 1 <| .o 2 <| .n 47 <| .nil)
   clear hst8 hfr8 hk9
   refine hK26 _ _ ?_
   refine zG hfr9 rfl rfl (fun hb47 => ?_) (fun hb47 => ?_)
   ·try simp only [nqs] at hb47
    refine zJ ?_
    refine hK25 _ _ ?_
    refine zB fun _ hK27 => ?_
    refine zN ?_
    refine zB fun _ hK28 => ?_
    have zq14 := zq13.trans hle9
    have zq15 := zq2.trans zq14
    replace haa_t := haa_t.mono zq15
    obtain ⟨p29, vs29, x29, ho29, hd29, hm_x29, ht29, hcv29, hl29, hv29⟩ := haa_t.nth (k := y) (by omega)
    cases ho29
    obtain ⟨oV29, cV29, bs29, rfl, hva29, hbd29⟩ := hv29.open_
    have hbv29 := hva29.big; have hcv29_ := hva29.cap
    obtain ⟨⟨oK29b, cK29b, oA29b, cA29b, oR29b, cR29b, t029b, t129b, t229b, t329b, t429b, t529b, u029b, u129b, u229b, u329b, u429b, u529b⟩, rfl, hon29b, hkk29b, haa29b, hrr29b⟩ := hbd29.open_
    dsimp only at hkk29b haa29b hrr29b
    have hbg29b := hkk29b.big; have hcp29b := hkk29b.cap; have hbh29b := haa29b.big; have hcq29b := haa29b.cap
    rw [hd29, zBs] at hb_
    rw [hd29, ZD] at hck
    replace hc2 := hc2.mono hle9
    refine rp0 hst9 hfr9 (.cons rfl (zD rfl) <| .cons rfl (z6 rfl rfl) <| .cons rfl (zD rfl) <| .cons rfl (zA (off := 6) rfl underlying33 rfl rfl sizeOf25 rfl) <| .cons rfl (zE rfl hc2 isAgg25 rfl) <| .cons rfl (zD rfl) <| .cons rfl (zH (k := y) rfl rfl underlying25 sizeOf72 rfl (by omega)) <| .cons rfl (zA (off := 1) rfl underlying72 rfl rfl sizeOf27 rfl) <| .cons rfl (zE rfl hcv29 isAgg27 rfl) <| .cons rfl (zD rfl) <| .cons rfl (zc rfl (.cons rfl <| .cons rfl <| .nil) call61 (fun w m hK => by have hle_ := KC.le hK; have hA := KC.agree hK; have hva29 := hva29.mono hle_; exact in_c hA hva29)) <| .cons rfl (Zn rfl) <| .cons rfl (zx rfl rfl rfl) <| .nil) fun a10 w10 m10 hst10 hle10 hk10 => ?_
    have hfr10 := hk10.fr (.o 5 <| .o 8 <| .o 6 <| .o 1 <| .o 2 <| .n 62 <| .nil)
    clear hst9 hfr9 hk10
    refine hK28 _ _ ?_
    refine zG hfr10 rfl rfl (fun hb62 => ?_) (fun hb62 => ?_)
    ·try simp only [nqs] at hb62
     rw [if_pos (show s = uS ∨ ¬ s ∈ x29.vars by simpa [uS] using hb62)] at hb_
     have hul2 := zBi s x29.body
     have zq16 := zq15.trans hle10
     replace h_t := h_t.mono zq16
     replace hkk_t := hkk_t.mono zq16
     replace hrr_t := hrr_t.mono zq16
     replace haa_t := haa_t.mono hle10
     replace hc2 := hc2.mono hle10
     replace hcv29 := hcv29.mono hle10
     replace hv29 := hv29.mono hle10
     replace hva29 := hva29.mono hle10
     replace hbd29 := hbd29.mono hle10
     replace hkk29b := hkk29b.mono hle10
     replace haa29b := haa29b.mono hle10
     replace hrr29b := hrr29b.mono hle10
     refine rp0 hst10 hfr10 (.cons rfl (zD rfl) <| .cons rfl (zA (off := 6) rfl underlying33 rfl rfl sizeOf25 rfl) <| .cons rfl (zE rfl hc2 isAgg25 rfl) <| .cons rfl (zD rfl) <| .cons rfl (zH (k := y) rfl rfl underlying25 sizeOf72 rfl (by omega)) <| .cons rfl (zA (off := 2) rfl underlying72 rfl rfl sizeOf33 rfl) <| .cons rfl (Zt rfl hcv29 isAgg33 sizeOf33 rfl rfl) <| .cons rfl (zD rfl) <| .cons rfl (zc rfl (.cons rfl <| .cons rfl <| .nil) call52 (fun w m hK => by have hle_ := KC.le hK; have hA := KC.agree hK; have h_t := h_t.mono hle_; have hkk_t := hkk_t.mono hle_; have haa_t := haa_t.mono hle_; have hrr_t := hrr_t.mono hle_; have hc2 := hc2.mono hle_; have hcv29 := hcv29.mono hle_; have hv29 := hv29.mono hle_; have hva29 := hva29.mono hle_; have hbd29 := hbd29.mono hle_; have hkk29b := hkk29b.mono hle_; have haa29b := haa29b.mono hle_; have hrr29b := hrr29b.mono hle_; exact iha _ (by assumption) hA (by assumption) (by omega))) <| .cons rfl (zk rfl rfl ⟨by omega, by omega⟩) <| .cons rfl (zC rfl) <| .nil) fun a11 w11 m11 hst11 hle11 hk11 => ?_
     have hfr11 := hk11.fr (.o 8 <| .o 6 <| .o 1 <| .o 2 <| .n 5 <| .nil)
     clear hst10 hfr10 hk11
     refine hK27 _ _ ?_
     refine rp0 hst11 hfr11 (.cons rfl (zD rfl) <| .cons rfl (zk rfl rfl ⟨by omega, by omega⟩) <| .cons rfl (zC rfl) <| .nil) fun a12 w12 m12 hst12 hle12 hk12 => ?_
     have hfr12 := hk12.fr (.o 6 <| .o 1 <| .o 2 <| .o 5 <| .n 8 <| .nil)
     clear hst11 hfr11 hk12
     have zq17 := hle11.trans hle12
     have zq18 := hle10.trans zq17
     have zq19 := hle9.trans zq18
     have hlh12 := hlh8.trans zq19
     exact ⟨(y + 1, b + (Ze s x29.body : Int)), m12, by show t.arms.length - (y + 1) < t.arms.length - y; omega, ⟨hst12, hlh12, hfr12.sub (.c <| .c <| .c <| .c <| .c <| .nil), ⟨by show y + 1 ≤ t.arms.length; omega, by show b + (Ze s x29.body : Int) + ((zAN s (t.arms.drop (y + 1)) : Nat) : Int) = _; omega, by show 0 ≤ b + (Ze s x29.body : Int); omega, by show zo (t.arms.drop (y + 1)) ≤ zo t.arms; omega⟩⟩⟩
    ·try simp only [nqs] at hb62
     rw [if_neg (show ¬ (s = uS ∨ ¬ s ∈ x29.vars) by simpa [uS] using hb62)] at hb_
     refine zJ ?_
     refine hK27 _ _ ?_
     refine rp0 hst10 hfr10 (.cons rfl (zD rfl) <| .cons rfl (zk rfl rfl ⟨by omega, by omega⟩) <| .cons rfl (zC rfl) <| .nil) fun a11 w11 m11 hst11 hle11 hk11 => ?_
     have hfr11 := hk11.fr (.o 5 <| .o 6 <| .o 1 <| .o 2 <| .n 8 <| .nil)
     clear hst10 hfr10 hk11
     have zq20 := hle10.trans hle11
     have zq21 := hle9.trans zq20
     have hlh11 := hlh8.trans zq21
     exact ⟨(y + 1, b), m11, by show t.arms.length - (y + 1) < t.arms.length - y; omega, ⟨hst11, hlh11, hfr11.sub (.c <| .c <| .c <| .c <| .c <| .nil), ⟨by show y + 1 ≤ t.arms.length; omega, by show b + ((zAN s (t.arms.drop (y + 1)) : Nat) : Int) = _; omega, by show 0 ≤ b; omega, by show zo (t.arms.drop (y + 1)) ≤ zo t.arms; omega⟩⟩⟩
   ·try simp only [nqs] at hb47
    have hge : y = t.arms.length := by omega
    rw [List.drop_of_length_le (by omega), zAN] at hb_
    refine zg ?_
    refine hK22 _ _ ?_
    refine zB fun _ hK30 => ?_
    refine rp0 hst9 hfr9 (.cons rfl (zD rfl) <| .cons rfl (zC rfl) <| .nil) fun a10 w10 m10 hst10 hle10 hk10 => ?_
    have hfr10 := hk10.fr (.o 5 <| .o 8 <| .o 6 <| .n 4 <| .nil)
    clear hst9 hfr9 hk10
    refine hK30 _ _ ?_
    refine zK ?_
    repeat (with_reducible first | refine zI ?_ | refine zF ?_)
    exact zL hst10 hfr10 rfl (.tmp rfl <| .nil) (by refine congrArg (Value.int _) ?_; omega)
abbrev zDV (t : Tm) : Prop := ∀ {w : World} {m : Mem} {vs_t : List Value} (hA : Agree w m) (h_t : TmR m t vs_t) (hb : zP t ≤ 1000000000), FnV Tryd.prog 11 #[.agg vs_t.toArray] w m (fun _ m v => (MP.tm (ZK t)).p m v)
set_option maxHeartbeats 1600000 in
theorem clean_s {t : Tm} (ihk : ∀ u ∈ t.kids, zDV u) (iha : ∀ a ∈ t.arms, zDV a.body) {w : World} {m : Mem} {vs_t : List Value} (hA : Agree w m) (h_t : TmR m t vs_t) (hb : zP t ≤ 1000000000) : FnV Tryd.prog 11 #[.agg vs_t.toArray] w m (fun _ m v => (MP.tm (ZK t)).p m v) := by
 obtain ⟨⟨oK_t, cK_t, oA_t, cA_t, oR_t, cR_t, t0_t, t1_t, t2_t, t3_t, t4_t, t5_t, u0_t, u1_t, u2_t, u3_t, u4_t, u5_t⟩, rfl, hon_t, hkk_t, haa_t, hrr_t⟩ := h_t.open_
 dsimp only at hkk_t haa_t hrr_t
 have hbg_t := hkk_t.big; have hcp_t := hkk_t.cap; have hbh_t := haa_t.big; have hcq_t := haa_t.cap
 refine zX (vs := [_]) func11 rfl rfl rfl fun a0 hfr0 => ?_
 have hst0 := zW hA (zf [] _ w m)
 have hM : MLe m m := MLe.refl m
 have hce := zr t
 have hkl_ := Z1 t.kids
 have hal_ := zAH t.arms
 refine zB fun _ hK1 => ?_
 replace hst0 := hst0.more (r := .free) trivial List.nodup_nil (by simp [Res.blocks])
 refine ra0 (tch := [(1, 0, (fun v => .blk v _))]) hst0 hfr0 (.cons rfl (zv rfl rfl) <| .consT rfl rfl (fun _ => rfl) rfl (zQ zeroValue33 rfl) <| .nil) fun a1 w1 m1 hst1 hle1 hk1 => ?_
 have hfr1 := hk1.fr (.nil)
 obtain ⟨g2, e2, hc1⟩ := hk1.ex 1 rfl
 replace hfr1 := hfr1.cons e2
 obtain ⟨g3, e3, _⟩ := hk1.ex 2 rfl
 replace hfr1 := hfr1.cons e3
 replace hst1 := hst1.fin (L' := [_]) (.cons e3 <| .nil)
 replace h_t := h_t.mono hle1
 replace hkk_t := hkk_t.mono hle1
 replace haa_t := haa_t.mono hle1
 replace hrr_t := hrr_t.mono hle1
 clear hst0 hfr0 hk1
 refine hK1 _ _ ?_
 refine zB fun _ hK4 => ?_
 replace hst1 := hst1.more (r := .free) trivial List.nodup_nil (by simp [Res.blocks])
 refine ra0 (tch := [(1, 1, (fun v => .blk v _)), (2, 1, (fun v => .blk v _))]) hst1 hfr1 (.cons rfl (zO rfl hc1 isAgg33 sizeOf33 rfl rfl) <| .consT rfl rfl (fun _ => rfl) rfl (zQ zeroValue33 rfl) <| .consT rfl rfl (fun _ => rfl) rfl (zU 3 rfl rfl rfl fun y3 => zb rfl rfl rfl rfl rfl sizeOf33 rfl rfl h_t.one) <| .nil) fun a2 w2 m2 hst2 hle2 hk2 => ?_
 have hfr2 := hk2.fr (.o 1 <| .o 2 <| .nil)
 obtain ⟨gB, e5, _⟩ := hk2.ex 3 rfl
 replace hfr2 := hfr2.cons e5
 replace hst2 := hst2.fin (L' := [_, _]) (.cons e5 <| .cons e5 <| .nil)
 try simp only [List.take_succ_cons, List.take_zero, List.drop_succ_cons, List.drop_zero, List.cons_append, List.nil_append, List.append_nil, List.length_cons, List.length_nil, Nat.zero_add, Nat.reduceAdd] at hst2
 replace hkk_t := hkk_t.mono hle2
 replace haa_t := haa_t.mono hle2
 replace hrr_t := hrr_t.mono hle2
 replace hc1 := hc1.mono hle2
 clear hst1 hfr1 hk2
 refine hK4 _ _ ?_
 refine zB fun _ hK6 => ?_
 refine ra0 (tch := [(1, 1, (fun _ => .blk _ _))]) hst2 hfr2 (.cons rfl (zA (off := 5) rfl underlying33 rfl rfl sizeOf24 rfl) <| .consT rfl rfl (fun _ => rfl) rfl (ZE rfl rfl rfl sizeOf24 rfl rfl rfl) <| .nil) fun a3 w3 m3 hst3 hle3 hk3 => ?_
 have hfr3 := hk3.fr (.o 1 <| .o 2 <| .o 3 <| .nil)
 replace hst3 := hst3.fin (L' := [_, _]) (.cons rfl <| .nil)
 try simp only [List.take_succ_cons, List.take_zero, List.drop_succ_cons, List.drop_zero, List.cons_append, List.nil_append, List.append_nil, List.length_cons, List.length_nil, Nat.zero_add, Nat.reduceAdd] at hst3
 replace hkk_t := hkk_t.mono hle3
 replace haa_t := haa_t.mono hle3
 replace hrr_t := hrr_t.mono hle3
 replace hc1 := hc1.mono hle3
 clear hst2 hfr2 hk3
 refine hK6 _ _ ?_
 refine zB fun _ hK7 => ?_
 refine ra0 (tch := [(1, 1, (fun _ => .blk _ _))]) hst3 hfr3 (.cons rfl (zA (off := 6) rfl underlying33 rfl rfl sizeOf25 rfl) <| .consT rfl rfl (fun _ => rfl) rfl (ZE rfl rfl rfl sizeOf25 rfl rfl rfl) <| .nil) fun a4 w4 m4 hst4 hle4 hk4 => ?_
 have hfr4 := hk4.fr (.o 1 <| .o 2 <| .o 3 <| .nil)
 replace hst4 := hst4.fin (L' := [_, _]) (.cons rfl <| .nil)
 try simp only [List.take_succ_cons, List.take_zero, List.drop_succ_cons, List.drop_zero, List.cons_append, List.nil_append, List.append_nil, List.length_cons, List.length_nil, Nat.zero_add, Nat.reduceAdd] at hst4
 replace hkk_t := hkk_t.mono hle4
 replace haa_t := haa_t.mono hle4
 replace hrr_t := hrr_t.mono hle4
 replace hc1 := hc1.mono hle4
 clear hst3 hfr3 hk4
 have hst4 := hst4.more (r := .rowx (.slice none 0 0) 0 21 33 (MP.reads (fun m vs t => TmR m t vs) 21 [])) zAP List.nodup_nil (by simp [Res.blocks, zy])
 have hsl_K : Tms m4 none ([] : List Tm).length 0 ([] : List Tm) := Sl.empty
 have hst4 := hst4.more (r := .rowx (.slice none 0 0) 0 23 72 (MP.reads (fun m vs t => ArR m t vs) 23 [])) zAP List.nodup_nil (by simp [Res.blocks, zy])
 have hsl_A : Ars m4 none ([] : List Ar).length 0 ([] : List Ar) := Sl.empty
 refine hK7 _ _ ?_
 refine zAt (T := [(1, _), (2, _), (3, _)]) (fun (y : Str) => ([] : List (Nat × Value))) (fun y => [_, .blk (.pointer (some ⟨gB, 0, none⟩)) (.cells (tmV ⟨t.kind, t.at_, t.name, y, t.n, [], [], t.row⟩ (⟨none, 0, none, 0, oR_t, cR_t, t0_t, t1_t, t2_t, t3_t, t4_t, t5_t, u0_t, u1_t, u2_t, u3_t, u4_t, u5_t⟩ : TmY)).toArray 33), _, _]) (fun (y : Str) m => (fun (pp : Str) => (pp = Z2 t)) y) ((t.param)) ⟨hst4, MLe.refl _, hfr4.sub (.c <| .c <| .c <| .nil), trivial⟩ (fun y a5 w5 m5 hh5 => ?_) (fun K8 hj8 => ?_)
 ·have hst5 := hh5.st; have hle5 := hh5.le; have hfr5 := hh5.fr; have hrel := hh5.rel; clear hh5
  clear hst4 hfr4
  obtain ⟨pp, rfl⟩ : ∃ z, z = y := ⟨_, rfl⟩
  try dsimp only at hrel
  try dsimp only at hfr5
  try dsimp only at hst5
  have hpp := hrel
  subst hpp
  refine zAt (T := [(1, _), (2, _), (3, _)]) (fun (y : Int) => ([] : List (Nat × Value))) (fun y => [_, .blk (.pointer (some ⟨gB, 0, none⟩)) (.cells (tmV ⟨t.kind, t.at_, t.name, (Z2 t), y, [], [], t.row⟩ (⟨none, 0, none, 0, oR_t, cR_t, t0_t, t1_t, t2_t, t3_t, t4_t, t5_t, u0_t, u1_t, u2_t, u3_t, u4_t, u5_t⟩ : TmY)).toArray 33), _, _]) (fun (y : Int) m => (fun (nn : Int) => (nn = zAX t)) y) ((t.n)) ⟨hst5, MLe.refl _, hfr5.sub (.c <| .c <| .c <| .nil), trivial⟩ (fun y a6 w6 m6 hh6 => ?_) (fun K9 hj9 => ?_)
  ·have hst6 := hh6.st; have hle6 := hh6.le; have hfr6 := hh6.fr; have hrel := hh6.rel; clear hh6
   clear hst5 hfr5
   obtain ⟨nn, rfl⟩ : ∃ z, z = y := ⟨_, rfl⟩
   try dsimp only at hrel
   try dsimp only at hfr6
   try dsimp only at hst6
   have hnn := hrel
   subst hnn
   refine zAt (T := [(1, _), (2, _), (3, _)]) (fun (y : Str) => ([] : List (Nat × Value))) (fun y => [_, .blk (.pointer (some ⟨gB, 0, none⟩)) (.cells (tmV ⟨t.kind, t.at_, y, (Z2 t), (zAX t), [], [], t.row⟩ (⟨none, 0, none, 0, oR_t, cR_t, t0_t, t1_t, t2_t, t3_t, t4_t, t5_t, u0_t, u1_t, u2_t, u3_t, u4_t, u5_t⟩ : TmY)).toArray 33), _, _]) (fun (y : Str) m => (fun (ss : Str) => (ss = zAF t)) y) ((t.name)) ⟨hst6, MLe.refl _, hfr6.sub (.c <| .c <| .c <| .nil), trivial⟩ (fun y a7 w7 m7 hh7 => ?_) (fun K10 hj10 => ?_)
   ·have hst7 := hh7.st; have hle7 := hh7.le; have hfr7 := hh7.fr; have hrel := hh7.rel; clear hh7
    clear hst6 hfr6
    obtain ⟨ss, rfl⟩ : ∃ z, z = y := ⟨_, rfl⟩
    try dsimp only at hrel
    try dsimp only at hfr7
    try dsimp only at hst7
    have hss := hrel
    subst hss
    refine zB fun _ hK11 => ?_
    refine zB fun _ hK12 => ?_
    refine rp0 hst7 hfr7 (.cons rfl (zC rfl) <| .nil) fun a8 w8 m8 hst8 hle8 hk8 => ?_
    have hfr8 := hk8.fr (.o 1 <| .o 2 <| .o 3 <| .n 4 <| .nil)
    clear hst7 hfr7 hk8
    refine hK12 _ _ ?_
    refine zN ?_
    have zq1 := hle7.trans hle8
    have zq2 := hle6.trans zq1
    have zq3 := hle5.trans zq2
    replace hsl_K := hsl_K.mono zq3
    refine ze (T := [(1, _), (2, _), (3, _)]) (fun (y : Nat × Option Addr × Nat × List Tm) => ([(4, .int .i64 (y.1 : Int))] : List (Nat × Value))) (fun y => [_, .blk (.pointer (some ⟨gB, 0, none⟩)) (.cells (tmV ⟨t.kind, t.at_, (zAF t), (Z2 t), (zAX t), y.2.2.2, [], t.row⟩ (⟨y.2.1, y.2.2.1, none, 0, oR_t, cR_t, t0_t, t1_t, t2_t, t3_t, t4_t, t5_t, u0_t, u1_t, u2_t, u3_t, u4_t, u5_t⟩ : TmY)).toArray 33), .rowx (nz (.slice y.2.1 y.2.2.2.length y.2.2.1)) y.2.2.2.length 21 33 (MP.reads (fun m vs t => TmR m t vs) 21 y.2.2.2), _]) (fun (y : Nat × Option Addr × Nat × List Tm) m => (fun (y : Nat) (klo : Option Addr) (klp : Nat) (kl : List Tm) => (y ≤ t.kids.length) ∧ (Tms m klo kl.length klp kl) ∧ (kl = (t.kids.take y).map ZK) ∧ (zR (t.kids.drop y) ≤ zR t.kids)) y.1 y.2.1 y.2.2.1 y.2.2.2) (fun y => t.kids.length - y.1) ((0, none, 0, ([] : List Tm))) ⟨hst8, MLe.refl _, hfr8.sub (.c <| .c <| .c <| .c <| .nil), ⟨Nat.zero_le _, hsl_K, rfl, Nat.le_refl _⟩⟩ fun y a9 w9 m9 hh9 => ?_
    have hst9 := hh9.st; have hle9 := hh9.le; have hfr9 := hh9.fr; have hrel := hh9.rel; clear hh9
    clear hst8 hfr8
    obtain ⟨y, klo, klp, kl⟩ := y
    dsimp only at hrel hfr9 hst9
    obtain ⟨hyn, hsl_kl, hlen_kl, hck⟩ := hrel
    have hlh9 := hle9
    refine zB fun _ hK14 => ?_
    refine zB fun _ hK15 => ?_
    have zq4 := zq3.trans hle9
    replace hc1 := hc1.mono zq4
    refine rp0 hst9 hfr9 (.cons rfl (zD rfl) <| .cons rfl (zA (off := 5) rfl underlying33 rfl rfl sizeOf24 rfl) <| .cons rfl (zE rfl hc1 isAgg24 rfl) <| .cons rfl (zY rfl underlying24) <| .cons rfl (z7 rfl rfl) <| .nil) fun a10 w10 m10 hst10 hle10 hk10 => ?_
    have hfr10 := hk10.fr (.o 4 <| .o 1 <| .o 2 <| .o 3 <| .n 56 <| .nil)
    clear hst9 hfr9 hk10
    refine hK15 _ _ ?_
    refine zG hfr10 rfl rfl (fun hb56 => ?_) (fun hb56 => ?_)
    ·try simp only [nqs] at hb56
     refine zJ ?_
     refine hK14 _ _ ?_
     refine zB fun _ hK16 => ?_
     refine zN ?_
     have zq5 := zq4.trans hle10
     replace hkk_t := hkk_t.mono zq5
     obtain ⟨p17, vs17, x17, ho17, hd17, hm_x17, ht17, hcv17, hl17, hv17⟩ := hkk_t.nth (k := y) (by omega)
     cases ho17
     obtain ⟨⟨oK17, cK17, oA17, cA17, oR17, cR17, t017, t117, t217, t317, t417, t517, u017, u117, u217, u317, u417, u517⟩, rfl, hon17, hkk17, haa17, hrr17⟩ := hv17.open_
     dsimp only at hkk17 haa17 hrr17
     have hbg17 := hkk17.big; have hcp17 := hkk17.cap; have hbh17 := haa17.big; have hcq17 := haa17.cap
     rw [hd17, zR] at hck
     have hkll : kl.length ≤ t.kids.length := by rw [hlen_kl]; simp; omega
     replace hc1 := hc1.mono hle10
     refine zz (tch := [(9, 2, (fun v => .rowx (nz v) _ _ _ _)), (11, 1, (fun u => .blk _ (.cells (_ ++ [u] ++ _).toArray _)))]) (fun _ => mixed) hst10 hfr10 (by kernel_rfl) (by kernel_rfl) (by kernel_rfl) (.cons rfl (zA (off := 5) rfl underlying33 rfl rfl sizeOf24 rfl) <| .cons rfl (zM (j := 1) rfl rfl isAgg24 rfl) <| .cons rfl (zA (off := 5) rfl underlying33 rfl rfl sizeOf24 rfl) <| .cons rfl (zE rfl hc1 isAgg24 rfl) <| .cons rfl (zD rfl) <| .cons rfl (zH (k := y) rfl rfl underlying24 sizeOf33 rfl (by omega)) <| .cons rfl (zO rfl hcv17 isAgg33 sizeOf33 rfl rfl) <| .cons rfl (zi (φ := MP.tm (ZK x17)) rfl (.cons rfl <| .nil) call11 (fun w m hK => by have hle_ := KC.le hK; have hA := KC.agree hK; have hv17 := hv17.mono hle_; exact FnG.mono (ihk _ hm_x17 hA hv17 (by omega)) fun _ _ _ _ h => h)) <| .cons rfl (zBx 66 rfl rfl rfl fun y66 => z8 rfl underlying24 sizeOf33 zeroValue33 rfl rfl rfl rfl) <| .consT rfl rfl (fun _ => rfl) rfl (zU 67 rfl rfl rfl fun y67 => ZZ (size := 21) (bytes := 312) (l := kl) (l' := [ZK x17]) rfl rfl (fun _ => by first | exact .inl rfl | exact .inr (.inl rfl)) underlying24 type33 rfl rfl rfl rfl (fun w m hK => Sl.one (R := fun m vs t => TmR m t vs) hK.2.2 rfl hK.2.1) rfl (by decide) (by simp only [maxLen]; omega) (by omega)) <| .cons rfl (zA (off := 5) rfl underlying33 rfl rfl sizeOf24 rfl) <| .consT rfl rfl (fun _ => rfl) rfl (zU 68 rfl rfl rfl fun y68 => zAI rfl rfl rfl rfl rfl sizeOf24 rfl rfl rfl) <| .nil) fun a11 w11 m11 hst11 hle11 hk11 => ?_
     have hfr11 := hk11.fr (.o 4 <| .o 1 <| .o 2 <| .o 3 <| .nil)
     obtain ⟨⟨K_18o, K_18p⟩, e19, hsl_K_18⟩ := hk11.ex 68 rfl
     replace hst11 := hst11.fin (L' := [_, _, _, _]) (.cons e19 <| .cons e19 <| .nil)
     try simp only [List.take_succ_cons, List.take_zero, List.drop_succ_cons, List.drop_zero, List.cons_append, List.nil_append, List.append_nil, List.length_cons, List.length_nil, Nat.zero_add, Nat.reduceAdd] at hst11
     clear hst10 hfr10 hk11
     replace hsl_K_18 : Tms m11 K_18o (kl ++ [ZK x17]).length K_18p (kl ++ [ZK x17]) := hsl_K_18
     refine hK16 _ _ ?_
     refine rp0 hst11 hfr11 (.cons rfl (zD rfl) <| .cons rfl (zk rfl rfl ⟨by omega, by omega⟩) <| .cons rfl (zC rfl) <| .nil) fun a12 w12 m12 hst12 hle12 hk12 => ?_
     have hfr12 := hk12.fr (.o 1 <| .o 2 <| .o 3 <| .n 4 <| .nil)
     clear hst11 hfr11 hk12
     replace hsl_K_18 := hsl_K_18.mono hle12
     have zq6 := hle11.trans hle12
     have zq7 := hle10.trans zq6
     have hlh12 := hlh9.trans zq7
     exact ⟨(y + 1, K_18o, K_18p, (kl ++ [ZK x17])), m12, by show t.kids.length - (y + 1) < t.kids.length - y; omega, ⟨hst12, hlh12, hfr12.sub (.c <| .c <| .c <| .c <| .nil), ⟨by show y + 1 ≤ t.kids.length; omega, hsl_K_18, by rw [ht17, List.map_append, ← hlen_kl]; rfl, by show zR (t.kids.drop (y + 1)) ≤ zR t.kids; omega⟩⟩⟩
    ·try simp only [nqs] at hb56
     have hge : y = t.kids.length := by omega
     rw [List.take_of_length_le (by omega)] at hlen_kl
     refine zg ?_
     refine hK11 _ _ ?_
     refine zB fun _ hK20 => ?_
     refine zB fun _ hK21 => ?_
     refine rp0 hst10 hfr10 (.cons rfl (zC rfl) <| .nil) fun a11 w11 m11 hst11 hle11 hk11 => ?_
     have hfr11 := hk11.fr (.o 4 <| .o 1 <| .o 2 <| .o 3 <| .n 5 <| .nil)
     clear hst10 hfr10 hk11
     refine hK21 _ _ ?_
     refine zN ?_
     have zq8 := hle10.trans hle11
     have hlh11 := hlh9.trans zq8
     have hlq22 := hlh11
     have zq9 := zq4.trans zq8
     replace hsl_A := hsl_A.mono zq9
     refine ze (T := [(4, _), (1, _), (2, _), (3, _)]) (fun (y : Nat × Option Addr × Nat × List Ar) => ([(5, .int .i64 (y.1 : Int))] : List (Nat × Value))) (fun y => [_, .blk (.pointer (some ⟨gB, 0, none⟩)) (.cells (tmV ⟨t.kind, t.at_, (zAF t), (Z2 t), (zAX t), kl, y.2.2.2, t.row⟩ (⟨klo, klp, y.2.1, y.2.2.1, oR_t, cR_t, t0_t, t1_t, t2_t, t3_t, t4_t, t5_t, u0_t, u1_t, u2_t, u3_t, u4_t, u5_t⟩ : TmY)).toArray 33), _, .rowx (nz (.slice y.2.1 y.2.2.2.length y.2.2.1)) y.2.2.2.length 23 72 (MP.reads (fun m vs t => ArR m t vs) 23 y.2.2.2)]) (fun (y : Nat × Option Addr × Nat × List Ar) m => (fun (y : Nat) (alo : Option Addr) (alp : Nat) (al : List Ar) => (y ≤ t.arms.length) ∧ (Ars m alo al.length alp al) ∧ (al = (t.arms.take y).map zAW) ∧ (zo (t.arms.drop y) ≤ zo t.arms)) y.1 y.2.1 y.2.2.1 y.2.2.2) (fun y => t.arms.length - y.1) ((0, none, 0, ([] : List Ar))) ⟨hst11, MLe.refl _, hfr11.sub (.c <| .c <| .c <| .c <| .c <| .nil), ⟨Nat.zero_le _, hsl_A, rfl, Nat.le_refl _⟩⟩ fun y a12 w12 m12 hh12 => ?_
     have hst12 := hh12.st; have hle12 := hh12.le; have hfr12 := hh12.fr; have hrel := hh12.rel; clear hh12
     clear hst11 hfr11
     obtain ⟨y, alo, alp, al⟩ := y
     dsimp only at hrel hfr12 hst12
     obtain ⟨hyn, hsl_al, hlen_al, hck⟩ := hrel
     have hlh12 := hle12
     refine zB fun _ hK23 => ?_
     refine zB fun _ hK24 => ?_
     have zq10 := zq8.trans hle12
     replace hc1 := hc1.mono zq10
     refine rp0 hst12 hfr12 (.cons rfl (zD rfl) <| .cons rfl (zA (off := 6) rfl underlying33 rfl rfl sizeOf25 rfl) <| .cons rfl (zE rfl hc1 isAgg25 rfl) <| .cons rfl (zY rfl underlying25) <| .cons rfl (z7 rfl rfl) <| .nil) fun a13 w13 m13 hst13 hle13 hk13 => ?_
     have hfr13 := hk13.fr (.o 5 <| .o 4 <| .o 1 <| .o 2 <| .o 3 <| .n 74 <| .nil)
     clear hst12 hfr12 hk13
     refine hK24 _ _ ?_
     refine zG hfr13 rfl rfl (fun hb74 => ?_) (fun hb74 => ?_)
     ·try simp only [nqs] at hb74
      refine zJ ?_
      refine hK23 _ _ ?_
      refine zB fun _ hK25 => ?_
      refine zN ?_
      refine zB fun _ hK26 => ?_
      have zq11 := hle12.trans hle13
      have zq12 := zq9.trans zq11
      replace haa_t := haa_t.mono zq12
      obtain ⟨p27, vs27, x27, ho27, hd27, hm_x27, ht27, hcv27, hl27, hv27⟩ := haa_t.nth (k := y) (by omega)
      cases ho27
      obtain ⟨oV27, cV27, bs27, rfl, hva27, hbd27⟩ := hv27.open_
      have hbv27 := hva27.big; have hcv27_ := hva27.cap
      obtain ⟨⟨oK27b, cK27b, oA27b, cA27b, oR27b, cR27b, t027b, t127b, t227b, t327b, t427b, t527b, u027b, u127b, u227b, u327b, u427b, u527b⟩, rfl, hon27b, hkk27b, haa27b, hrr27b⟩ := hbd27.open_
      dsimp only at hkk27b haa27b hrr27b
      have hbg27b := hkk27b.big; have hcp27b := hkk27b.cap; have hbh27b := haa27b.big; have hcq27b := haa27b.cap
      rw [hd27, ZD] at hck
      have hall : al.length ≤ t.arms.length := by rw [hlen_al]; simp; omega
      replace hst13 := hst13.more (r := .free) trivial List.nodup_nil (by simp [Res.blocks])
      replace hc1 := hc1.mono hle13
      refine ra0 (tch := [(5, 4, (fun v => .blk v _)), (6, 4, (fun v => .blk v _))]) hst13 hfr13 (.cons rfl (zA (off := 6) rfl underlying33 rfl rfl sizeOf25 rfl) <| .cons rfl (zE rfl hc1 isAgg25 rfl) <| .cons rfl (zD rfl) <| .cons rfl (zH (k := y) rfl rfl underlying25 sizeOf72 rfl (by omega)) <| .cons rfl (zO rfl hcv27 isAgg72 sizeOf72 rfl rfl) <| .consT rfl rfl (fun _ => rfl) rfl (zQ zeroValue72 rfl) <| .consT rfl rfl (fun _ => rfl) rfl (zU 6 rfl rfl rfl fun y6 => zb rfl rfl rfl rfl rfl sizeOf72 rfl rfl hv27.one) <| .nil) fun a14 w14 m14 hst14 hle14 hk14 => ?_
      have hfr14 := hk14.fr (.o 5 <| .o 4 <| .o 1 <| .o 2 <| .o 3 <| .nil)
      obtain ⟨g28, e28, _⟩ := hk14.ex 6 rfl
      replace hfr14 := hfr14.cons e28
      replace hst14 := hst14.fin (L' := [_, _, _, _, _]) (.cons e28 <| .cons e28 <| .nil)
      try simp only [List.take_succ_cons, List.take_zero, List.drop_succ_cons, List.drop_zero, List.cons_append, List.nil_append, List.append_nil, List.length_cons, List.length_nil, Nat.zero_add, Nat.reduceAdd] at hst14
      clear hst13 hfr13 hk14
      refine hK26 _ _ ?_
      refine zB fun _ hK29 => ?_
      replace hbd27 := hbd27.mono hle14
      refine ra0 (tch := [(4, 4, (fun _ => .blkx _ _ _))]) hst14 hfr14 (.cons rfl (zA (off := 2) rfl underlying72 rfl rfl sizeOf33 rfl) <| .cons rfl (Zo (j := 4) rfl rfl isAgg33 sizeOf33 rfl rfl) <| .cons rfl (zi (φ := MP.tm (ZK x27.body)) rfl (.cons rfl <| .nil) call11 (fun w m hK => by have hle_ := KC.le hK; have hA := KC.agree hK; have hbd27 := hbd27.mono hle_; exact FnG.mono (iha _ hm_x27 hA hbd27 (by omega)) fun _ _ _ _ h => h)) <| .cons rfl (zA (off := 2) rfl underlying72 rfl rfl sizeOf33 rfl) <| .consT rfl rfl (fun _ => rfl) rfl (ZJ 84 rfl rfl rfl fun y84 => ob_storeK rfl rfl rfl sizeOf33 rfl rfl (fun w m hK => hK.2.one)) <| .nil) fun a15 w15 m15 hst15 hle15 hk15 => ?_
      have hfr15 := hk15.fr (.o 5 <| .o 4 <| .o 1 <| .o 2 <| .o 3 <| .o 6 <| .nil)
      replace hst15 := hst15.fin (L' := [_, _, _, _, _]) (.cons rfl <| .nil)
      try simp only [List.take_succ_cons, List.take_zero, List.drop_succ_cons, List.drop_zero, List.cons_append, List.nil_append, List.append_nil, List.length_cons, List.length_nil, Nat.zero_add, Nat.reduceAdd] at hst15
      obtain ⟨yb, hcb, hst15⟩ := hst15.unx (k := 4) rfl (fun _ => rfl)
      clear hst14 hfr14 hk15
      refine hK29 _ _ ?_
      have zq13 := hle14.trans hle15
      replace hva27 := hva27.mono zq13
      refine ra0 (tch := [(4, 3, (fun v => .rowx (nz v) _ _ _ _)), (6, 1, (fun u => .blk _ (.cells (_ ++ [u] ++ _).toArray _)))]) hst15 hfr15 (.cons rfl (zA (off := 6) rfl underlying33 rfl rfl sizeOf25 rfl) <| .cons rfl (zM (j := 1) rfl rfl isAgg25 rfl) <| .cons rfl (zd (j := 4) rfl rfl isAgg72 sizeOf72 rfl) <| .cons rfl (z8 rfl underlying25 sizeOf72 zeroValue72 rfl rfl rfl rfl) <| .consT rfl rfl (fun _ => rfl) rfl (zU 89 rfl rfl rfl fun y89 => ZZ (size := 23) (bytes := 352) (l := al) (l' := [zAW x27]) rfl rfl (fun _ => by first | exact .inl rfl | exact .inr (.inl rfl)) underlying25 type72 rfl rfl rfl rfl (fun w m hK => Sl.one (R := fun m vs t => ArR m t vs) hK.2 rfl ⟨_, _, _, rfl, hva27.mono (KC.le hK), hcb.mono (KC.le hK)⟩) rfl (by decide) (by simp only [maxLen]; omega) (by omega)) <| .cons rfl (zA (off := 6) rfl underlying33 rfl rfl sizeOf25 rfl) <| .consT rfl rfl (fun _ => rfl) rfl (zU 90 rfl rfl rfl fun y90 => zAI rfl rfl rfl rfl rfl sizeOf25 rfl rfl rfl) <| .nil) fun a16 w16 m16 hst16 hle16 hk16 => ?_
      have hfr16 := hk16.fr (.o 5 <| .o 4 <| .o 1 <| .o 2 <| .o 3 <| .nil)
      obtain ⟨⟨A_31o, A_31p⟩, e32, hsl_A_31⟩ := hk16.ex 90 rfl
      replace hst16 := hst16.fin (L' := [_, _, _, _, _]) (.cons e32 <| .cons e32 <| .nil)
      try simp only [List.take_succ_cons, List.take_zero, List.drop_succ_cons, List.drop_zero, List.cons_append, List.nil_append, List.append_nil, List.length_cons, List.length_nil, Nat.zero_add, Nat.reduceAdd] at hst16
      clear hst15 hfr15 hk16
      replace hsl_A_31 : Ars m16 A_31o (al ++ [zAW x27]).length A_31p (al ++ [zAW x27]) := hsl_A_31
      refine hK25 _ _ ?_
      refine rp0 hst16 hfr16 (.cons rfl (zD rfl) <| .cons rfl (zk rfl rfl ⟨by omega, by omega⟩) <| .cons rfl (zC rfl) <| .nil) fun a17 w17 m17 hst17 hle17 hk17 => ?_
      have hfr17 := hk17.fr (.o 4 <| .o 1 <| .o 2 <| .o 3 <| .n 5 <| .nil)
      clear hst16 hfr16 hk17
      have hst17 := hst17.take 4
      replace hsl_A_31 := hsl_A_31.mono hle17
      have zq14 := hle16.trans hle17
      have zq15 := zq13.trans zq14
      have zq16 := hle13.trans zq15
      have hlh17 := hlh12.trans zq16
      exact ⟨(y + 1, A_31o, A_31p, (al ++ [zAW x27])), m17, by show t.arms.length - (y + 1) < t.arms.length - y; omega, ⟨hst17, hlh17, hfr17.sub (.c <| .c <| .c <| .c <| .c <| .nil), ⟨by show y + 1 ≤ t.arms.length; omega, hsl_A_31, by rw [ht27, List.map_append, ← hlen_al]; rfl, by show zo (t.arms.drop (y + 1)) ≤ zo t.arms; omega⟩⟩⟩
     ·try simp only [nqs] at hb74
      have hge : y = t.arms.length := by omega
      rw [List.take_of_length_le (by omega)] at hlen_al
      refine zg ?_
      refine hK20 _ _ ?_
      refine zB fun _ hK33 => ?_
      have zq17 := hle12.trans hle13
      have zq18 := zq9.trans zq17
      replace hrr_t := hrr_t.mono zq18
      have zq19 := zq10.trans hle13
      replace hsl_kl := hsl_kl.mono zq19
      replace hsl_al := hsl_al.mono hle13
      have hout : TmR m13 ⟨t.kind, t.at_, zAF t, Z2 t, zAX t, kl, al, t.row⟩ (tmV ⟨t.kind, t.at_, zAF t, Z2 t, zAX t, kl, al, t.row⟩ (⟨klo, klp, alo, alp, oR_t, cR_t, t0_t, t1_t, t2_t, t3_t, t4_t, t5_t, u0_t, u1_t, u2_t, u3_t, u4_t, u5_t⟩ : TmY)) := TmR.build hon_t hsl_kl hsl_al hrr_t
      refine ra0 (tch := [(1, 0, (fun _ => .blk _ _))]) hst13 hfr13 (.cons rfl (zd (j := 1) rfl rfl isAgg33 sizeOf33 rfl) <| .consT rfl rfl (fun _ => rfl) rfl (za rfl rfl rfl sizeOf33 rfl rfl hout.one) <| .nil) fun a14 w14 m14 hst14 hle14 hk14 => ?_
      have hfr14 := hk14.fr (.o 5 <| .o 4 <| .o 2 <| .nil)
      replace hst14 := hst14.fin (L' := [_, _, _, _]) (.cons rfl <| .nil)
      try simp only [List.take_succ_cons, List.take_zero, List.drop_succ_cons, List.drop_zero, List.cons_append, List.nil_append, List.append_nil, List.length_cons, List.length_nil, Nat.zero_add, Nat.reduceAdd] at hst14
      clear hst13 hfr13 hk14
      refine hK33 _ _ ?_
      refine zK ?_
      repeat (with_reducible first | refine zI ?_ | refine zF ?_)
      replace hout := hout.mono hle14
      exact zL hst14 hfr14 rfl (.cell rfl (zn (zl (hst14.loc.at_ (k := 0) rfl)) isAgg33 sizeOf33) <| .nil) (⟨(⟨klo, klp, alo, alp, oR_t, cR_t, t0_t, t1_t, t2_t, t3_t, t4_t, t5_t, u0_t, u1_t, u2_t, u3_t, u4_t, u5_t⟩ : TmY), by rw [zAo, ← hlen_kl, ← hlen_al]; rfl, by rw [zAo, ← hlen_kl, ← hlen_al]; exact hout⟩)
   ·have hlj10 : MLe m6 m6 := MLe.refl _
    refine zB fun _ hK35 => ?_
    have zq20 := hle5.trans hle6
    replace hc1 := hc1.mono zq20
    refine rp0 hst6 hfr6 (.cons rfl (zA (off := 0) rfl underlying33 rfl rfl sizeOf3 rfl) <| .cons rfl (zE rfl hc1 isAgg3 rfl) <| .cons rfl (zV rfl rfl) <| .cons rfl (zD rfl) <| .cons rfl (zA (off := 0) rfl underlying33 rfl rfl sizeOf3 rfl) <| .cons rfl (zE rfl hc1 isAgg3 rfl) <| .cons rfl (zV rfl rfl) <| .cons rfl (zx rfl rfl rfl) <| .cons rfl (zD rfl) <| .cons rfl (zA (off := 0) rfl underlying33 rfl rfl sizeOf3 rfl) <| .cons rfl (zE rfl hc1 isAgg3 rfl) <| .cons rfl (zV rfl rfl) <| .cons rfl (zx rfl rfl rfl) <| .cons rfl (zD rfl) <| .cons rfl (zA (off := 0) rfl underlying33 rfl rfl sizeOf3 rfl) <| .cons rfl (zE rfl hc1 isAgg3 rfl) <| .cons rfl (zV rfl rfl) <| .cons rfl (zx rfl rfl rfl) <| .cons rfl (zD rfl) <| .cons rfl (zA (off := 0) rfl underlying33 rfl rfl sizeOf3 rfl) <| .cons rfl (zE rfl hc1 isAgg3 rfl) <| .cons rfl (zV rfl rfl) <| .cons rfl (zx rfl rfl rfl) <| .cons rfl (zD rfl) <| .cons rfl (zA (off := 0) rfl underlying33 rfl rfl sizeOf3 rfl) <| .cons rfl (zE rfl hc1 isAgg3 rfl) <| .cons rfl (zV rfl rfl) <| .cons rfl (zx rfl rfl rfl) <| .nil) fun a7 w7 m7 hst7 hle7 hk7 => ?_
    have hfr7 := hk7.fr (.o 1 <| .o 2 <| .o 3 <| .n 50 <| .nil)
    clear hst6 hfr6 hk7
    refine hK35 _ _ ?_
    refine zG hfr7 rfl rfl (fun hb50 => ?_) (fun hb50 => ?_)
    ·try simp only [nqs] at hb50
     refine ra0 (tch := [(1, 1, (fun _ => .blk _ _))]) hst7 hfr7 (.cons rfl (zA (off := 2) rfl underlying33 rfl rfl sizeOf9 rfl) <| .consT rfl rfl (fun _ => rfl) rfl (ZE rfl rfl rfl sizeOf9 rfl rfl rfl) <| .nil) fun a8 w8 m8 hst8 hle8 hk8 => ?_
     have hfr8 := hk8.fr (.o 1 <| .o 2 <| .o 3 <| .nil)
     replace hst8 := hst8.fin (L' := [_, _, _, _]) (.cons rfl <| .nil)
     try simp only [List.take_succ_cons, List.take_zero, List.drop_succ_cons, List.drop_zero, List.cons_append, List.nil_append, List.append_nil, List.length_cons, List.length_nil, Nat.zero_add, Nat.reduceAdd] at hst8
     clear hst7 hfr7 hk8
     repeat (with_reducible first | refine ZM ?_ | refine ZF ?_ | refine zw ?_)
     have zq21 := hle7.trans hle8
     replace hlj10 := hlj10.trans zq21
     exact hj10 (([] : Str)) _ _ _ ⟨hst8, hlj10, hfr8.sub (.c <| .c <| .c <| .nil), by unfold zAF; first | rw [if_pos (by omega)] | rw [if_neg (by omega)]⟩
    ·try simp only [nqs] at hb50
     refine zJ ?_
     repeat (with_reducible first | refine ZM ?_ | refine ZF ?_ | refine zw ?_)
     replace hlj10 := hlj10.trans hle7
     exact hj10 (t.name) _ _ _ ⟨hst7, hlj10, hfr7.sub (.c <| .c <| .c <| .nil), by unfold zAF; first | rw [if_pos (by omega)] | rw [if_neg (by omega)]⟩
  ·have hlj9 : MLe m5 m5 := MLe.refl _
   refine zB fun _ hK36 => ?_
   replace hc1 := hc1.mono hle5
   refine rp0 hst5 hfr5 (.cons rfl (zA (off := 0) rfl underlying33 rfl rfl sizeOf3 rfl) <| .cons rfl (zE rfl hc1 isAgg3 rfl) <| .cons rfl (ZP rfl rfl) <| .cons rfl (zD rfl) <| .cons rfl (zA (off := 0) rfl underlying33 rfl rfl sizeOf3 rfl) <| .cons rfl (zE rfl hc1 isAgg3 rfl) <| .cons rfl (ZP rfl rfl) <| .cons rfl (ZI rfl rfl rfl) <| .nil) fun a6 w6 m6 hst6 hle6 hk6 => ?_
   have hfr6 := hk6.fr (.o 1 <| .o 2 <| .o 3 <| .n 21 <| .nil)
   clear hst5 hfr5 hk6
   refine hK36 _ _ ?_
   refine zG hfr6 rfl rfl (fun hb21 => ?_) (fun hb21 => ?_)
   ·try simp only [nqs] at hb21
    refine ra0 (tch := [(1, 1, (fun _ => .blk _ _))]) hst6 hfr6 (.cons rfl (zA (off := 4) rfl underlying33 rfl rfl sizeOf3 rfl) <| .consT rfl rfl (fun _ => rfl) rfl (ZE rfl rfl rfl sizeOf3 rfl rfl rfl) <| .nil) fun a7 w7 m7 hst7 hle7 hk7 => ?_
    have hfr7 := hk7.fr (.o 1 <| .o 2 <| .o 3 <| .nil)
    replace hst7 := hst7.fin (L' := [_, _, _, _]) (.cons rfl <| .nil)
    try simp only [List.take_succ_cons, List.take_zero, List.drop_succ_cons, List.drop_zero, List.cons_append, List.nil_append, List.append_nil, List.length_cons, List.length_nil, Nat.zero_add, Nat.reduceAdd] at hst7
    clear hst6 hfr6 hk7
    repeat (with_reducible first | refine ZM ?_ | refine ZF ?_ | refine zw ?_)
    have zq22 := hle6.trans hle7
    replace hlj9 := hlj9.trans zq22
    exact hj9 ((0 : Int)) _ _ _ ⟨hst7, hlj9, hfr7.sub (.c <| .c <| .c <| .nil), by unfold zAX; first | rw [if_pos (by omega)] | rw [if_neg (by omega)]⟩
   ·try simp only [nqs] at hb21
    refine zJ ?_
    repeat (with_reducible first | refine ZM ?_ | refine ZF ?_ | refine zw ?_)
    replace hlj9 := hlj9.trans hle6
    exact hj9 (t.n) _ _ _ ⟨hst6, hlj9, hfr6.sub (.c <| .c <| .c <| .nil), by unfold zAX; first | rw [if_pos (by omega)] | rw [if_neg (by omega)]⟩
 ·have hlj8 : MLe m4 m4 := MLe.refl _
  refine zB fun _ hK37 => ?_
  refine rp0 hst4 hfr4 (.cons rfl (zA (off := 0) rfl underlying33 rfl rfl sizeOf3 rfl) <| .cons rfl (zE rfl hc1 isAgg3 rfl) <| .cons rfl (ZP rfl rfl) <| .nil) fun a5 w5 m5 hst5 hle5 hk5 => ?_
  have hfr5 := hk5.fr (.o 1 <| .o 2 <| .o 3 <| .n 12 <| .nil)
  clear hst4 hfr4 hk5
  refine hK37 _ _ ?_
  refine zG hfr5 rfl rfl (fun hb12 => ?_) (fun hb12 => ?_)
  ·try simp only [nqs] at hb12
   refine ra0 (tch := [(1, 1, (fun _ => .blk _ _))]) hst5 hfr5 (.cons rfl (zA (off := 3) rfl underlying33 rfl rfl sizeOf9 rfl) <| .consT rfl rfl (fun _ => rfl) rfl (ZE rfl rfl rfl sizeOf9 rfl rfl rfl) <| .nil) fun a6 w6 m6 hst6 hle6 hk6 => ?_
   have hfr6 := hk6.fr (.o 1 <| .o 2 <| .o 3 <| .nil)
   replace hst6 := hst6.fin (L' := [_, _, _, _]) (.cons rfl <| .nil)
   try simp only [List.take_succ_cons, List.take_zero, List.drop_succ_cons, List.drop_zero, List.cons_append, List.nil_append, List.append_nil, List.length_cons, List.length_nil, Nat.zero_add, Nat.reduceAdd] at hst6
   clear hst5 hfr5 hk6
   repeat (with_reducible first | refine ZM ?_ | refine ZF ?_ | refine zw ?_)
   have zq23 := hle5.trans hle6
   replace hlj8 := hlj8.trans zq23
   exact hj8 (([] : Str)) _ _ _ ⟨hst6, hlj8, hfr6.sub (.c <| .c <| .c <| .nil), by unfold Z2; simp [hb12]⟩
  ·try simp only [nqs] at hb12
   refine zJ ?_
   repeat (with_reducible first | refine ZM ?_ | refine ZF ?_ | refine zw ?_)
   replace hlj8 := hlj8.trans hle5
   exact hj8 (t.param) _ _ _ ⟨hst5, hlj8, hfr5.sub (.c <| .c <| .c <| .nil), by unfold Z2; simp [hb12]⟩
theorem clean_c (t : Tm) : zDV t := Tm.rec_ (p := zDV) (fun t ihk iha => clean_s ihk iha) t
end Go.Proofs.YtmdhhjmomilhjaaDoor
namespace Go.Proofs.YtmdhhjmomilhjaaDoor
open Go.Proofs.Tryd
set_option linter.all false
set_option maxRecDepth 4000
open Go.RowKit
abbrev at_G (t : Tm) : Prop := ∀ {w : World} {m : Mem} {vs_t : List Value} {n : Int} (hA : Agree w m) (h_t : TmR m t vs_t) (hn0 : 0 ≤ n) (hn : n ≤ 1073741824), FnV Tryd.prog 36 #[.agg vs_t.toArray, .int .i64 n] w m (fun _ m v => (MP.atB t n).p m v)
set_option maxHeartbeats 1600000 in
theorem at_s {t : Tm} (ihk : ∀ u ∈ t.kids, at_G u) (iha : ∀ a ∈ t.arms, at_G a.body) {w : World} {m : Mem} {vs_t : List Value} {n : Int} (hA : Agree w m) (h_t : TmR m t vs_t) (hn0 : 0 ≤ n) (hn : n ≤ 1073741824) : FnV Tryd.prog 36 #[.agg vs_t.toArray, .int .i64 n] w m (fun _ m v => (MP.atB t n).p m v) := by
 obtain ⟨⟨oK_t, cK_t, oA_t, cA_t, oR_t, cR_t, t0_t, t1_t, t2_t, t3_t, t4_t, t5_t, u0_t, u1_t, u2_t, u3_t, u4_t, u5_t⟩, rfl, hon_t, hkk_t, haa_t, hrr_t⟩ := h_t.open_
 dsimp only at hkk_t haa_t hrr_t
 have hbg_t := hkk_t.big; have hcp_t := hkk_t.cap; have hbh_t := haa_t.big; have hcq_t := haa_t.cap
 refine zX (vs := [_, _]) func36 rfl rfl rfl fun a0 hfr0 => ?_
 have hst0 := zW hA (zf [] _ w m)
 have hM : MLe m m := MLe.refl m
 refine zB fun _ hK1 => ?_
 replace hst0 := hst0.more (r := .free) trivial List.nodup_nil (by simp [Res.blocks])
 refine ra0 (tch := [(1, 0, (fun v => .blk v _))]) hst0 hfr0 (.cons rfl (zv rfl rfl) <| .consT rfl rfl (fun _ => rfl) rfl (zQ zeroValue33 rfl) <| .cons rfl (zC rfl) <| .cons rfl (zC rfl) <| .nil) fun a1 w1 m1 hst1 hle1 hk1 => ?_
 have hfr1 := hk1.fr (.o 1 <| .nil)
 obtain ⟨g2, e2, hc2⟩ := hk1.ex 2 rfl
 replace hfr1 := hfr1.cons e2
 obtain ⟨g3, e3, _⟩ := hk1.ex 4 rfl
 replace hfr1 := hfr1.cons e3
 replace hst1 := hst1.fin (L' := [_]) (.cons e3 <| .nil)
 replace h_t := h_t.mono hle1
 replace hkk_t := hkk_t.mono hle1
 replace haa_t := haa_t.mono hle1
 clear hst0 hfr0 hk1
 refine hK1 _ _ ?_
 refine zB fun _ hK4 => ?_
 refine zB fun _ hK5 => ?_
 refine rp0 hst1 hfr1 (.cons rfl (zD rfl) <| .cons rfl (zV rfl rfl) <| .nil) fun a2 w2 m2 hst2 hle2 hk2 => ?_
 have hfr2 := hk2.fr (.o 1 <| .o 2 <| .o 4 <| .n 16 <| .nil)
 replace h_t := h_t.mono hle2
 replace hkk_t := hkk_t.mono hle2
 replace haa_t := haa_t.mono hle2
 replace hc2 := hc2.mono hle2
 clear hst1 hfr1 hk2
 refine hK5 _ _ ?_
 refine zG hfr2 rfl rfl (fun hb16 => ?_) (fun hb16 => ?_)
 ·try simp only [nqs] at hb16
  refine zB fun _ hK6 => ?_
  refine ra0 (tch := [(1, 0, (fun _ => .blk _ _))]) hst2 hfr2 (.cons rfl (zO rfl hc2 isAgg33 sizeOf33 rfl rfl) <| .consT rfl rfl (fun _ => rfl) rfl (za rfl rfl rfl sizeOf33 rfl rfl h_t.one) <| .cons rfl (zC rfl) <| .cons rfl (zC rfl) <| .nil) fun a3 w3 m3 hst3 hle3 hk3 => ?_
  have hfr3 := hk3.fr (.o 1 <| .o 4 <| .n 5 <| .n 6 <| .nil)
  replace hst3 := hst3.fin (L' := [_]) (.cons rfl <| .nil)
  try simp only [List.take_succ_cons, List.take_zero, List.drop_succ_cons, List.drop_zero, List.cons_append, List.nil_append, List.append_nil, List.length_cons, List.length_nil, Nat.zero_add, Nat.reduceAdd] at hst3
  clear hst2 hfr2 hk3
  refine hK6 _ _ ?_
  refine zK ?_
  repeat (with_reducible first | refine zI ?_ | refine zF ?_)
  replace h_t := h_t.mono hle3
  exact zL hst3 hfr3 rfl (.cell rfl (zn (zl (hst3.loc.at_ (k := 0) rfl)) isAgg33 sizeOf33) <| .tmp rfl <| .tmp rfl <| .nil) (⟨((t, (⟨oK_t, cK_t, oA_t, cA_t, oR_t, cR_t, t0_t, t1_t, t2_t, t3_t, t4_t, t5_t, u0_t, u1_t, u2_t, u3_t, u4_t, u5_t⟩ : TmY)), 0, true), rfl, h_t, ⟨Int.le_refl _, hn0⟩, .inl (.refl t)⟩)
 ·try simp only [nqs] at hb16
  refine zJ ?_
  refine hK4 _ _ ?_
  refine zB fun _ hK8 => ?_
  refine rp0 hst2 hfr2 (.cons rfl (zD rfl) <| .cons rfl (ob_sub rfl rfl ⟨by omega, by omega⟩) <| .cons rfl (zC rfl) <| .nil) fun a3 w3 m3 hst3 hle3 hk3 => ?_
  have hfr3 := hk3.fr (.o 2 <| .o 4 <| .n 1 <| .nil)
  clear hst2 hfr2 hk3
  refine hK8 _ _ ?_
  refine zB fun _ hK9 => ?_
  refine zB fun _ hK10 => ?_
  refine rp0 hst3 hfr3 (.cons rfl (zC rfl) <| .nil) fun a4 w4 m4 hst4 hle4 hk4 => ?_
  have hfr4 := hk4.fr (.o 2 <| .o 4 <| .o 1 <| .n 7 <| .nil)
  clear hst3 hfr3 hk4
  refine hK10 _ _ ?_
  refine zN ?_
  refine ze (T := [(2, _), (4, _)]) (fun (y : Nat × Int) => ([(1, .int .i64 y.2), (7, .int .i64 (y.1 : Int))] : List (Nat × Value))) (fun _ => _) (fun (y : Nat × Int) m => (fun (y : Nat) (v : Int) => (y ≤ t.kids.length) ∧ (0 ≤ v) ∧ (v ≤ n)) y.1 y.2) (fun y => t.kids.length - y.1) ((0, (n - 1))) ⟨hst4, MLe.refl _, hfr4.sub (.c <| .c <| .c <| .c <| .nil), ⟨Nat.zero_le _, by omega, by omega⟩⟩ fun y a5 w5 m5 hh5 => ?_
  have hst5 := hh5.st; have hle5 := hh5.le; have hfr5 := hh5.fr; have hrel := hh5.rel; clear hh5
  clear hst4 hfr4
  obtain ⟨y, v⟩ := y
  dsimp only at hrel hfr5 hst5
  obtain ⟨hyn, hv0, hvn⟩ := hrel
  have hlh5 := hle5
  refine zB fun _ hK12 => ?_
  refine zB fun _ hK13 => ?_
  have zq1 := hle4.trans hle5
  have zq2 := hle3.trans zq1
  replace hc2 := hc2.mono zq2
  refine rp0 hst5 hfr5 (.cons rfl (zD rfl) <| .cons rfl (zA (off := 5) rfl underlying33 rfl rfl sizeOf24 rfl) <| .cons rfl (zE rfl hc2 isAgg24 rfl) <| .cons rfl (zY rfl underlying24) <| .cons rfl (z7 rfl rfl) <| .nil) fun a6 w6 m6 hst6 hle6 hk6 => ?_
  have hfr6 := hk6.fr (.o 1 <| .o 7 <| .o 2 <| .o 4 <| .n 24 <| .nil)
  clear hst5 hfr5 hk6
  refine hK13 _ _ ?_
  refine zG hfr6 rfl rfl (fun hb24 => ?_) (fun hb24 => ?_)
  ·try simp only [nqs] at hb24
   refine zJ ?_
   refine hK12 _ _ ?_
   refine zB fun _ hK14 => ?_
   refine zN ?_
   refine zB fun _ hK15 => ?_
   have zq3 := zq2.trans hle6
   replace hkk_t := hkk_t.mono zq3
   obtain ⟨p16, vs16, x16, ho16, hd16, hm_x16, ht16, hcv16, hl16, hv16⟩ := hkk_t.nth (k := y) (by omega)
   cases ho16
   obtain ⟨⟨oK16, cK16, oA16, cA16, oR16, cR16, t016, t116, t216, t316, t416, t516, u016, u116, u216, u316, u416, u516⟩, rfl, hon16, hkk16, haa16, hrr16⟩ := hv16.open_
   dsimp only at hkk16 haa16 hrr16
   have hbg16 := hkk16.big; have hcp16 := hkk16.cap; have hbh16 := haa16.big; have hcq16 := haa16.cap
   replace hst6 := hst6.more (r := .free) trivial List.nodup_nil (by simp [Res.blocks])
   replace hc2 := hc2.mono hle6
   refine ra0 (tch := [(11, 1, (fun v => .blk v _)), (12, 1, (fun v => .blkx v _ _))]) hst6 hfr6 (.cons rfl (zA (off := 5) rfl underlying33 rfl rfl sizeOf24 rfl) <| .cons rfl (zE rfl hc2 isAgg24 rfl) <| .cons rfl (zD rfl) <| .cons rfl (zH (k := y) rfl rfl underlying24 sizeOf33 rfl (by omega)) <| .cons rfl (zO rfl hcv16 isAgg33 sizeOf33 rfl rfl) <| .cons rfl (zD rfl) <| .cons rfl (zi (φ := MP.atB x16 v) rfl (.cons rfl <| .cons rfl <| .nil) call36 (fun w m hK => by have hle_ := KC.le hK; have hA := KC.agree hK; have hv16 := hv16.mono hle_; exact FnG.mono (ihk _ hm_x16 hA hv16 hv0 (by omega)) fun _ _ _ _ h => h)) <| .cons rfl (zh 34 rfl rfl rfl fun y34 => zD rfl) <| .cons rfl (zh 27 rfl rfl rfl fun y27 => zS rfl rfl) <| .cons rfl (zh 27 rfl rfl rfl fun y27 => zS rfl rfl) <| .cons rfl (zh 27 rfl rfl rfl fun y27 => zS rfl rfl) <| .consT rfl rfl (fun _ => rfl) rfl (zQ zeroValue33 rfl) <| .consT rfl rfl (fun _ => rfl) rfl (zU 8 rfl rfl rfl fun y8 => ZJ 35 rfl rfl rfl fun y35 => Zj rfl rfl rfl rfl rfl sizeOf33 rfl rfl (fun w m hK => hK.2.1.one)) <| .consA 36 rfl rfl <| .consA 37 rfl rfl <| .nil) fun a7 w7 m7 hst7 hle7 hk7 => ?_
   have hfr7 := hk7.fr (.o 1 <| .o 7 <| .o 2 <| .o 4 <| .nil)
   obtain ⟨⟨⟨xa, ya⟩, na, ba⟩, e17, ⟨_, hla, _⟩⟩ := hk7.ex 36 rfl
   obtain ⟨⟨⟨xb, yb⟩, nb, bb⟩, e18, _⟩ := hk7.ex 37 rfl
   obtain ⟨g19, e19, _⟩ := hk7.ex 8 rfl
   replace hfr7 := hfr7.cons e19
   replace hfr7 := hfr7.cons (hk7.same 9 rfl e17)
   replace hfr7 := hfr7.cons (hk7.same 10 rfl e18)
   replace hst7 := hst7.fin (L' := [_, _]) (.cons e19 <| .cons e19 <| .nil)
   try simp only [List.take_succ_cons, List.take_zero, List.drop_succ_cons, List.drop_zero, List.cons_append, List.nil_append, List.append_nil, List.length_cons, List.length_nil, Nat.zero_add, Nat.reduceAdd] at hst7
   obtain ⟨⟨⟨xu, yu⟩, nu, bu⟩, ⟨htu, hlu, hptu⟩, hst7⟩ := hst7.unx (k := 1) rfl (fun _ => rfl)
   clear hst6 hfr6 hk7
   dsimp only at hla hlu hptu htu
   refine hK15 _ _ ?_
   refine zB fun _ hK21 => ?_
   refine zB fun _ hK22 => ?_
   refine rp0 hst7 hfr7 (.cons rfl (zD rfl) <| .nil) fun a8 w8 m8 hst8 hle8 hk8 => ?_
   have hfr8 := hk8.fr (.o 1 <| .o 7 <| .o 2 <| .o 4 <| .o 8 <| .o 9 <| .n 38 <| .nil)
   clear hst7 hfr7 hk8
   refine hK22 _ _ ?_
   refine zG hfr8 rfl rfl (fun hb38 => ?_) (fun hb38 => ?_)
   ·try simp only [nqs] at hb38
    refine zB fun _ hK23 => ?_
    replace htu := htu.mono hle8
    refine ra0 (tch := [(1, 0, (fun _ => .blk _ _))]) hst8 hfr8 (.cons rfl (zd (j := 1) rfl rfl isAgg33 sizeOf33 rfl) <| .consT rfl rfl (fun _ => rfl) rfl (za rfl rfl rfl sizeOf33 rfl rfl htu.one) <| .cons rfl (zC rfl) <| .cons rfl (zC rfl) <| .nil) fun a9 w9 m9 hst9 hle9 hk9 => ?_
    have hfr9 := hk9.fr (.o 1 <| .o 7 <| .o 4 <| .n 5 <| .n 6 <| .nil)
    replace hst9 := hst9.fin (L' := [_, _]) (.cons rfl <| .nil)
    try simp only [List.take_succ_cons, List.take_zero, List.drop_succ_cons, List.drop_zero, List.cons_append, List.nil_append, List.append_nil, List.length_cons, List.length_nil, Nat.zero_add, Nat.reduceAdd] at hst9
    clear hst8 hfr8 hk9
    refine hK23 _ _ ?_
    refine zK ?_
    repeat (with_reducible first | refine zI ?_ | refine zF ?_)
    replace htu := htu.mono hle9
    exact zL hst9 hfr9 rfl (.cell rfl (zn (zl (hst9.loc.at_ (k := 0) rfl)) isAgg33 sizeOf33) <| .tmp rfl <| .tmp rfl <| .nil) (⟨((xu, yu), 0, true), rfl, htu, ⟨Int.le_refl _, hn0⟩, hptu.elim (fun h => .inl (.kid hm_x16 h)) .inr⟩)
   ·try simp only [nqs] at hb38
    refine zJ ?_
    refine hK21 _ _ ?_
    refine rp0 hst8 hfr8 (.cons rfl (zD rfl) <| .cons rfl (zC rfl) <| .nil) fun a9 w9 m9 hst9 hle9 hk9 => ?_
    have hfr9 := hk9.fr (.o 7 <| .o 2 <| .o 4 <| .n 1 <| .nil)
    clear hst8 hfr8 hk9
    refine hK14 _ _ ?_
    refine rp0 hst9 hfr9 (.cons rfl (zD rfl) <| .cons rfl (zk rfl rfl ⟨by omega, by omega⟩) <| .cons rfl (zC rfl) <| .nil) fun a10 w10 m10 hst10 hle10 hk10 => ?_
    have hfr10 := hk10.fr (.o 2 <| .o 4 <| .o 1 <| .n 7 <| .nil)
    clear hst9 hfr9 hk10
    have hst10 := hst10.take 1
    have zq4 := hle9.trans hle10
    have zq5 := hle8.trans zq4
    have zq6 := hle7.trans zq5
    have zq7 := hle6.trans zq6
    have hlh10 := hlh5.trans zq7
    exact ⟨(y + 1, na), m10, by show t.kids.length - (y + 1) < t.kids.length - y; omega, ⟨hst10, hlh10, hfr10.sub (.c <| .c <| .c <| .c <| .nil), ⟨by show y + 1 ≤ t.kids.length; omega, hla.1, by have := hla.2; show na ≤ n; omega⟩⟩⟩
  ·try simp only [nqs] at hb24
   have hge : y = t.kids.length := by omega
   refine zg ?_
   refine hK9 _ _ ?_
   refine zB fun _ hK25 => ?_
   refine zB fun _ hK26 => ?_
   refine rp0 hst6 hfr6 (.cons rfl (zC rfl) <| .nil) fun a7 w7 m7 hst7 hle7 hk7 => ?_
   have hfr7 := hk7.fr (.o 1 <| .o 7 <| .o 2 <| .o 4 <| .n 11 <| .nil)
   clear hst6 hfr6 hk7
   refine hK26 _ _ ?_
   refine zN ?_
   have zq8 := hle6.trans hle7
   have hlh7 := hlh5.trans zq8
   have hlq27 := hlh7
   refine ze (T := [(7, _), (2, _), (4, _)]) (fun (y : Nat × Int) => ([(1, .int .i64 y.2), (11, .int .i64 (y.1 : Int))] : List (Nat × Value))) (fun _ => _) (fun (y : Nat × Int) m => (fun (y : Nat) (u : Int) => (y ≤ t.arms.length) ∧ (0 ≤ u) ∧ (u ≤ n)) y.1 y.2) (fun y => t.arms.length - y.1) ((0, v)) ⟨hst7, MLe.refl _, hfr7.sub (.c <| .c <| .c <| .c <| .c <| .nil), ⟨Nat.zero_le _, hv0, hvn⟩⟩ fun y a8 w8 m8 hh8 => ?_
   have hst8 := hh8.st; have hle8 := hh8.le; have hfr8 := hh8.fr; have hrel := hh8.rel; clear hh8
   clear hst7 hfr7
   obtain ⟨y, u⟩ := y
   dsimp only at hrel hfr8 hst8
   obtain ⟨hyn, hv0, hvn⟩ := hrel
   have hlh8 := hle8
   refine zB fun _ hK28 => ?_
   refine zB fun _ hK29 => ?_
   have zq9 := zq8.trans hle8
   replace hc2 := hc2.mono zq9
   refine rp0 hst8 hfr8 (.cons rfl (zD rfl) <| .cons rfl (zA (off := 6) rfl underlying33 rfl rfl sizeOf25 rfl) <| .cons rfl (zE rfl hc2 isAgg25 rfl) <| .cons rfl (zY rfl underlying25) <| .cons rfl (z7 rfl rfl) <| .nil) fun a9 w9 m9 hst9 hle9 hk9 => ?_
   have hfr9 := hk9.fr (.o 1 <| .o 11 <| .o 7 <| .o 2 <| .o 4 <| .n 45 <| .nil)
   clear hst8 hfr8 hk9
   refine hK29 _ _ ?_
   refine zG hfr9 rfl rfl (fun hb45 => ?_) (fun hb45 => ?_)
   ·try simp only [nqs] at hb45
    refine zJ ?_
    refine hK28 _ _ ?_
    refine zB fun _ hK30 => ?_
    refine zN ?_
    refine zB fun _ hK31 => ?_
    have zq10 := zq9.trans hle9
    have zq11 := zq2.trans zq10
    replace haa_t := haa_t.mono zq11
    obtain ⟨p32, vs32, x32, ho32, hd32, hm_x32, ht32, hcv32, hl32, hv32⟩ := haa_t.nth (k := y) (by omega)
    cases ho32
    obtain ⟨oV32, cV32, bs32, rfl, hva32, hbd32⟩ := hv32.open_
    have hbv32 := hva32.big; have hcv32_ := hva32.cap
    obtain ⟨⟨oK32b, cK32b, oA32b, cA32b, oR32b, cR32b, t032b, t132b, t232b, t332b, t432b, t532b, u032b, u132b, u232b, u332b, u432b, u532b⟩, rfl, hon32b, hkk32b, haa32b, hrr32b⟩ := hbd32.open_
    dsimp only at hkk32b haa32b hrr32b
    have hbg32b := hkk32b.big; have hcp32b := hkk32b.cap; have hbh32b := haa32b.big; have hcq32b := haa32b.cap
    replace hst9 := hst9.more (r := .free) trivial List.nodup_nil (by simp [Res.blocks])
    replace hc2 := hc2.mono hle9
    refine ra0 (tch := [(12, 1, (fun v => .blk v _)), (13, 1, (fun v => .blkx v _ _))]) hst9 hfr9 (.cons rfl (zA (off := 6) rfl underlying33 rfl rfl sizeOf25 rfl) <| .cons rfl (zE rfl hc2 isAgg25 rfl) <| .cons rfl (zD rfl) <| .cons rfl (zH (k := y) rfl rfl underlying25 sizeOf72 rfl (by omega)) <| .cons rfl (zA (off := 2) rfl underlying72 rfl rfl sizeOf33 rfl) <| .cons rfl (Zt rfl hcv32 isAgg33 sizeOf33 rfl rfl) <| .cons rfl (zD rfl) <| .cons rfl (zi (φ := MP.atB x32.body u) rfl (.cons rfl <| .cons rfl <| .nil) call36 (fun w m hK => by have hle_ := KC.le hK; have hA := KC.agree hK; have hbd32 := hbd32.mono hle_; exact FnG.mono (iha _ hm_x32 hA hbd32 hv0 (by omega)) fun _ _ _ _ h => h)) <| .cons rfl (zh 56 rfl rfl rfl fun y56 => zD rfl) <| .cons rfl (zh 48 rfl rfl rfl fun y48 => zS rfl rfl) <| .cons rfl (zh 48 rfl rfl rfl fun y48 => zS rfl rfl) <| .cons rfl (zh 48 rfl rfl rfl fun y48 => zS rfl rfl) <| .consT rfl rfl (fun _ => rfl) rfl (zQ zeroValue33 rfl) <| .consT rfl rfl (fun _ => rfl) rfl (zU 12 rfl rfl rfl fun y12 => ZJ 57 rfl rfl rfl fun y57 => Zj rfl rfl rfl rfl rfl sizeOf33 rfl rfl (fun w m hK => hK.2.1.one)) <| .consA 58 rfl rfl <| .consA 59 rfl rfl <| .nil) fun a10 w10 m10 hst10 hle10 hk10 => ?_
    have hfr10 := hk10.fr (.o 1 <| .o 11 <| .o 7 <| .o 2 <| .o 4 <| .nil)
    obtain ⟨⟨⟨xa, ya⟩, na, ba⟩, e33, ⟨_, hla, _⟩⟩ := hk10.ex 58 rfl
    obtain ⟨⟨⟨xb, yb⟩, nb, bb⟩, e34, _⟩ := hk10.ex 59 rfl
    obtain ⟨g35, e35, _⟩ := hk10.ex 12 rfl
    replace hfr10 := hfr10.cons e35
    replace hfr10 := hfr10.cons (hk10.same 13 rfl e33)
    replace hfr10 := hfr10.cons (hk10.same 14 rfl e34)
    replace hst10 := hst10.fin (L' := [_, _]) (.cons e35 <| .cons e35 <| .nil)
    try simp only [List.take_succ_cons, List.take_zero, List.drop_succ_cons, List.drop_zero, List.cons_append, List.nil_append, List.append_nil, List.length_cons, List.length_nil, Nat.zero_add, Nat.reduceAdd] at hst10
    obtain ⟨⟨⟨xu, yu⟩, nu, bu⟩, ⟨htu, hlu, hptu⟩, hst10⟩ := hst10.unx (k := 1) rfl (fun _ => rfl)
    clear hst9 hfr9 hk10
    dsimp only at hla hlu hptu htu
    refine hK31 _ _ ?_
    refine zB fun _ hK37 => ?_
    refine zB fun _ hK38 => ?_
    refine rp0 hst10 hfr10 (.cons rfl (zD rfl) <| .nil) fun a11 w11 m11 hst11 hle11 hk11 => ?_
    have hfr11 := hk11.fr (.o 1 <| .o 11 <| .o 7 <| .o 2 <| .o 4 <| .o 12 <| .o 13 <| .n 60 <| .nil)
    clear hst10 hfr10 hk11
    refine hK38 _ _ ?_
    refine zG hfr11 rfl rfl (fun hb60 => ?_) (fun hb60 => ?_)
    ·try simp only [nqs] at hb60
     refine zB fun _ hK39 => ?_
     replace htu := htu.mono hle11
     refine ra0 (tch := [(1, 0, (fun _ => .blk _ _))]) hst11 hfr11 (.cons rfl (zd (j := 1) rfl rfl isAgg33 sizeOf33 rfl) <| .consT rfl rfl (fun _ => rfl) rfl (za rfl rfl rfl sizeOf33 rfl rfl htu.one) <| .cons rfl (zC rfl) <| .cons rfl (zC rfl) <| .nil) fun a12 w12 m12 hst12 hle12 hk12 => ?_
     have hfr12 := hk12.fr (.o 1 <| .o 11 <| .o 7 <| .o 4 <| .n 5 <| .n 6 <| .nil)
     replace hst12 := hst12.fin (L' := [_, _]) (.cons rfl <| .nil)
     try simp only [List.take_succ_cons, List.take_zero, List.drop_succ_cons, List.drop_zero, List.cons_append, List.nil_append, List.append_nil, List.length_cons, List.length_nil, Nat.zero_add, Nat.reduceAdd] at hst12
     clear hst11 hfr11 hk12
     refine hK39 _ _ ?_
     refine zK ?_
     repeat (with_reducible first | refine zI ?_ | refine zF ?_)
     replace htu := htu.mono hle12
     exact zL hst12 hfr12 rfl (.cell rfl (zn (zl (hst12.loc.at_ (k := 0) rfl)) isAgg33 sizeOf33) <| .tmp rfl <| .tmp rfl <| .nil) (⟨((xu, yu), 0, true), rfl, htu, ⟨Int.le_refl _, hn0⟩, hptu.elim (fun h => .inl (.arm hm_x32 h)) .inr⟩)
    ·try simp only [nqs] at hb60
     refine zJ ?_
     refine hK37 _ _ ?_
     refine rp0 hst11 hfr11 (.cons rfl (zD rfl) <| .cons rfl (zC rfl) <| .nil) fun a12 w12 m12 hst12 hle12 hk12 => ?_
     have hfr12 := hk12.fr (.o 11 <| .o 7 <| .o 2 <| .o 4 <| .n 1 <| .nil)
     clear hst11 hfr11 hk12
     refine hK30 _ _ ?_
     refine rp0 hst12 hfr12 (.cons rfl (zD rfl) <| .cons rfl (zk rfl rfl ⟨by omega, by omega⟩) <| .cons rfl (zC rfl) <| .nil) fun a13 w13 m13 hst13 hle13 hk13 => ?_
     have hfr13 := hk13.fr (.o 7 <| .o 2 <| .o 4 <| .o 1 <| .n 11 <| .nil)
     clear hst12 hfr12 hk13
     have hst13 := hst13.take 1
     have zq12 := hle12.trans hle13
     have zq13 := hle11.trans zq12
     have zq14 := hle10.trans zq13
     have zq15 := hle9.trans zq14
     have hlh13 := hlh8.trans zq15
     exact ⟨(y + 1, na), m13, by show t.arms.length - (y + 1) < t.arms.length - y; omega, ⟨hst13, hlh13, hfr13.sub (.c <| .c <| .c <| .c <| .c <| .nil), ⟨by show y + 1 ≤ t.arms.length; omega, hla.1, by have := hla.2; show na ≤ n; omega⟩⟩⟩
   ·try simp only [nqs] at hb45
    have hge : y = t.arms.length := by omega
    refine zg ?_
    refine hK25 _ _ ?_
    refine zB fun _ hK41 => ?_
    refine ra0 (tch := [(2, 0, (fun _ => .blk _ _))]) hst9 hfr9 (.cons rfl (zq (.nil) underlying33 zeroValue33 (.cons sizeOf3 <| .cons sizeOf3 <| .cons sizeOf9 <| .cons sizeOf9 <| .cons sizeOf3 <| .cons sizeOf24 <| .cons sizeOf25 <| .cons sizeOf31 <| .cons sizeOf29 <| .cons sizeOf31 <| .nil) rfl) <| .cons rfl (zD rfl) <| .consT rfl rfl (fun _ => rfl) rfl (za rfl rfl rfl sizeOf33 rfl rfl rfl) <| .cons rfl (zC rfl) <| .cons rfl (zC rfl) <| .nil) fun a10 w10 m10 hst10 hle10 hk10 => ?_
    have hfr10 := hk10.fr (.o 1 <| .o 11 <| .o 7 <| .o 4 <| .n 5 <| .n 6 <| .nil)
    replace hst10 := hst10.fin (L' := [_]) (.cons rfl <| .nil)
    try simp only [List.take_succ_cons, List.take_zero, List.drop_succ_cons, List.drop_zero, List.cons_append, List.nil_append, List.append_nil, List.length_cons, List.length_nil, Nat.zero_add, Nat.reduceAdd] at hst10
    clear hst9 hfr9 hk10
    refine hK41 _ _ ?_
    refine zK ?_
    repeat (with_reducible first | refine zI ?_ | refine zF ?_)
    exact zL hst10 hfr10 rfl (.cell rfl (zn (zl (hst10.loc.at_ (k := 0) rfl)) isAgg33 sizeOf33) <| .tmp rfl <| .tmp rfl <| .nil) (⟨((Zv, TmY.zero none 0 none 0), u, false), rfl, zBz, ⟨hv0, hvn⟩, .inr rfl⟩)
theorem at_c (t : Tm) : at_G t := Tm.rec_ (p := at_G) (fun t ihk iha => at_s ihk iha) t
end Go.Proofs.YtmdhhjmomilhjaaDoor
namespace Go.Proofs.YtmdhhjmomilhjaaDoor
open Go.Proofs.Tryd
set_option linter.all false
set_option maxRecDepth 4000
open Go.RowKit
set_option maxHeartbeats 400000 in
theorem sameNames_c {w : World} {m : Mem} {o_pl : Option Addr} {c_pl : Nat} {pl : List Str} {o_ql : Option Addr} {c_ql : Nat} {ql : List Str} (hA : Agree w m) (h_pl : Strs m o_pl pl.length c_pl pl) (h_ql : Strs m o_ql ql.length c_ql ql) : FnV Tryd.prog 32 #[.slice o_pl pl.length c_pl, .slice o_ql ql.length c_ql] w m (fun _ _ v => v = .bool (decide (pl = ql))) := by
 have hb_pl := h_pl.big; have hc_pl := h_pl.cap
 have hb_ql := h_ql.big; have hc_ql := h_ql.cap
 refine zX (vs := [_, _]) func32 rfl rfl rfl fun a0 hfr0 => ?_
 have hst0 := zW hA (zf [] _ w m)
 have hM : MLe m m := MLe.refl m
 refine zB fun _ hK1 => ?_
 refine rp0 hst0 hfr0 (.cons rfl (zC rfl) <| .nil) fun a1 w1 m1 hst1 hle1 hk1 => ?_
 have hfr1 := hk1.fr (.o 0 <| .o 1 <| .nil)
 replace h_pl := h_pl.mono hle1
 replace h_ql := h_ql.mono hle1
 clear hst0 hfr0 hk1
 refine hK1 _ _ ?_
 refine zB fun _ hK2 => ?_
 refine zB fun _ hK3 => ?_
 refine rp0 hst1 hfr1 (.cons rfl (zD rfl) <| .cons rfl (zY rfl underlying27) <| .cons rfl (zD rfl) <| .cons rfl (zY rfl underlying27) <| .cons rfl (ZP rfl rfl) <| .nil) fun a2 w2 m2 hst2 hle2 hk2 => ?_
 have hfr2 := hk2.fr (.o 0 <| .o 1 <| .n 10 <| .nil)
 replace h_pl := h_pl.mono hle2
 replace h_ql := h_ql.mono hle2
 clear hst1 hfr1 hk2
 refine hK3 _ _ ?_
 refine zG hfr2 rfl rfl (fun hb10 => ?_) (fun hb10 => ?_)
 ·try simp only [nqs] at hb10
  have hne : ¬ pl = ql := fun h => by subst h; omega
  refine zB fun _ hK4 => ?_
  refine rp0 hst2 hfr2 (.cons rfl (zC rfl) <| .nil) fun a3 w3 m3 hst3 hle3 hk3 => ?_
  have hfr3 := hk3.fr (.n 4 <| .nil)
  clear hst2 hfr2 hk3
  refine hK4 _ _ ?_
  refine zK ?_
  repeat (with_reducible first | refine zI ?_ | refine zF ?_)
  exact zL hst3 hfr3 rfl (.tmp rfl <| .nil) (by refine congrArg Value.bool ?_; simp [hne])
 ·try simp only [nqs] at hb10
  have hln : pl.length = ql.length := by omega
  refine zJ ?_
  refine hK2 _ _ ?_
  refine zB fun _ hK6 => ?_
  refine zB fun _ hK7 => ?_
  refine rp0 hst2 hfr2 (.cons rfl (zC rfl) <| .nil) fun a3 w3 m3 hst3 hle3 hk3 => ?_
  have hfr3 := hk3.fr (.o 0 <| .o 1 <| .n 5 <| .nil)
  clear hst2 hfr2 hk3
  refine hK7 _ _ ?_
  refine zN ?_
  refine ze (T := [(0, _), (1, _)]) (fun (y : Nat) => ([(5, .int .i64 (y : Int))] : List (Nat × Value))) (fun _ => _) (fun (y : Nat) m => (y ≤ pl.length) ∧ ((pl = ql) = (pl.drop y = ql.drop y))) (fun y => pl.length - y) (0) ⟨hst3, MLe.refl _, hfr3.sub (.c <| .c <| .c <| .nil), ⟨Nat.zero_le _, rfl⟩⟩ fun y a4 w4 m4 hh4 => ?_
  have hst4 := hh4.st; have hle4 := hh4.le; have hfr4 := hh4.fr; have hrel := hh4.rel; clear hh4
  clear hst3 hfr3
  obtain ⟨hyn, hrem⟩ := hrel
  have hlh4 := hle4
  refine zB fun _ hK9 => ?_
  refine zB fun _ hK10 => ?_
  refine rp0 hst4 hfr4 (.cons rfl (zD rfl) <| .cons rfl (zD rfl) <| .cons rfl (zY rfl underlying27) <| .cons rfl (z7 rfl rfl) <| .nil) fun a5 w5 m5 hst5 hle5 hk5 => ?_
  have hfr5 := hk5.fr (.o 5 <| .o 0 <| .o 1 <| .n 14 <| .nil)
  clear hst4 hfr4 hk5
  refine hK10 _ _ ?_
  refine zG hfr5 rfl rfl (fun hb14 => ?_) (fun hb14 => ?_)
  ·try simp only [nqs] at hb14
   refine zJ ?_
   refine hK9 _ _ ?_
   refine zB fun _ hK11 => ?_
   refine zN ?_
   refine zB fun _ hK12 => ?_
   have zq1 := hle4.trans hle5
   have zq2 := hle3.trans zq1
   replace h_pl := h_pl.mono zq2
   obtain ⟨p13, vs13, x13, ho13, hd13, hm_x13, ht13, hcv13, hl13, hv13⟩ := h_pl.nth (k := y) (by omega)
   cases ho13
   subst hv13
   try rw [hd13] at hrem
   replace h_ql := h_ql.mono zq2
   obtain ⟨p14, vs14, x14, ho14, hd14, hm_x14, ht14, hcv14, hl14, hv14⟩ := h_ql.nth (k := y) (by omega)
   cases ho14
   subst hv14
   try rw [hd14] at hrem
   refine ZC (fun _ => mixed) hst5 hfr5 (by kernel_rfl) (by kernel_rfl) (.cons rfl (zD rfl) <| .cons rfl (zD rfl) <| .cons rfl (zH (k := y) rfl rfl underlying27 sizeOf9 rfl (by omega)) <| .cons rfl (ZN rfl hcv13 isAgg9 rfl) <| .cons rfl (zD rfl) <| .cons rfl (zD rfl) <| .cons rfl (zH (k := y) rfl rfl underlying27 sizeOf9 rfl (by omega)) <| .cons rfl (ZN rfl hcv14 isAgg9 rfl) <| .cons rfl (Z7 rfl rfl) <| .nil) fun a6 w6 m6 hst6 hle6 hk6 => ?_
   have hfr6 := hk6.fr (.o 5 <| .o 0 <| .o 1 <| .n 25 <| .nil)
   clear hst5 hfr5 hk6
   refine hK12 _ _ ?_
   refine zG hfr6 rfl rfl (fun hb25 => ?_) (fun hb25 => ?_)
   ·try simp only [nqs] at hb25
    refine zB fun _ hK15 => ?_
    refine rp0 hst6 hfr6 (.cons rfl (zC rfl) <| .nil) fun a7 w7 m7 hst7 hle7 hk7 => ?_
    have hfr7 := hk7.fr (.o 5 <| .n 4 <| .nil)
    clear hst6 hfr6 hk7
    refine hK15 _ _ ?_
    refine zK ?_
    repeat (with_reducible first | refine zI ?_ | refine zF ?_)
    exact zL hst7 hfr7 rfl (.tmp rfl <| .nil) (by refine congrArg Value.bool ?_; rw [decide_eq_false (by rw [hrem]; simp [hb25])])
   ·try simp only [nqs] at hb25
    refine zJ ?_
    refine hK11 _ _ ?_
    refine rp0 hst6 hfr6 (.cons rfl (zD rfl) <| .cons rfl (zk rfl rfl ⟨by omega, by omega⟩) <| .cons rfl (zC rfl) <| .nil) fun a7 w7 m7 hst7 hle7 hk7 => ?_
    have hfr7 := hk7.fr (.o 0 <| .o 1 <| .n 5 <| .nil)
    clear hst6 hfr6 hk7
    have zq3 := hle6.trans hle7
    have zq4 := hle5.trans zq3
    have hlh7 := hlh4.trans zq4
    exact ⟨y + 1, m7, by show pl.length - (y + 1) < pl.length - y; omega, ⟨hst7, hlh7, hfr7.sub (.c <| .c <| .c <| .nil), ⟨by show y + 1 ≤ pl.length; omega, by rw [hrem, hb25]; simp⟩⟩⟩
  ·try simp only [nqs] at hb14
   have hge : y = pl.length := by omega
   rw [List.drop_of_length_le (by omega), List.drop_of_length_le (by omega)] at hrem
   refine zg ?_
   refine hK6 _ _ ?_
   refine zB fun _ hK17 => ?_
   refine rp0 hst5 hfr5 (.cons rfl (zC rfl) <| .nil) fun a6 w6 m6 hst6 hle6 hk6 => ?_
   have hfr6 := hk6.fr (.o 5 <| .n 4 <| .nil)
   clear hst5 hfr5 hk6
   refine hK17 _ _ ?_
   refine zK ?_
   repeat (with_reducible first | refine zI ?_ | refine zF ?_)
   exact zL hst6 hfr6 rfl (.tmp rfl <| .nil) (by refine congrArg Value.bool ?_; rw [decide_eq_true (by rw [hrem])])
end Go.Proofs.YtmdhhjmomilhjaaDoor
namespace Go.Proofs.YtmdhhjmomilhjaaDoor
open Go.Proofs.Tryd
set_option linter.all false
set_option maxRecDepth 4000
open Go.RowKit
def shOk (k : Int) (n : Nat) : Prop := (k = 5 → n ≤ 1) ∧ (k = 8 → n ≤ 2)
inductive ShT : Tm → Prop where
 | mk {t : Tm} (h : shOk t.kind t.kids.length) (hk : ∀ u ∈ t.kids, ShT u) (ha : ∀ a ∈ t.arms, ShT a.body) : ShT t
theorem ShT.here {t : Tm} (h : ShT t) : shOk t.kind t.kids.length := by cases h; assumption
theorem ShT.kid {t u : Tm} (h : ShT t) (hu : u ∈ t.kids) : ShT u := by cases h with | mk _ hk _ => exact hk u hu
theorem ShT.arm {t : Tm} {a : Ar} (h : ShT t) (ha : a ∈ t.arms) : ShT a.body := by cases h with | mk _ _ hh => exact hh a ha
theorem RtT.sh {t : Tm} (h : RtT t) : ShT t := by
 induction t using Tm.rec_ with
 | h t ihk iha =>
  refine .mk ?_ (fun u hu => ihk u hu (h.kid hu)) (fun a ha => iha a ha (h.arm ha))
  have := h.here.1
  unfold Z9 at this
  constructor <;> intro hk <;> rw [hk] at this <;> simp at this <;> omega
theorem zEE : ShT Zv := .mk ⟨fun h => (by cases h), fun h => (by cases h)⟩ (fun _ h => nomatch h) (fun _ h => nomatch h)
def clH (t : Tm) : Prop := zAF t = t.name ∧ Z2 t = t.param ∧ zAX t = t.n
inductive ClT : Tm → Prop where
 | mk {t : Tm} (h : clH t) (hk : ∀ u ∈ t.kids, ClT u) (ha : ∀ a ∈ t.arms, ClT a.body) : ClT t
theorem ClT.kid {t u : Tm} (h : ClT t) (hu : u ∈ t.kids) : ClT u := by cases h with | mk _ hk _ => exact hk u hu
theorem ClT.arm {t : Tm} {a : Ar} (h : ClT t) (ha : a ∈ t.arms) : ClT a.body := by cases h with | mk _ _ hh => exact hh a ha
theorem ClT.sub {x t : Tm} (hs : PtT x t) (h : ClT t) : ClT x := by
 induction hs with
 | refl => exact h
 | kid hu _ ih => exact ih (h.kid hu)
 | arm ha _ ih => exact ih (h.arm ha)
theorem clean_cl (t : Tm) : ClT (ZK t) := by
 induction t using Tm.rec_ with
 | h t ihk iha =>
  rw [zAo]
  refine .mk ⟨?_, ?_, ?_⟩ (fun u hu => ?_) (fun a ha => ?_)
  ·show (if t.kind = 2 ∨ t.kind = 3 ∨ t.kind = 4 ∨ t.kind = 6 ∨ t.kind = 9 ∨ t.kind = 12 then [] else zAF t) = zAF t
   unfold zAF; split <;> rfl
  ·show (if t.kind = 8 then Z2 t else []) = Z2 t
   unfold Z2; split <;> rfl
  ·show (if t.kind = 2 ∨ t.kind = 3 then zAX t else 0) = zAX t
   unfold zAX; split <;> rfl
  ·obtain ⟨v, hv, rfl⟩ := List.mem_map.1 hu; exact ihk v hv
  ·obtain ⟨v, hv, rfl⟩ := List.mem_map.1 ha; exact iha v hv
theorem zero_cl : ClT Zv := .mk ⟨rfl, rfl, rfl⟩ (fun _ h => nomatch h) (fun _ h => nomatch h)
def MP.partB (B : Nat) : MP := MP.mem (fun y : (Tm × TmY) × Bool => .tuple #[.agg (tmV y.1.1 y.1.2).toArray, .bool y.2]) (fun y m => TmR m y.1.1 (tmV y.1.1 y.1.2) ∧ ShT y.1.1 ∧ zP y.1.1 ≤ 300 ∧ zt y.1.1 ≤ B ∧ (RtT y.1.1 ∨ y.1.1 = Zv) ∧ ClT y.1.1) fun hm h => ⟨h.1.mono hm, h.2⟩
set_option maxHeartbeats 1600000 in
theorem part_c {w : World} {m : Mem} {p : Pg} {vs_p : List Value} {n : Int} (hA : Agree w m) (h_p : PgR m p vs_p) (hbo : zBA p.effects ≤ 1000000000) (hbc : consN p.datas ≤ 1000000000) (hbd : p.datas.length ≤ 1000000000) (B : Nat) (hB : zt p.body ≤ B) (hB2 : B ≤ 1000000000) : FnV Tryd.prog 20 #[.agg vs_p.toArray, .int .i64 n] w m (fun _ m v => (MP.partB B).p m v) := by
 obtain ⟨oE_p, cE_p, oD_p, cD_p, bs_p, rfl, hef_p, hda_p, hpb_p⟩ := id h_p
 have hbe_p := hef_p.big; have hce_p := hef_p.cap; have hbda_p := hda_p.big; have hcd_p := hda_p.cap
 obtain ⟨⟨oK_pb, cK_pb, oA_pb, cA_pb, oR_pb, cR_pb, t0_pb, t1_pb, t2_pb, t3_pb, t4_pb, t5_pb, u0_pb, u1_pb, u2_pb, u3_pb, u4_pb, u5_pb⟩, rfl, hon_pb, hkk_pb, haa_pb, hrr_pb⟩ := hpb_p.open_
 dsimp only at hkk_pb haa_pb hrr_pb
 have hbg_pb := hkk_pb.big; have hcp_pb := hkk_pb.cap; have hbh_pb := haa_pb.big; have hcq_pb := haa_pb.cap
 refine zX (vs := [_, _]) func20 rfl rfl rfl fun a0 hfr0 => ?_
 have hst0 := zW hA (zf [] _ w m)
 have hM : MLe m m := MLe.refl m
 have hbig : zt p.body ≤ 1000000000 := Nat.le_trans hB hB2
 have hcb := countM_bulk p.body
 have hband : 0 ≤ band n 65535 ∧ band n 65535 ≤ 65535 := band_le n 65535 (by decide)
 refine zB fun _ hK1 => ?_
 replace hst0 := hst0.more (r := .free) trivial List.nodup_nil (by simp [Res.blocks])
 refine ra0 (tch := [(1, 0, (fun v => .blk v _))]) hst0 hfr0 (.cons rfl (zv rfl rfl) <| .consT rfl rfl (fun _ => rfl) rfl (zQ zeroValue33 rfl) <| .cons rfl (zC rfl) <| .nil) fun a1 w1 m1 hst1 hle1 hk1 => ?_
 have hfr1 := hk1.fr (.o 1 <| .nil)
 obtain ⟨g2, e2, hc2⟩ := hk1.ex 2 rfl
 replace hfr1 := hfr1.cons e2
 obtain ⟨g3, e3, _⟩ := hk1.ex 4 rfl
 replace hfr1 := hfr1.cons e3
 replace hst1 := hst1.fin (L' := [_]) (.cons e3 <| .nil)
 replace h_p := h_p.mono hle1
 replace hpb_p := hpb_p.mono hle1
 clear hst0 hfr0 hk1
 refine hK1 _ _ ?_
 refine zB fun _ hK4 => ?_
 refine zB fun _ hK5 => ?_
 refine rp0 hst1 hfr1 (.cons rfl (zA (off := 2) rfl underlying35 rfl rfl sizeOf33 rfl) <| .cons rfl (Zt rfl hc2 isAgg33 sizeOf33 rfl rfl) <| .cons rfl (zc rfl (.cons rfl <| .nil) call34 (fun w m hK => by have hle_ := KC.le hK; have hA := KC.agree hK; have hpb_p := hpb_p.mono hle_; exact count_c p.body hA hpb_p (by omega))) <| .cons rfl (zAw rfl rfl) <| .cons rfl (zD rfl) <| .cons rfl (zA (off := 0) rfl underlying35 rfl rfl sizeOf22 rfl) <| .cons rfl (zE rfl hc2 isAgg22 rfl) <| .cons rfl (zY rfl underlying22) <| .cons rfl (zAw rfl rfl) <| .cons rfl (zx rfl rfl rfl) <| .cons rfl (zD rfl) <| .cons rfl (zA (off := 1) rfl underlying35 rfl rfl sizeOf23 rfl) <| .cons rfl (zE rfl hc2 isAgg23 rfl) <| .cons rfl (zY rfl underlying23) <| .cons rfl (zAw rfl rfl) <| .cons rfl (zx rfl rfl rfl) <| .nil) fun a2 w2 m2 hst2 hle2 hk2 => ?_
 have hfr2 := hk2.fr (.o 1 <| .o 2 <| .o 4 <| .n 26 <| .nil)
 replace h_p := h_p.mono hle2
 replace hpb_p := hpb_p.mono hle2
 replace hc2 := hc2.mono hle2
 clear hst1 hfr1 hk2
 refine hK5 _ _ ?_
 refine zG hfr2 rfl rfl (fun hb26 => ?_) (fun hb26 => ?_)
 ·try simp only [nqs] at hb26
  refine zB fun _ hK6 => ?_
  refine ra0 (tch := [(1, 0, (fun _ => .blk _ _))]) hst2 hfr2 (.cons rfl (zq (.nil) underlying33 zeroValue33 (.cons sizeOf3 <| .cons sizeOf3 <| .cons sizeOf9 <| .cons sizeOf9 <| .cons sizeOf3 <| .cons sizeOf24 <| .cons sizeOf25 <| .cons sizeOf31 <| .cons sizeOf29 <| .cons sizeOf31 <| .nil) rfl) <| .consT rfl rfl (fun _ => rfl) rfl (za rfl rfl rfl sizeOf33 rfl rfl rfl) <| .cons rfl (zC rfl) <| .nil) fun a3 w3 m3 hst3 hle3 hk3 => ?_
  have hfr3 := hk3.fr (.o 4 <| .n 5 <| .nil)
  replace hst3 := hst3.fin (L' := [_]) (.cons rfl <| .nil)
  try simp only [List.take_succ_cons, List.take_zero, List.drop_succ_cons, List.drop_zero, List.cons_append, List.nil_append, List.append_nil, List.length_cons, List.length_nil, Nat.zero_add, Nat.reduceAdd] at hst3
  clear hst2 hfr2 hk3
  refine hK6 _ _ ?_
  refine zK ?_
  repeat (with_reducible first | refine zI ?_ | refine zF ?_)
  exact zL hst3 hfr3 rfl (.cell rfl (zn (zl (hst3.loc.at_ (k := 0) rfl)) isAgg33 sizeOf33) <| .tmp rfl <| .nil) (⟨((Zv, TmY.zero none 0 none 0), false), rfl, zBz, zEE, by decide, by have := Zi p.body; show 3 + 0 + 0 + 0 + 0 ≤ B; omega, .inr rfl, zero_cl⟩)
 ·try simp only [nqs] at hb26
  have hc3 : zP p.body ≤ 300 := by omega
  refine zJ ?_
  refine hK4 _ _ ?_
  refine zB fun _ hK8 => ?_
  refine ra0 (tch := []) hst2 hfr2 (.cons rfl (zO rfl hc2 isAgg35 sizeOf35 rfl rfl) <| .cons rfl (zi (φ := MP.chkB p.body) rfl (.cons rfl <| .nil) call35 (fun w m hK => by have hle_ := KC.le hK; have hA := KC.agree hK; have h_p := h_p.mono hle_; exact FnG.mono (check_c hA h_p hbo hbc hbd hbig) fun _ _ _ _ h => h)) <| .cons rfl (zh 30 rfl rfl rfl fun y30 => zD rfl) <| .cons rfl (zh 28 rfl rfl rfl fun y28 => zS rfl rfl) <| .cons rfl (zh 28 rfl rfl rfl fun y28 => zS rfl rfl) <| .consA 31 rfl rfl <| .consA 32 rfl rfl <| .nil) fun a3 w3 m3 hst3 hle3 hk3 => ?_
  have hfr3 := hk3.fr (.o 1 <| .o 2 <| .o 4 <| .nil)
  obtain ⟨⟨a31, b31⟩, e9, _⟩ := hk3.ex 31 rfl
  obtain ⟨⟨a32, b32⟩, e10, hr32⟩ := hk3.ex 32 rfl
  replace hfr3 := hfr3.cons (hk3.same 7 rfl e10)
  clear hst2 hfr2 hk3
  refine hK8 _ _ ?_
  refine zB fun _ hK11 => ?_
  refine zB fun _ hK12 => ?_
  refine rp0 hst3 hfr3 (.cons rfl (zD rfl) <| .cons rfl (ZP rfl rfl) <| .nil) fun a4 w4 m4 hst4 hle4 hk4 => ?_
  have hfr4 := hk4.fr (.o 1 <| .o 2 <| .o 4 <| .n 34 <| .nil)
  clear hst3 hfr3 hk4
  refine hK12 _ _ ?_
  refine zG hfr4 rfl rfl (fun hb34 => ?_) (fun hb34 => ?_)
  ·try simp only [nqs] at hb34
   refine zB fun _ hK13 => ?_
   refine ra0 (tch := [(1, 0, (fun _ => .blk _ _))]) hst4 hfr4 (.cons rfl (zq (.nil) underlying33 zeroValue33 (.cons sizeOf3 <| .cons sizeOf3 <| .cons sizeOf9 <| .cons sizeOf9 <| .cons sizeOf3 <| .cons sizeOf24 <| .cons sizeOf25 <| .cons sizeOf31 <| .cons sizeOf29 <| .cons sizeOf31 <| .nil) rfl) <| .consT rfl rfl (fun _ => rfl) rfl (za rfl rfl rfl sizeOf33 rfl rfl rfl) <| .cons rfl (zC rfl) <| .nil) fun a5 w5 m5 hst5 hle5 hk5 => ?_
   have hfr5 := hk5.fr (.o 4 <| .n 5 <| .nil)
   replace hst5 := hst5.fin (L' := [_]) (.cons rfl <| .nil)
   try simp only [List.take_succ_cons, List.take_zero, List.drop_succ_cons, List.drop_zero, List.cons_append, List.nil_append, List.append_nil, List.length_cons, List.length_nil, Nat.zero_add, Nat.reduceAdd] at hst5
   clear hst4 hfr4 hk5
   refine hK13 _ _ ?_
   refine zK ?_
   repeat (with_reducible first | refine zI ?_ | refine zF ?_)
   exact zL hst5 hfr5 rfl (.cell rfl (zn (zl (hst5.loc.at_ (k := 0) rfl)) isAgg33 sizeOf33) <| .tmp rfl <| .nil) (⟨((Zv, TmY.zero none 0 none 0), false), rfl, zBz, zEE, by decide, by have := Zi p.body; show 3 + 0 + 0 + 0 + 0 ≤ B; omega, .inr rfl, zero_cl⟩)
  ·try simp only [nqs] at hb34
   have hrt : RtT p.body := hr32 (by omega)
   have hc1 : 1 ≤ zP p.body := by rw [zr]; omega
   have hq1 : 0 ≤ (band n 65535).tmod (zP p.body : Int) := Int.tmod_nonneg _ hband.1
   have hq2 : (band n 65535).tmod (zP p.body : Int) ≤ 65535 := by rw [Int.tmod_eq_emod_of_nonneg hband.1]; have := Int.emod_lt_of_pos (band n 65535) (b := (zP p.body : Int)) (by omega); omega
   refine zJ ?_
   refine hK11 _ _ ?_
   refine zB fun _ hK15 => ?_
   replace hst4 := hst4.more (r := .free) trivial List.nodup_nil (by simp [Res.blocks])
   have zq1 := hle3.trans hle4
   replace hpb_p := hpb_p.mono zq1
   replace hc2 := hc2.mono zq1
   refine zz (tch := [(14, 1, (fun v => .blk v _)), (15, 1, (fun v => .blkx v _ _))]) (fun _ => mixed) hst4 hfr4 (by kernel_rfl) (by kernel_rfl) (by kernel_rfl) (.cons rfl (zA (off := 2) rfl underlying35 rfl rfl sizeOf33 rfl) <| .cons rfl (Zt rfl hc2 isAgg33 sizeOf33 rfl rfl) <| .cons rfl (zi (φ := MP.tm (ZK p.body)) rfl (.cons rfl <| .nil) call11 (fun w m hK => by have hle_ := KC.le hK; have hA := KC.agree hK; have hpb_p := hpb_p.mono hle_; exact FnG.mono (clean_c p.body hA hpb_p (by omega)) fun _ _ _ _ h => h)) <| .cons rfl (zD rfl) <| .cons rfl (ob_band rfl rfl) <| .cons rfl (zA (off := 2) rfl underlying35 rfl rfl sizeOf33 rfl) <| .cons rfl (Zt rfl hc2 isAgg33 sizeOf33 rfl rfl) <| .cons rfl (zc rfl (.cons rfl <| .nil) call34 (fun w m hK => by have hle_ := KC.le hK; have hA := KC.agree hK; have hpb_p := hpb_p.mono hle_; exact count_c p.body hA hpb_p (by omega))) <| .cons rfl (ob_rem rfl rfl (by omega)) <| .cons rfl (Z6 39 rfl rfl rfl fun y39 => zi (φ := MP.atB (ZK p.body) ((band n 65535).tmod (zP p.body : Int))) rfl (.cons rfl <| .cons rfl <| .nil) call36 (fun w m hK => by have hle_ := KC.le hK; have hA := KC.agree hK; have hr0_ := hK.2; exact FnG.mono (at_c (ZK p.body) hA hK.2 hq1 (by omega)) fun _ _ _ _ h => h)) <| .cons rfl (zh 46 rfl rfl rfl fun y46 => zD rfl) <| .cons rfl (zh 36 rfl rfl rfl fun y36 => zS rfl rfl) <| .cons rfl (zh 36 rfl rfl rfl fun y36 => zS rfl rfl) <| .cons rfl (zh 36 rfl rfl rfl fun y36 => zS rfl rfl) <| .consT rfl rfl (fun _ => rfl) rfl (zQ zeroValue33 rfl) <| .consT rfl rfl (fun _ => rfl) rfl (zU 8 rfl rfl rfl fun y8 => ZJ 47 rfl rfl rfl fun y47 => Zj rfl rfl rfl rfl rfl sizeOf33 rfl rfl (fun w m hK => hK.2.1.one)) <| .consA 48 rfl rfl <| .consA 49 rfl rfl <| .nil) fun a5 w5 m5 hst5 hle5 hk5 => ?_
   have hfr5 := hk5.fr (.o 4 <| .nil)
   obtain ⟨⟨⟨xa, ya⟩, na, ba⟩, e16, _⟩ := hk5.ex 48 rfl
   obtain ⟨⟨⟨xb, yb⟩, nb, bb⟩, e17, _⟩ := hk5.ex 49 rfl
   obtain ⟨g18, e18, _⟩ := hk5.ex 8 rfl
   replace hfr5 := hfr5.cons e18
   replace hfr5 := hfr5.cons (hk5.same 10 rfl e17)
   replace hst5 := hst5.fin (L' := [_, _]) (.cons e18 <| .cons e18 <| .nil)
   try simp only [List.take_succ_cons, List.take_zero, List.drop_succ_cons, List.drop_zero, List.cons_append, List.nil_append, List.append_nil, List.length_cons, List.length_nil, Nat.zero_add, Nat.reduceAdd] at hst5
   obtain ⟨⟨⟨xu, yu⟩, nu, bu⟩, ⟨htu, hlu, hptu⟩, hst5⟩ := hst5.unx (k := 1) rfl (fun _ => rfl)
   clear hst4 hfr4 hk5
   dsimp only at hptu htu
   refine hK15 _ _ ?_
   refine zB fun _ hK20 => ?_
   refine ra0 (tch := [(2, 0, (fun _ => .blk _ _))]) hst5 hfr5 (.cons rfl (zd (j := 1) rfl rfl isAgg33 sizeOf33 rfl) <| .cons rfl (zD rfl) <| .consT rfl rfl (fun _ => rfl) rfl (za rfl rfl rfl sizeOf33 rfl rfl htu.one) <| .cons rfl (zC rfl) <| .nil) fun a6 w6 m6 hst6 hle6 hk6 => ?_
   have hfr6 := hk6.fr (.o 4 <| .n 5 <| .nil)
   replace hst6 := hst6.fin (L' := [_, _]) (.cons rfl <| .nil)
   try simp only [List.take_succ_cons, List.take_zero, List.drop_succ_cons, List.drop_zero, List.cons_append, List.nil_append, List.append_nil, List.length_cons, List.length_nil, Nat.zero_add, Nat.reduceAdd] at hst6
   clear hst5 hfr5 hk6
   refine hK20 _ _ ?_
   refine zK ?_
   repeat (with_reducible first | refine zI ?_ | refine zF ?_)
   replace htu := htu.mono hle6
   exact zL hst6 hfr6 rfl (.cell rfl (zn (zl (hst6.loc.at_ (k := 0) rfl)) isAgg33 sizeOf33) <| .tmp rfl <| .nil) (⟨((xu, yu), bb), rfl, htu, hptu.elim (fun h => (hrt.clean.sub h).sh) (fun h => by subst h; exact zEE), hptu.elim (fun h => Nat.le_trans h.count (by rw [cleanT_count]; exact hc3)) (fun h => by subst h; show zP Zv ≤ 300; decide), hptu.elim (fun h => Nat.le_trans h.bulk (Nat.le_trans (cleanT_bulk _) hB)) (fun h => by subst h; have := Zi p.body; show 3 + 0 + 0 + 0 + 0 ≤ B; omega), hptu.imp (fun h => hrt.clean.sub h) id, hptu.elim (fun h => (clean_cl _).sub h) (fun h => by subst h; exact zero_cl)⟩)
end Go.Proofs.YtmdhhjmomilhjaaDoor
namespace Go.Proofs.YtmdhhjmomilhjaaDoor
set_option linter.all false
open Go.RowKit
def RoundR (bs : List Nat) (Ψ1 Ψx : World → Mem → Prop) (w : World) (m : Mem) : Ending → World → Prop := fun e w' => ∃ v m', e = .returned v ∧ ExtG bs w m w' m' ∧
 ((v = .bool true ∧ (Res.pack bs Ψ1).holds w' m') ∨ (v = .bool false ∧ (Res.pack bs Ψx).holds w' m'))
def YieldR (P : Program) (l : Nat) (args : List Value) (w : World) (R : Ending → World → Prop) : Prop :=
 ∃ fn tmps assign body, (Instr.yield l args.toArray).run P w = .ok (.round l fn tmps assign body) w ∧ RoundIn Fence.wide 0 P l fn tmps assign body w R
def YieldW (P : Program) (l : Nat) (bs : List Nat) (m0 : Mem) (Y : Mem → List Value → Prop) (Ψ0 Ψ1 Ψx : World → Mem → Prop) : Prop :=
 ∀ w m args, Agree w m → MLe m0 m → Y m args → (Res.pack bs Ψ0).holds w m → YieldR P l args w (RoundR bs Ψ1 Ψx w m)
def IterC (P : Program) (fid : FuncId) (cap : List Value) (N : Nat) (Y : Nat → Mem → List Value → Prop) (m0 : Mem) : Prop :=
 ∀ (l : Nat) (bs : List Nat) (Ψ : Nat → World → Mem → Prop) (Ψx : World → Mem → Prop) (w : World) (m : Mem), Agree w m → MLe m0 m → bs.Nodup → (Res.pack bs (Ψ 0)).holds w m →
  (∀ i, i < N → YieldW P l bs m0 (Y i) (Ψ i) (Ψ (i + 1)) Ψx) →
  FnG P fid (.func (.yield l) #[] #[] :: cap).toArray bs w m fun w' m' _ => (Res.pack bs fun w m => Ψ N w m ∨ Ψx w m).holds w' m'
theorem ZT {bs : List Nat} {ψ ψ' : World → Mem → Prop} {w : World} {m : Mem} (h : (Res.pack bs ψ).holds w m) (hh : ∀ w m, ψ w m → ψ' w m) : (Res.pack bs ψ').holds w m :=
 ⟨h.1, fun G w' m' hE hd => hh _ _ (h.2 G w' m' hE hd)⟩
theorem pack_at {bs : List Nat} {ψ : World → Mem → Prop} {w : World} {m : Mem} (h : (Res.pack bs ψ).holds w m) (ha : Agree w m) : ψ w m := h.2 [] w m (ExtG.refl _ ha) (by simp)
theorem pack_of {α : Type} {bs : List Nat} {Ly : α → List Res} {J : α → Mem → Prop} (hJ : ∀ y m m', MLe m m' → J y m → J y m') {y : α} {w : World} {m : Mem} (hb : (Ly y).flatMap Res.blocks = bs)
  (h : ∀ r ∈ Ly y, r.holds w m) (hj : J y m) : (Res.pack bs fun w m => ∃ y, (Ly y).flatMap Res.blocks = bs ∧ (∀ r ∈ Ly y, r.holds w m) ∧ J y m).holds w m := by
 subst hb
 refine ⟨fun g hg => ?_, fun G w' m' hE hd => ⟨y, rfl, fun r hr => Res.keep (h r hr) hE fun g hg => hd g (List.mem_flatMap.2 ⟨r, hr, hg⟩), hJ y _ _ hE.le hj⟩⟩
 obtain ⟨r, hr, hgr⟩ := List.mem_flatMap.1 hg
 exact Res.lt (h r hr) g hgr
theorem St.weaken {G0 : List Nat} {W : World} {mE : Mem} {L : List Res} {k : Nat} {r r' : Res} {w : World} {m : Mem} (h : St G0 W mE L w m) (hk : L[k]? = some r) (hb : r'.blocks = r.blocks) (hh : r.holds w m → r'.holds w m) : St G0 W mE (L.set k r') w m := by
 have hnd : r.blocks.Nodup := by
  have := h.loc.apart
  have hm := List.mem_of_getElem? hk
  have hs : List.Sublist r.blocks (L.flatMap Res.blocks) := by
   obtain ⟨a, b, e⟩ := List.append_of_mem hm
   rw [e]; simp only [List.flatMap_append, List.flatMap_cons]
   exact (List.sublist_append_left _ _).trans (List.sublist_append_right _ _)
  exact this.sublist hs
 exact h.touch hk ⟨ExtG.refl _ h.agree, hh (h.loc.at_ hk), by rw [hb]; exact hnd, fun g hg => .inl (by rw [← hb]; exact hg)⟩
section
variable {P : Program} {rd : Option Nat} {K : World → Mem → Prop} {m0 : Mem} {L : List Res} {us : List Nat} {ch : List (Nat × Bool)} {pre : List Ent} {T : List (Nat × Value)}
variable {dst : Option Nat} {ty : TypeId} {pos : String} {af : Array Edge} {gd : Option (Nat × Bool)}
theorem zDY [hK : KC K m0 L] {d : Nat} {f : Operand} {l : Nat} {xs : List Operand} {vs : List Value} {ats : Array TypeId} {bs : List Nat} {mY : Mem} {Y : Mem → List Value → Prop} {Ψ0 Ψ1 Ψx : World → Mem → Prop}
  (hf : ev us ch pre T f = some (.func (.yield l) #[] #[])) (hxs : Evs us ch pre T xs vs) (hY : YieldW P l bs mY Y Ψ0 Ψ1 Ψx) (hm : MLe mY m0) (hbs : bs.Nodup) (hv : ∀ w m, K w m → Y m vs) :
  ObT P K us ch pre T (fun _ => .pack bs Ψ0) (fun v => .pack bs fun w m => (v = .bool true ∧ Ψ1 w m) ∨ (v = .bool false ∧ Ψx w m)) ⟨some d, .call { callee := .value f, args := xs.toArray, argTypes := ats }, ty, pos, af, gd⟩ (.ex (MP.mem Value.bool (fun _ _ => True) (fun _ h => h))) := fun σ w m hk hr hn => by
 have hag := hK.agree hk
 obtain ⟨fn, tmps, assign, body, hrun, hR⟩ := hY w m vs hag (hm.trans (hK.le hk)) (hv w m hk) hr
 unfold Does
 rw [show (execOp (ZG σ) ⟨some d, .call { callee := .value f, args := xs.toArray, argTypes := ats }, ty, pos, af, gd⟩).run P w = .ok (.round l fn tmps assign body) w from by
  simp [execOp, resolve, Deferred.ofValue, hn.ev hf, hxs.map hn, invoke, hrun]]
 refine RoundIn.mono hR fun e w' ⟨v, m', e1, hE, h⟩ => ⟨v, e1, m', ⟨hE, ?_, hbs, fun g hg => .inl hg⟩, ?_⟩
 ·rcases h with ⟨rfl, h⟩ | ⟨rfl, h⟩
  ·exact ZT h fun w m hh => .inl ⟨rfl, hh⟩
  ·exact ZT h fun w m hh => .inr ⟨rfl, hh⟩
 ·rcases h with ⟨rfl, -⟩ | ⟨rfl, -⟩
  ·exact ⟨true, rfl, trivial⟩
  ·exact ⟨false, rfl, trivial⟩
end
def notV : Value → Value
 | .bool b => .bool (!b)
 | v => v
theorem zCn {P : Program} {l : List Oper} {pre : List Ent} {T : List (Nat × Value)} {d t : Nat} {bt ty : TypeId} {pos : String} {af : Array Edge} {p : Bool → Mem → Prop} {hp : ∀ {m m' : Mem} {y : Bool}, MLe m m' → p y m → p y m'}
  (hu : has (zBd l ⟨some d, .unOp .not bt (.tmp t), ty, pos, af, none⟩) t = true) (hf : Zp pre t = some (none, .val (.ex (MP.mem Value.bool p hp)))) :
  zDR P l pre T ⟨some d, .unOp .not bt (.tmp t), ty, pos, af, none⟩ t notV := fun σ w m hn => by
 obtain ⟨b, e, _⟩ : (MP.mem Value.bool p hp).p m (σ t) := hn.ent t none _ (zAd hu) hf (fun _ e => by cases e)
 have e' : σ t = .bool b := e
 unfold Does
 have : (execOp (ZG σ) ⟨some d, .unOp .not bt (.tmp t), ty, pos, af, none⟩).run P w = .ok (.value (.bool (!b))) w := by
  simp only [execOp, ZG, e']; rfl
 rw [this]
 exact ⟨by rw [e']; rfl, rfl⟩
def Zm (l : Nat) (rc : Loop) : Res := .blk (.pointer (some ⟨l, 0, none⟩)) (.loop rc)
def zCM (D : Nat) : Res := .blk (.pointer (some ⟨D, 0, none⟩)) (.deferred (some []))
def zDv (D : Nat) : List Deferred := [{ target := .collected D, args := #[] }]
abbrev zBH (rc : Loop) : Loop := { rc with state := .busy }
abbrev zBY (rc : Loop) (j : Option Code) : Loop := { rc with state := if j.isNone then .ready else .done, pending := j }
theorem zBt {l : Nat} {o : Obj} {w : World} {m : Mem} (h : (Res.blk (.pointer (some ⟨l, 0, none⟩)) o).holds w m) : w.heap[l]? = some o ∧ ∀ off, m l off = none := by
 obtain ⟨g, e, h1, h2⟩ := h
 simp only [Value.pointer.injEq, Option.some.injEq, Addr.mk.injEq] at e
 obtain ⟨rfl, -⟩ := e
 exact ⟨h1, h2⟩
theorem zCx {l : Nat} {rc rc' : Loop} {w : World} {m : Mem} (h : (Zm l rc).holds w m) (ha : Agree w m) : Touch (Zm l rc) (Zm l rc') w m (w.putObj l (.loop rc')) m := by
 obtain ⟨hh, hm⟩ := zBt h
 have hlt := ZQ hh
 have hoth : ∀ k, k ≠ l → (w.putObj l (.loop rc')).heap[k]? = w.heap[k]? := fun k hk => World.putObj_heap_other hk
 have hag : Agree (w.putObj l (.loop rc')) m := by
  refine ⟨fun b o v e => ?_, fun b x e => ?_⟩
  ·have hb : b ≠ l := fun e1 => by subst e1; rw [hm o] at e; cases e
   have := ha.cell b o v e
   unfold World.cell? at this ⊢
   simp only [hoth b hb]; exact this
  ·have hb : b ≠ l := fun e1 => by subst e1; have := ha.map _ x e; rw [hh] at this; cases this
   rw [hoth b hb]; exact ha.map b x e
 exact ⟨⟨rfl, rfl, rfl, by simp, fun b _ hb => hoth b (by simpa [Zm, Res.blocks, zj] using hb), hag, MLe.refl _, fun _ _ _ => ⟨rfl, rfl⟩⟩,
  ⟨l, rfl, World.putObj_heap_same hlt, hm⟩, by simp [Zm, Res.blocks, zj], fun g hg => .inl hg⟩
def zipT : List Nat → List Value → List (Nat × Value)
 | p :: ps, v :: vs => (p, v) :: zipT ps vs
 | _, _ => []
theorem foldl_size (l : List (Nat × Value)) : ∀ (t : Array Value), (l.foldl (fun tmps x => tmps.setIfInBounds x.1 x.2) t).size = t.size := by
 induction l with
 | nil => intro t; rfl
 | cons x r ih => intro t; rw [List.foldl_cons, ih]; simp
theorem foldl_other (l : List (Nat × Value)) (k : Nat) (h : ∀ x ∈ l, x.1 ≠ k) : ∀ (t : Array Value), (l.foldl (fun tmps x => tmps.setIfInBounds x.1 x.2) t)[k]? = t[k]? := by
 induction l with
 | nil => intro t; rfl
 | cons x r ih =>
  intro t
  rw [List.foldl_cons, ih (fun y hy => h y (.tail _ hy)), Array.getElem?_setIfInBounds_ne (h x (.head _))]
theorem look_zip : ∀ (ps : List Nat) (vs : List Value) (T : List (Nat × Value)) (t : Array Value), ps.Nodup → (∀ p ∈ ps, p < t.size) → vs.length = ps.length → ∀ k v, (k ∉ ps → look T k = some v → t.getD k undef = v) → look (zipT ps vs ++ T) k = some v →
  ((ps.zip vs).foldl (fun tmps x => tmps.setIfInBounds x.1 x.2) t).getD k undef = v
 | [], vs, T, t, _, _, _, k, v, hT, h => by simpa [zipT] using hT (by simp) (by simpa [zipT] using h)
 | p :: ps, [], T, t, _, _, hl, k, v, hT, h => by simp at hl
 | p :: ps, u :: vs, T, t, hn, hb, hl, k, v, hT, h => by
  rw [List.nodup_cons] at hn
  simp only [zipT, List.cons_append, look] at h
  rw [List.zip_cons_cons, List.foldl_cons]
  cases e : Nat.beq p k with
  | true =>
   rw [e] at h; rw [Nat.beq_eq] at e; subst e
   simp only [cond_true, Option.some.injEq] at h; subst h
   rw [Array.getD_eq_getD_getElem?, foldl_other _ _ (fun x hx (e : x.1 = p) => hn.1 (by have := (List.of_mem_zip (show (x.1, x.2) ∈ _ from hx)).1; rw [e] at this; exact this))]
   have hp := hb p (.head _)
   simp [hp]
  | false =>
   rw [e] at h
   have hne : p ≠ k := fun e' => by rw [← Nat.beq_eq] at e'; rw [e'] at e; cases e
   refine look_zip ps vs T (t.setIfInBounds p u) hn.2 (fun q hq => by simpa using hb q (.tail _ hq)) (by simpa using hl) k v (fun hk hl' => ?_) h
   rw [Array.getD_eq_getD_getElem?, Array.getElem?_setIfInBounds_ne hne, ← Array.getD_eq_getD_getElem?]
   exact hT (by rw [List.mem_cons, not_or]; exact ⟨fun e' => hne e'.symm, hk⟩) hl'
theorem zip_foldl (ps : Array Nat) (args : List Value) (t : Array Value) : (ps.zip args.toArray).foldl (fun tmps (t, a) => tmps.setIfInBounds t a) t = (ps.toList.zip args).foldl (fun tmps x => tmps.setIfInBounds x.1 x.2) t := by
 rw [← Array.foldl_toList, Array.toList_zip]
def RoundQ {α : Type} (G0 : List Nat) (W : World) (mE : Mem) (l : Nat) (rc : Loop) (Ly : α → List Res) (bs0 : List Nat) (J1 Jx : α → Mem → Prop) : Exit → Act → World → Prop
 | .normal, _, w' => ∃ (y : α) (m' : Mem) (Lz : List Res) (k : Nat), St G0 W mE Lz w' m' ∧ Lz[k]? = some (Zm l (zBH rc)) ∧ (Ly y).flatMap Res.blocks = bs0 ∧ (∀ r ∈ Ly y, r ∈ Lz) ∧ J1 y m'
 | .ret, _, w' => ∃ (y : α) (m' : Mem) (Lz : List Res) (k : Nat), St G0 W mE Lz w' m' ∧ Lz[k]? = some (Zm l (zBH rc)) ∧ (Ly y).flatMap Res.blocks = bs0 ∧ (∀ r ∈ Ly y, r ∈ Lz) ∧ Jx y m'
 | _, _, _ => False
theorem RoundQ.next {α : Type} {G0 : List Nat} {W : World} {mE : Mem} {l : Nat} {rc : Loop} {Ly : α → List Res} {bs0 : List Nat} {J1 Jx : α → Mem → Prop} {a : Act} {w : World} {m : Mem} {Lz : List Res} {k n0 : Nat} (y : α) (hst : St G0 W mE Lz w m)
  (hk : Lz[k]? = some (Zm l (zBH rc))) (hb : (Ly y).flatMap Res.blocks = bs0) (hin : Ly y = Lz.take n0) (hj : J1 y m) : RoundQ G0 W mE l rc Ly bs0 J1 Jx .normal a w := ⟨y, m, Lz, k, hst, hk, hb, fun r hr => List.mem_of_mem_take (hin ▸ hr), hj⟩
def rndP {α : Type} (l : Nat) (rc : Loop) (Ly : α → List Res) (bs0 : List Nat) (J : α → Mem → Prop) : World → Mem → Prop := fun w m => ∃ y, (Ly y ++ [Zm l rc]).flatMap Res.blocks = bs0 ++ [l] ∧ (∀ r ∈ Ly y ++ [Zm l rc], r.holds w m) ∧ J y m
theorem Z3 (l : Nat) (rc : Loop) : (Zm l rc).blocks = [l] := rfl
section
variable {P : Program}
theorem round_end {α : Type} {G0 : List Nat} {W : World} {mE : Mem} {l : Nat} {rc : Loop} {Ly : α → List Res} {bs0 : List Nat} {J1 Jx : α → Mem → Prop} (hrc : rc.state = .ready) (hrp : rc.pending = none)
  (hJ1 : ∀ y m m', MLe m m' → J1 y m → J1 y m') (hJx : ∀ y m m', MLe m m' → Jx y m → Jx y m') (hn : (bs0 ++ [l]).Nodup) (hG : ∀ g ∈ G0, g ∈ bs0 ++ [l]) {e : Exit} {a : Act} {w : World}
  (h : RoundQ G0 W mE l rc Ly bs0 J1 Jx e a w) : roundPost P l (RoundR (bs0 ++ [l]) (rndP l rc Ly bs0 J1) (rndP l (zBY rc (some .ret)) Ly bs0 Jx) W mE) e a w := by
 have key : ∀ (j : Option Code) (y : α) (m' : Mem) (Lz : List Res) (k : Nat), St G0 W mE Lz w m' → Lz[k]? = some (Zm l (zBH rc)) → (Ly y).flatMap Res.blocks = bs0 → (∀ r ∈ Ly y, r ∈ Lz) →
   ∀ w' rc', w' = w.putObj l (.loop (zBY (zBH rc) j)) → rc' = zBY (zBH rc) j → ExtG (bs0 ++ [l]) W mE w' m' ∧ (Ly y ++ [Zm l rc']).flatMap Res.blocks = bs0 ++ [l] ∧ ∀ r ∈ Ly y ++ [Zm l rc'], r.holds w' m' := by
  intro j y m' Lz k hst hk hb hin w' rc' hw' hrc'
  subst hw' hrc'
  have ht := zCx (rc' := zBY (zBH rc) j) (hst.loc.at_ hk) hst.agree
  have hst' := hst.touch hk ht
  refine ⟨hst'.ext.mono hG, by simp [Z3, hb], fun r hr => ?_⟩
  rcases List.mem_append.1 hr with hr1 | hr1
  ·refine Res.keep (hst.loc.all r (hin r hr1)) ht.ext fun g hg hg' => ?_
   rw [Z3, List.mem_singleton] at hg'; subst hg'
   rw [List.nodup_append] at hn
   exact hn.2.2 _ (by rw [← hb]; exact List.mem_flatMap.2 ⟨r, hr1, hg⟩) _ (by simp) rfl
  ·rw [List.mem_singleton] at hr1; subst hr1; exact ht.now
 cases e with
 | normal =>
  obtain ⟨y, m', Lz, k, hst, hk, hb, hin, hj⟩ := h
  refine ⟨_, _, run_endRound none (zBt (hst.loc.at_ hk)).1, _, m', rfl, ?_, .inl ⟨rfl, ?_⟩⟩
  ·exact (key none y m' Lz k hst hk hb hin _ _ rfl rfl).1
  ·have e1 : rc = zBY (zBH rc) none := by cases rc; simp only at hrc hrp; subst hrc; subst hrp; rfl
   have h1 := key none y m' Lz k hst hk hb hin _ rc rfl e1
   have h2 := pack_of (Ly := fun y => Ly y ++ [Zm l rc]) (J := J1) hJ1 (y := y) h1.2.1 h1.2.2 hj
   exact ZT h2 fun w m hh => hh
 | ret =>
  obtain ⟨y, m', Lz, k, hst, hk, hb, hin, hj⟩ := h
  refine ⟨_, _, run_endRound (some .ret) (zBt (hst.loc.at_ hk)).1, _, m', rfl, ?_, .inr ⟨rfl, ?_⟩⟩
  ·exact (key (some .ret) y m' Lz k hst hk hb hin _ _ rfl rfl).1
  ·have h1 := key (some .ret) y m' Lz k hst hk hb hin _ _ rfl rfl
   have h2 := pack_of (Ly := fun y => Ly y ++ [Zm l (zBY rc (some .ret))]) (J := Jx) hJx (y := y) h1.2.1 h1.2.2 hj
   exact ZT h2 fun w m hh => hh
 | exit id => exact h.elim
 | goto id => exact h.elim
 | panic c => exact h.elim
 | outgrown => exact h.elim
theorem zCJ {α : Type} {ps : Array Nat} {assign body : Code} {g : Operand} {n : Nat} {fid : FuncId} {cap : List Value} {Q : Exit → Act → World → Prop} {a : Act} {w : World} {m : Mem} {W : World} {mE : Mem} {G0 : List Nat} {T : List (Nat × Value)}
  (Ly : α → List Res) (N : Nat) (Y : Nat → Mem → List Value → Prop) (J : Nat → α → Mem → Prop) (Jx : α → Mem → Prop) (y0 : α)
  (hst : St G0 W mE (Ly y0) w m) (hfr : Fr ⟨n, []⟩ T a) (hg : evT0 T g = some (.func (.func fid) #[] cap.toArray)) (hc : ∀ args w, (callFunc fid args).run P w = .ok (.enter fid args) w)
  (hps : ps.toList.Nodup ∧ ∀ p ∈ ps.toList, p < n) (hJ : ∀ i y m m', MLe m m' → J i y m → J i y m') (hJx : ∀ y m m', MLe m m' → Jx y m → Jx y m') (h0 : J 0 y0 m) (hit : IterC P fid cap N Y m)
  (round : ∀ i, i < N → ∀ (y : α) (w1 : World) (m1 : Mem) (args : List Value) (l : Nat) (rc : Loop), MLe m m1 → Y i m1 args → J i y m1 → (Ly y).flatMap Res.blocks = (Ly y0).flatMap Res.blocks →
   args.length = ps.size ∧ ∀ (G1 : List Nat) a1, Fr ⟨n, []⟩ (zipT ps.toList args ++ T) a1 → St G1 w1 m1 (Ly y ++ [Zm l rc]) w1 m1 →
    ∀ K, (∀ a2 w2 m2 Lz k, St G1 w1 m1 Lz w2 m2 → Lz[k]? = some (Zm l rc) → (∀ w3, St G1 w1 m1 (Lz.set k (Zm l (zBH rc))) w3 m2 → body.wpIn (ZL (some l)) 0 P (RoundQ G1 w1 m1 l rc Ly ((Ly y0).flatMap Res.blocks) (J (i + 1)) Jx) a2 w3) → K a2 w2) →
     assign.wpIn (ZL (some l)) 0 P (Exit.then K (fun _ _ _ => False)) a1 w1)
  (cont : ∀ y D l rc a' w' m', St G0 W mE (Ly y ++ [Zm l rc, zCM D]) w' m' → MLe m m' → J N y m' → Fr ⟨n, zDv D⟩ T a' → Q .normal a' w')
  (contx : ∀ y D l rc a' w' m', St G0 W mE (Ly y ++ [Zm l rc, zCM D]) w' m' → MLe m m' → Jx y m' → Fr ⟨n, zDv D⟩ T a' → Q .ret a' w') :
  (Code.rangeFunc g ps assign body).wpIn (ZL none) 0 P Q a w := by
 refine wpIn_rangeFunc fun fn _ => ?_
 let D := w.heap.size
 let l := w.heap.size + 1
 let rc : Loop := { state := .ready, pending := none, fn, tmps := a.tmps, params := ps, assign, body, defers := D }
 let w1 := (w.alloc (.deferred (some []))).alloc (.loop rc)
 let bs0 := (Ly y0).flatMap Res.blocks
 have hev : a.eval g = .func (.func fid) #[] cap.toArray := by rw [eval_eq]; exact evT0_eq hfr hg
 refine ⟨l, zDv D, w1, { target := .fn (.func fid) cap.toArray, args := #[.func (.yield l) #[] #[]] }, w1, fid, #[.func (.yield l) #[] #[]] ++ cap.toArray, w1, run_enterLoop_outer _ _ _ _ _, ?_, fun _ _ => trivial, ?_, fun h => (by cases h), ?_⟩
 ·have hf : a.eval (.const (.func (.yield l) #[] #[])) = .func (.yield l) #[] #[] := rfl
  simp [resolve, Deferred.ofValue, hev, hf]
 ·simp [invoke, hc]
 -- the two new blocks
 have hk : ExtG [] w m w1 m := (zAp hst.agree _).trans (zAp (zBu hst.agree _) _)
 have hst1 := hst.keep hk
 have hall : ∀ g ∈ (Ly y0).flatMap Res.blocks, g < w.heap.size := fun g hg => by
  obtain ⟨x, hx, hgx⟩ := List.mem_flatMap.1 hg; exact Res.lt (hst.loc.all x hx) g hgx
 have hD : (zCM D).holds w1 m := ⟨D, rfl, by
  show ((w.alloc (.deferred (some []))).alloc (.loop rc)).heap[w.heap.size]? = _
  rw [Below.heap_alloc _ _ _ (by simp)]; exact World.alloc_heap_new _ _, zAY hst.agree (Nat.le_refl _)⟩
 have hl : (Zm l rc).holds w1 m := ⟨l, rfl, by
  have h6 := World.alloc_heap_new (w.alloc (.deferred (some []))) (.loop rc)
  rw [World.size_alloc] at h6
  exact h6, zAY hst.agree (by show w.heap.size ≤ w.heap.size + 1; omega)⟩
 have hst2 : St G0 W mE (Ly y0 ++ [Zm l rc]) w1 m := hst1.more hl (by simp [Zm, Res.blocks, zj]) fun g hg => by
  simp only [Zm, Res.blocks, zj, List.mem_singleton] at hg; subst hg
  refine ⟨by have := hst.ext.size; show W.heap.size ≤ w.heap.size + 1; omega, fun hh => by have := hall _ hh; simp only [l] at this; omega⟩
 have hst3 : St G0 W mE ((Ly y0 ++ [Zm l rc]) ++ [zCM D]) w1 m := hst2.more hD (by simp [zCM, Res.blocks, zj]) fun g hg => by
  simp only [zCM, Res.blocks, zj, List.mem_singleton] at hg; subst hg
  refine ⟨hst.ext.size, fun hh => ?_⟩
  rw [zAl, List.mem_append] at hh
  rcases hh with hh | hh
  ·have := hall _ hh; simp only [D] at this; omega
  ·simp [Zm, Res.blocks, zj, l, D] at hh
 have hflat : (Ly y0 ++ [Zm l rc]).flatMap Res.blocks = bs0 ++ [l] := by simp [Z3, bs0]
 have hnd : (bs0 ++ [l]).Nodup := by rw [← hflat]; exact hst2.loc.apart
 have hp0 := pack_of (Ly := fun y => Ly y ++ [Zm l rc]) (J := J 0) (hJ 0) (y := y0) hflat hst2.loc.all h0
 have hcall := hit l (bs0 ++ [l]) (fun i => rndP l rc Ly bs0 (J i)) (rndP l (zBY rc (some .ret)) Ly bs0 Jx) w1 m hk.agree (MLe.refl _) hnd hp0 ?_
 ·rw [show (#[Value.func (.yield l) #[] #[]] ++ cap.toArray) = (.func (.yield l) #[] #[] :: cap : List Value).toArray by simp]
  refine callsIn_wide.2 (Calls.mono hcall fun e w2 ⟨v, m2, e1, hE, hp⟩ => ?_)
  subst e1
  have hstep : ∀ (y : α) (rc' : Loop) (w3 : World), (Ly y ++ [Zm l rc']).flatMap Res.blocks = bs0 ++ [l] → (∀ r ∈ Ly y ++ [Zm l rc'], r.holds w3 m2) → ExtG (bs0 ++ [l]) w1 m w3 m2 → St G0 W mE (Ly y ++ [Zm l rc', zCM D]) w3 m2 := fun y rc' w3 hb hh hE' => by
   have ht : MTouch (Ly y0 ++ [Zm l rc]) (Ly y ++ [Zm l rc']) w1 m w3 m2 := ⟨by rw [hflat]; exact hE', hh, by rw [hb]; exact hnd, fun g hg => .inl (by rw [hflat, ← hb]; exact hg)⟩
   have h5 := St.multi (A := []) (B := [zCM D]) (by simpa using hst3) ht
   simpa using h5
  have hfr' : Fr ⟨n, zDv D⟩ T { a with defers := zDv D ++ a.defers } := ⟨by rw [hfr.defers]; rfl, hfr.size, hfr.at_⟩
  have hend : ∀ (y : α) (rc' : Loop), rc'.state ≠ .busy → (Ly y ++ [Zm l rc']).flatMap Res.blocks = bs0 ++ [l] → (∀ r ∈ Ly y ++ [Zm l rc'], r.holds w2 m2) → ∃ w3, (Instr.endLoop l).run P w2 = .ok rc'.pending w3 ∧ St G0 W mE (Ly y ++ [Zm l { rc' with state := .exhausted }, zCM D]) w3 m2 := fun y rc' hb hbl hh => by
   have hr := hh (Zm l rc') (by simp)
   refine ⟨_, run_endLoop (zBt hr).1 hb, ?_⟩
   have ht := zCx (rc' := { rc' with state := .exhausted }) hr hE.agree
   refine hstep y _ _ (by simpa [Z3] using hbl) (fun r hr' => ?_) (hE.trans (ht.ext.mono fun g hg => by rw [Z3, List.mem_singleton] at hg; subst hg; simp))
   rcases List.mem_append.1 hr' with hr1 | hr1
   ·refine Res.keep (hh r (List.mem_append_left _ hr1)) ht.ext fun g hg hg' => ?_
    rw [Z3, List.mem_singleton] at hg'; subst hg'
    have hb2 : (Ly y).flatMap Res.blocks = bs0 := by
     have : (Ly y).flatMap Res.blocks ++ [l] = bs0 ++ [l] := by simpa [Z3] using hbl
     exact List.append_cancel_right this
    rw [List.nodup_append] at hnd
    exact hnd.2.2 _ (by rw [← hb2]; exact List.mem_flatMap.2 ⟨r, hr1, hg⟩) _ (by simp) rfl
   ·rw [List.mem_singleton] at hr1; subst hr1; exact ht.now
  rcases pack_at hp hE.agree with ⟨y, hb, hh, hj⟩ | ⟨y, hb, hh, hj⟩
  ·obtain ⟨w3, h1, h2⟩ := hend y rc (by simp [rc]) hb hh
   exact ⟨none, w3, h1, cont y D l _ _ w3 m2 h2 hE.le hj hfr'⟩
  ·obtain ⟨w3, h1, h2⟩ := hend y (zBY rc (some .ret)) (by simp [zBY]) hb hh
   exact ⟨some .ret, w3, h1, wpIn_ret (contx y D l _ _ w3 m2 h2 hE.le hj hfr')⟩
 ·intro i hi w2 m2 args ha hm hY hp
  obtain ⟨y, hb, hh, hj⟩ := pack_at hp ha
  have hb2 : (Ly y).flatMap Res.blocks = bs0 := by
   have : (Ly y).flatMap Res.blocks ++ [l] = bs0 ++ [l] := by simpa [Z3] using hb
   exact List.append_cancel_right this
  obtain ⟨hlen, hr⟩ := round i hi y w2 m2 args l rc hm hY hj hb2
  have hrl := (zBt (hh (Zm l rc) (by simp))).1
  refine ⟨_, _, _, _, run_yield hrl (by simp [hlen, rc]), ?_⟩
  refine roundIn_of_wpIn trivial ?_
  have hst0 : St (bs0 ++ [l]) w2 m2 (Ly y ++ [Zm l rc]) w2 m2 := ⟨ExtG.refl _ ha, hh, by rw [hb]; exact hnd, fun g hg => .inl (by rw [← hb]; exact hg)⟩
  refine hr (bs0 ++ [l]) _ ⟨rfl, ?_, fun t v e => ?_⟩ hst0 _ ?_
  ·exact (congrArg Array.size (zip_foldl ps args a.tmps)).trans ((foldl_size _ _).trans hfr.size)
  ·refine (congrArg (fun x : Array Value => x.getD t undef) (zip_foldl ps args a.tmps)).trans ?_
   exact look_zip _ _ _ _ hps.1 (fun p hp => by rw [hfr.size]; exact hps.2 p hp) (by simpa using hlen) t v (fun _ => hfr.at_ t v) e
  ·intro a2 w3 m3 Lz k hst3 hk hbody
   have hrk := hst3.loc.at_ hk
   refine ⟨_, run_beginRound (zBt hrk).1 rfl, ?_⟩
   have ht := zCx (rc' := zBH rc) hrk hst3.agree
   exact wpIn_mono (hbody _ (hst3.touch hk ht)) fun e a w h => round_end rfl rfl (hJ (i + 1)) hJx hnd (fun g hg => hg) h
abbrev PostM (P : Program) (fn : Func) (G0 : List Nat) (w : World) (m : Mem) (φ : World → Mem → Value → Prop) : Exit → Act → World → Prop :=
 bodyPostM (ZL none) 0 P fn fun e w' => ∃ v m', e = .returned v ∧ ExtG G0 w m w' m' ∧ φ w' m' v
theorem fn_enterM {f : FuncId} {fn : Func} {c : Code} {n : Nat} {vs : List Value} {G0 : List Nat} {w : World} {m : Mem} {φ : World → Mem → Value → Prop} (hf : P.funcs[f]? = some fn) (hb : fn.body = some c) (hn : fn.ntmps = n)
  (h : ∀ a, Fr ⟨n, []⟩ (zBj 0 vs) a → c.wpIn (ZL none) 0 P (PostM P fn G0 w m φ) a w) (hlen : Nat.ble vs.length n = true := by rfl) : FnG P f vs.toArray G0 w m φ := by
 have hl : vs.length ≤ n := Nat.le_of_ble_eq_true hlen
 refine (callsIn_wide (n := 0)).1 (callsIn_of_wp_marks (F := ZL none) hf hb trivial (h _ ⟨rfl, by simp [hn]; omega, fun t v e => ?_⟩))
 obtain ⟨_, h2⟩ := zBM vs 0 t v e
 simp only [Nat.sub_zero] at h2
 have hlt : t < vs.length := (List.getElem?_eq_some_iff.1 h2).1
 simp only [zZ, Array.getD_eq_getD_getElem?]
 rw [Array.getElem?_append_left (by simpa using hlt)]
 simp [h2]
theorem fn_retM0 {fn : Func} {G0 : List Nat} {W : World} {mE : Mem} {L : List Res} {φ : World → Mem → Value → Prop} {T : List (Nat × Value)} {n : Nat} {a : Act} {w : World} {m : Mem} {rs : List ResultVar} {vs : List Value}
  (hst : St G0 W mE L w m) (hfr : Fr ⟨n, []⟩ T a) (hr : fn.results = rs.toArray) (h : zBh P w T rs vs) (hφ : φ w m (zCO vs)) : PostM P fn G0 W mE φ .ret a w := by
 show LeavesInM (ZL none) 0 P fn a.tmps _ a.defers .returning w
 rw [hfr.defers]
 exact ⟨_, zBF hr hfr h, _, m, rfl, hst.ext, hφ⟩
theorem touch_shut {D : Nat} {w : World} {m : Mem} (h : (zCM D).holds w m) (ha : Agree w m) : Touch (zCM D) (.blk (.pointer (some ⟨D, 0, none⟩)) (.deferred none)) w m (w.putObj D (.deferred none)) m := by
 obtain ⟨hh, hm⟩ := zBt h
 have hlt := ZQ hh
 have hoth : ∀ k, k ≠ D → (w.putObj D (.deferred none)).heap[k]? = w.heap[k]? := fun k hk => World.putObj_heap_other hk
 have hag : Agree (w.putObj D (.deferred none)) m := by
  refine ⟨fun b o v e => ?_, fun b x e => ?_⟩
  ·have hb : b ≠ D := fun e1 => by subst e1; rw [hm o] at e; cases e
   have := ha.cell b o v e
   unfold World.cell? at this ⊢
   simp only [hoth b hb]; exact this
  ·have hb : b ≠ D := fun e1 => by subst e1; have := ha.map _ x e; rw [hh] at this; cases this
   rw [hoth b hb]; exact ha.map b x e
 exact ⟨⟨rfl, rfl, rfl, by simp, fun b _ hb => hoth b (by simpa [zCM, Res.blocks, zj] using hb), hag, MLe.refl _, fun _ _ _ => ⟨rfl, rfl⟩⟩,
  ⟨D, rfl, World.putObj_heap_same hlt, hm⟩, by simp [Res.blocks, zj], fun g hg => .inl hg⟩
theorem fn_retM {fn : Func} {G0 : List Nat} {W : World} {mE : Mem} {L : List Res} {φ : World → Mem → Value → Prop} {T : List (Nat × Value)} {n D k : Nat} {a : Act} {w : World} {m : Mem} {rs : List ResultVar} {vs : List Value}
  (hst : St G0 W mE L w m) (hk : L[k]? = some (zCM D)) (hfr : Fr ⟨n, zDv D⟩ T a) (hr : fn.results = rs.toArray) (h : ∀ w, St G0 W mE (L.set k (.blk (.pointer (some ⟨D, 0, none⟩)) (.deferred none))) w m → zBh P w T rs vs) (hφ : ∀ w, φ w m (zCO vs)) : PostM P fn G0 W mE φ .ret a w := by
 show LeavesInM (ZL none) 0 P fn a.tmps _ a.defers .returning w
 rw [hfr.defers]
 have hd := hst.loc.at_ hk
 have hst' := hst.touch hk (touch_shut hd hst.agree)
 refine ⟨by simp, .inl ⟨D, _, rfl, run_takeDeferred (zBt hd).1, ?_⟩⟩
 exact ⟨_, zBF hr (n := ⟨n, zDv D⟩) hfr (h _ hst'), _, m, rfl, hst'.ext, hφ _⟩
end
end Go.Proofs.YtmdhhjmomilhjaaDoor
namespace Go.Proofs.YtmdhhjmomilhjaaDoor
set_option linter.all false
open Go.RowKit Go.MapKept
def MapAt {κ : Type} (ek : κ → Value) (m : Mem) (g : Nat) (es : List (κ × Value)) : Prop := ∃ ents clock, m.mp g = some (ents, clock) ∧ Zq ents = zAK ek es ∧ Stamps ents clock
theorem MapAt.mono {κ : Type} {ek : κ → Value} {m m' : Mem} {g : Nat} {es : List (κ × Value)} (h : MapAt ek m g es) (hm : MLe m m') : MapAt ek m' g es := by obtain ⟨e, c, h1, h2⟩ := h; exact ⟨e, c, hm.map _ _ h1, h2⟩
def MapR {κ : Type} (ek : κ → Value) (m : Mem) (vs : List Value) (es : List (κ × Value)) : Prop := ∃ g, vs = [.map (some g)] ∧ MapAt ek m g es
instance {κ : Type} (ek : κ → Value) : RepR (MapR ek) := ⟨fun hm h => by obtain ⟨g, e, h1⟩ := h; exact ⟨g, e, h1.mono hm⟩, fun h => by obtain ⟨g, rfl, h1⟩ := h; rfl⟩
theorem MLe.addMap {w : World} {m : Mem} {g : Nat} (x : Array MapEntry × Nat) (hm : m.mp g = none) : MLe m (m.addMap g x) := ⟨fun _ _ _ h => h, fun b es' hb => by
 show (if b = g then some x else m.mp b) = some es'
 split
 ·rename_i e; subst e; rw [hm] at hb; cases hb
 ·exact hb⟩
theorem Agree.addMap {w : World} {m : Mem} {g : Nat} {x : Array MapEntry × Nat} (ha : Agree w m) (hh : w.heap[g]? = some (.map x.1 x.2)) : Agree w (m.addMap g x) := ⟨ha.cell, fun b es' hb => by
 change (if b = g then some x else m.mp b) = some es' at hb
 split at hb
 ·rename_i e; subst e; injection hb with hb; subst hb; exact hh
 ·exact ha.map b es' hb⟩
theorem St.freezeMap {G0 : List Nat} {W : World} {mE : Mem} {L : List Res} {w : World} {m : Mem} {k : Nat} {v : Value} {κ : Type} {ek : κ → Value} {es : List (κ × Value)} (h : St G0 W mE L w m) (hk : L[k]? = some (.map v (zAK ek es))) :
  ∃ m', MLe m m' ∧ St G0 W mE (L.set k .free) w m' ∧ ∃ g, v = .map (some g) ∧ MapAt ek m' g es := by
 obtain ⟨g, ents, clock, rfl, hh, he, hm, hs⟩ := h.loc.at_ hk
 have hle := MLe.addMap (w := w) (g := g) (ents, clock) hm
 refine ⟨m.addMap g (ents, clock), hle, h.touch (r' := .free) hk ⟨⟨rfl, rfl, rfl, Nat.le_refl _, fun _ _ _ => rfl, h.agree.addMap hh, hle, fun b _ hb => ⟨rfl, ?_⟩⟩, trivial, List.nodup_nil, fun g hg => by cases hg⟩, g, rfl, ents, clock, ?_, he, hs⟩
 ·show (if b = g then some (ents, clock) else m.mp b) = m.mp b
  rw [if_neg (fun e => hb (by simp [Res.blocks, zAO, e]))]
 ·show (if g = g then some (ents, clock) else m.mp g) = some (ents, clock)
  rw [if_pos rfl]
section
variable {P : Program} {K : World → Mem → Prop} {m0 : Mem} {L : List Res} {us : List Nat} {ch : List (Nat × Bool)} {pre : List Ent} {T : List (Nat × Value)}
variable {dst : Option Nat} {ty : TypeId} {pos : String} {af : Array Edge} {gd : Option (Nat × Bool)}
theorem ob_mapUpdate [hK : KC K m0 L] {κ : Type} [DecidableEq κ] {enc : κ → Value} {d : TypeDesc} {t kt et : TypeId} {x y z : Operand} {k : κ} {g : Nat} {v : Value} {es : List (κ × Value)} (hKe : Keys d enc) (hx : ev us ch pre T x = some (.map (some g))) (hy : ev us ch pre T y = some (enc k)) (hz : ev us ch pre T z = some v)
  (hm : P.underlying t = some (.map kt et)) (hd : P.underlying kt = some d) :
  ObT P K us ch pre T (fun _ => .map (.map (some g)) (zAK enc es)) (fun _ => .map (.map (some g)) (zAK enc (zBJ k v es))) ⟨none, .mapUpdate t x y z, ty, pos, af, gd⟩ (.ex MP.any) := fun σ w m hk hr hkn => by
 obtain ⟨g', ents, clock, e1, hh, he, hmp, hsp⟩ := hr
 injection e1 with e1; injection e1 with e1; subst e1
 obtain ⟨ents', clock', hrun, he', hsp'⟩ := zEH (P := P) hKe hm hd hh he hsp k v
 have hx' : (execOp (ZG σ) ⟨none, .mapUpdate t x y z, ty, pos, af, gd⟩).run P w = .ok .skip { w with heap := w.heap.setIfInBounds g (.map ents' clock') } := by
  simp only [execOp, hkn.ev hx, hkn.ev hy, hkn.ev hz]
  rw [Sem.run_bind, hrun]; rfl
 unfold Does; rw [hx']
 exact ⟨m, touch_map (hK.agree hk) rfl hh hmp he' hsp', _, rfl, trivial⟩
end
end Go.Proofs.YtmdhhjmomilhjaaDoor
namespace Go.Proofs.YtmdhhjmomilhjaaDoor
set_option linter.all false
open Go.RowKit Go.MapKept
section
variable {κ α : Type} {R : Mem → List Value → α → Prop} {ek : κ → Value} {m m' : Mem} {es : List (κ × Value)} {l : List (κ × α)}
def RangeV (m : Mem) : Option Nat → List (Value × Value) → Prop
 | none, rest => rest = []
 | some g, rest => ∃ ents clock, m.mp g = some (ents, clock) ∧ Stamps ents clock ∧ Zq ents = rest
theorem RangeV.mono {o : Option Nat} {rest : List (Value × Value)} (h : RangeV m o rest) (hm : MLe m m') : RangeV m' o rest := by
 cases o with
 | none => exact h
 | some g => obtain ⟨e, c, h1, h2⟩ := h; exact ⟨e, c, hm.map _ _ h1, h2⟩
end
section
variable {P : Program} {K : World → Mem → Prop} {m0 : Mem} {L : List Res} {us : List Nat} {ch : List (Nat × Bool)} {pre : List Ent} {T : List (Nat × Value)}
variable {dst : Option Nat} {ty : TypeId} {pos : String} {af : Array Edge} {gd : Option (Nat × Bool)}
open Classical in
noncomputable def zCP (e : Value × Value) : List (Value × Value) → List (Value × Value)
 | [] => []
 | x :: l => if x = e then l else x :: zCP e l
theorem zDG {e : Value × Value} : ∀ {l : List (Value × Value)}, e ∈ l → l.Perm (e :: zCP e l)
 | x :: l, h => by
  unfold zCP
  split
  ·rename_i hx; subst hx; exact .refl _
  ·rename_i hx
   have h' : e ∈ l := by rcases List.mem_cons.1 h with h | h; (exact absurd h.symm hx); exact h
   exact ((zDG h').cons x).trans (.swap e x _)
def nextV : Option (Value × Value) → Value
 | none => .tuple #[.bool false]
 | some e => .tuple #[.bool true, e.1, e.2]
noncomputable def zAc (p : Value) (rest : List (Value × Value)) : Value → Res
 | .tuple vs => match vs.toList with
  | [_, k, x] => .iter p (zCP (k, x) rest) (some (k, x))
  | _ => .iter p rest none
 | _ => .iter p rest none
def MP.next (rest : List (Value × Value)) : MP := MP.mem nextV (fun y _ => match y with | none => rest = [] | some e => e ∈ rest) fun _ h => h
theorem ob_range [hK : KC K m0 L] {d : Nat} {t kt et : TypeId} {x : Operand} {o : Option Nat} {rest : List (Value × Value)} (hx : ev us ch pre T x = some (.map o)) (hm : P.underlying t = some (.map kt et)) (hR : ∀ w m, K w m → RangeV m o rest) :
  ObT P K us ch pre T (fun _ => .free) (fun v => .iter v rest none) ⟨some d, .range t x, ty, pos, af, gd⟩ (.ex MP.ptr) := fun σ w m hk _ hn => by
 have ha := hK.agree hk
 have hr := hR w m hk
 have key : ∀ b s c, (∀ off, m w.heap.size off = none) → m.mp w.heap.size = none →
   ((∃ bm ents clock, b = some bm ∧ m.mp bm = some (ents, clock) ∧ Stamps ents clock ∧ s = clock ∧ c = clock ∧ Zq ents = rest) ∨ (b = none ∧ rest = [])) →
   Touch .free (.iter (.pointer (some ⟨w.heap.size, 0, none⟩)) rest none) w m (w.alloc (.mapIter b s #[] c)) m := fun b s c h1 h2 h3 => by
  refine ⟨(zAp ha _).mono (by simp), ⟨w.heap.size, s, #[], c, rfl, h1, h2, ?_⟩, by simp [Res.blocks, zj], by simp [Res.blocks, zj]⟩
  rcases h3 with ⟨bm, ents, clock, rfl, hb, hs, rfl, rfl, he⟩ | ⟨rfl, he⟩
  ·refine .inl ⟨bm, ents, _, heap_alloc_new w _, hb, hs, hs.1, Nat.le_refl _, Nat.le_refl _, ?_, fun _ e => by cases e⟩
   rw [← he]
   have : leftOf ents #[] = ents := by unfold leftOf; rw [Array.filter_eq_self]; intro a _; simp
   rw [this]; exact .refl _
  ·exact .inr ⟨heap_alloc_new w _, he, rfl⟩
 cases o with
 | none =>
  have hrun : (execOp (ZG σ) ⟨some d, .range t x, ty, pos, af, gd⟩).run P w = .ok (.value (.pointer (some ⟨w.heap.size, 0, none⟩))) (w.alloc (.mapIter none 0 #[] 0)) := by
   simp only [execOp, hn.ev hx]; rw [Sem.run_bind, run_range_nilMap w t kt et hm]; rfl
  unfold Does; rw [hrun]
  exact ⟨m, key _ _ _ (fun off => zAY ha (Nat.le_refl _) off) (zBl ha (Nat.le_refl _)) (.inr ⟨rfl, hr⟩), _, rfl, trivial⟩
 | some g =>
  obtain ⟨ents, clock, h1, h2, h3⟩ := hr
  have hrun : (execOp (ZG σ) ⟨some d, .range t x, ty, pos, af, gd⟩).run P w = .ok (.value (.pointer (some ⟨w.heap.size, 0, none⟩))) (w.alloc (.mapIter (some g) clock #[] clock)) := by
   simp only [execOp, hn.ev hx]; rw [Sem.run_bind, run_range_map w t kt et g ents clock hm (ha.map g _ h1)]; rfl
  unfold Does; rw [hrun]
  exact ⟨m, key _ _ _ (fun off => zAY ha (Nat.le_refl _) off) (zBl ha (Nat.le_refl _)) (.inl ⟨g, ents, clock, rfl, h1, h2, rfl, rfl, h3⟩), _, rfl, trivial⟩
theorem left_push {e : MapEntry} {ents : Array MapEntry} {seen : Array Nat} (hn : (ents.toList.map (·.born)).Nodup) (he : e ∈ (leftOf ents seen).toList) :
  ((leftOf ents seen).toList.map fun e => (e.key, e.val)).Perm ((e.key, e.val) :: ((leftOf ents (seen.push e.born)).toList.map fun e => (e.key, e.val))) := by
 have hA : ((leftOf ents seen).toList.map (·.born)).Nodup := by
  unfold leftOf; rw [Array.toList_filter]
  exact List.Nodup.sublist (List.Sublist.map _ List.filter_sublist) hn
 have hB : (leftOf ents (seen.push e.born)).toList = (leftOf ents seen).toList.filter fun x => !(x.born == e.born) := by
  unfold leftOf; rw [Array.toList_filter, Array.toList_filter, List.filter_filter]
  congr 1; funext x
  simp only [Array.contains_push, Bool.not_or]
  rw [Bool.and_comm]
 rw [hB]
 generalize (leftOf ents seen).toList = A at hA he
 induction A with
 | nil => cases he
 | cons x A ih =>
  simp only [List.map_cons, List.nodup_cons] at hA
  rcases List.mem_cons.1 he with rfl | h
  ·have : (A.filter fun x => !(x.born == e.born)) = A := List.filter_eq_self.2 fun y hy => by
    simp only [Bool.not_eq_true', beq_eq_false_iff_ne, ne_eq]
    exact fun eq => hA.1 (List.mem_map.2 ⟨y, hy, eq⟩)
   simp [this]
  ·have hne : (x.born == e.born) = false := by
    simp only [beq_eq_false_iff_ne, ne_eq]
    exact fun eq => hA.1 (List.mem_map.2 ⟨e, h, eq.symm⟩)
   simp only [List.map_cons, List.filter_cons, hne, Bool.not_false, if_true]
   exact ((ih hA.2 h).cons _).trans (.swap _ _ _)
theorem heap_setIf {w : World} {r : Nat} {o o' : Obj} (hr : w.heap[r]? = some o) : (w.heap.setIfInBounds r o')[r]? = some o' := by
 rw [Array.getElem?_setIfInBounds_self_of_lt (ZQ hr)]
theorem ob_next [hK : KC K m0 L] {d r : Nat} {x : Operand} {rest : List (Value × Value)} {last : Option (Value × Value)} (hx : ev us ch pre T x = some (.pointer (some ⟨r, 0, none⟩))) :
  ObT P K us ch pre T (fun _ => .iter (.pointer (some ⟨r, 0, none⟩)) rest last) (zAc (.pointer (some ⟨r, 0, none⟩)) rest) ⟨some d, .next x false, ty, pos, af, gd⟩ (.ex (MP.next rest)) := fun σ w m hk hr hn => by
 have ha := hK.agree hk
 have hkp : ∀ v, zAR pre ⟨some d, .next x false, ty, pos, af, gd⟩ σ v = v := fun v => rfl
 obtain ⟨r', since, seen, c0, e1, h1, h2, h⟩ := hr
 injection e1 with e1; injection e1 with e1; injection e1 with e1; subst e1
 rcases h with ⟨bm, ents, clock, hh, hb, hs, hold, hsc, hsl, hp, hl⟩ | ⟨hh, rfl, rfl⟩
 ·have hbh := ha.map bm _ hb
  rcases run_next_at (P := P) w ty r bm since c0 seen ents clock hh hbh hold hsc with ⟨h0, hrun⟩ | ⟨e, he, w1, hw1, hrun⟩
  ·have hr : (execOp (ZG σ) ⟨some d, .next x false, ty, pos, af, gd⟩).run P w = .ok (.value (.tuple #[.bool false])) w := by
    simp only [execOp, hn.ev hx]; rw [Sem.run_bind, hrun]; rfl
   have h00 : rest = [] := by
    have : (leftOf ents seen).toList = [] := by rw [← List.length_eq_zero_iff, Array.length_toList]; exact h0
    rw [this] at hp; exact hp.eq_nil
   unfold Does; rw [hr]
   exact ⟨m, ⟨ExtG.refl _ ha, ⟨r, since, seen, c0, rfl, h1, h2, .inl ⟨bm, ents, clock, hh, hb, hs, hold, hsc, hsl, hp, fun _ e => by cases e⟩⟩, by simp [hkp, zAc, Res.blocks, zj], by simp [hkp, zAc, Res.blocks, zj]⟩, none, rfl, h00⟩
  ·have hr : (execOp (ZG σ) ⟨some d, .next x false, ty, pos, af, gd⟩).run P w = .ok (.value (.tuple #[.bool true, e.key, e.val])) (Go.ChangeMaps.setBlock w1 r (.mapIter (some bm) since (seen.push e.born) clock)) := by
    simp only [execOp, hn.ev hx]; rw [Sem.run_bind, hrun]; rfl
   have hmem : (e.key, e.val) ∈ rest := hp.mem_iff.2 (List.mem_map.2 ⟨e, he, rfl⟩)
   have hw : w1.os = w.os ∧ w1.tape = w.tape ∧ w1.output = w.output ∧ w1.heap = w.heap := by rcases hw1 with rfl | rfl <;> exact ⟨rfl, rfl, rfl, rfl⟩
   obtain ⟨q1, q2, q3, q4⟩ := hw
   have hoth : ∀ b, b ≠ r → (Go.ChangeMaps.setBlock w1 r (.mapIter (some bm) since (seen.push e.born) clock)).heap[b]? = w.heap[b]? := fun b hb => by
    show (w1.heap.setIfInBounds r _)[b]? = _
    rw [q4, Array.getElem?_setIfInBounds_ne (fun e => hb e.symm)]
   have hmine : (Go.ChangeMaps.setBlock w1 r (.mapIter (some bm) since (seen.push e.born) clock)).heap[r]? = some (.mapIter (some bm) since (seen.push e.born) clock) := by
    show (w1.heap.setIfInBounds r _)[r]? = _
    rw [q4]; exact heap_setIf hh
   have hag : Agree (Go.ChangeMaps.setBlock w1 r (.mapIter (some bm) since (seen.push e.born) clock)) m := ⟨fun b o u hu => by
    have hne : b ≠ r := fun e => by subst e; rw [h1 o] at hu; cases hu
    rw [World.cell?_of_block (hoth b hne)]; exact ha.cell b o u hu, fun b y hy => by
    have hne : b ≠ r := fun e => by subst e; rw [h2] at hy; cases hy
    rw [hoth b hne]; exact ha.map b y hy⟩
   have hec : e ∈ ents.toList := by unfold leftOf at he; simp at he ⊢; exact he.1
   unfold Does; rw [hr]
   refine ⟨m, ⟨⟨q1, q2, q3, ?_, fun b _ hb => hoth b (fun e => hb (by simp [Res.blocks, zj, e])), hag, MLe.refl _, fun _ _ _ => ⟨rfl, rfl⟩⟩,
    ⟨r, since, seen.push e.born, clock, rfl, h1, h2, .inl ⟨bm, ents, clock, hmine, hb, hs, hold, hsl, hsl, ?_, fun kv e2 => ⟨e, hec, ⟨seen, rfl⟩, by injection e2 with e2; exact e2.symm, rfl⟩⟩⟩, by simp [hkp, zAc, Res.blocks, zj], by simp [hkp, zAc, Res.blocks, zj]⟩, some (e.key, e.val), rfl, hmem⟩
   ·show w.heap.size ≤ (w1.heap.setIfInBounds r _).size
    rw [q4]; simp
   ·exact ((zDG hmem).symm.trans (hp.trans (left_push hs.2 he))).cons_inv
 ·have hr : (execOp (ZG σ) ⟨some d, .next x false, ty, pos, af, gd⟩).run P w = .ok (.value (.tuple #[.bool false])) w := by
   simp only [execOp, hn.ev hx, Instr.next, getObj, Sem.run_bind, Sem.run, hh, Result.andThen]; rfl
  unfold Does; rw [hr]
  exact ⟨m, ⟨ExtG.refl _ ha, ⟨r, since, seen, c0, rfl, h1, h2, .inr ⟨hh, rfl, rfl⟩⟩, by simp [hkp, zAc, Res.blocks, zj], by simp [hkp, zAc, Res.blocks, zj]⟩, none, rfl, rfl⟩
theorem ob_entry [hK : KC K m0 L] {r j : Nat} {x : Operand} {rest : List (Value × Value)} {k v : Value} (hx : ev us ch pre T x = some (.pointer (some ⟨r, 0, none⟩))) (hL : L[j]? = some (.iter (.pointer (some ⟨r, 0, none⟩)) rest (some (k, v)))) :
  Ob P K us ch pre T ⟨dst, .entry x, ty, pos, af, gd⟩ (.eq (.tuple #[k, v])) := Zg fun σ w m hk hn => by
 obtain ⟨r', since, seen, c0, e1, h1, h2, h⟩ := hK.at_ hk hL
 injection e1 with e1; injection e1 with e1; injection e1 with e1; subst e1
 rcases h with ⟨bm, ents, clock, hh, hb, hs, hold, hsc, hsl, hp, hl⟩ | ⟨hh, -, e⟩
 ·obtain ⟨e, he, ⟨s0, rfl⟩, e2, rfl⟩ := hl _ rfl
  injection e2 with e2 e3; subst e2; subst e3
  simp only [execOp, hn.ev hx]
  rw [Sem.run_bind, run_entry_at w r bm since s0 ents _ e hh ((hK.agree hk).map bm _ hb) he hs.2]; rfl
 ·cases e
end
end Go.Proofs.YtmdhhjmomilhjaaDoor
namespace Go.Proofs.YtmdhhjmomilhjaaDoor
open Go.Proofs.Tryd
set_option linter.all false
set_option maxRecDepth 4000
open Go.RowKit
def ZR (k : Int) (s p : Str) (i : Nat) : List Str := if k = 5 ∨ (k = 7 ∧ i = 1) ∨ (k = 8 ∧ i = 1) then [s] else if k = 8 then [s, p] else []
theorem boundP_R {t : Tm} (h : ShT t) {i : Nat} (hi : i < t.kids.length) : ZR t.kind t.name t.param i = z1 t.kind t.name t.param i := by
 have h1 := h.here.1; have h2 := h.here.2
 unfold ZR z1
 repeat' split
 all_goals first | rfl | (exfalso; omega)
def ZV (t : Tm) : List (Tm × List Str) := t.kids.zipIdx.map (fun x => (x.1, ZR t.kind t.name t.param x.2)) ++ t.arms.map fun a => (a.body, a.vars)
theorem parts_len (t : Tm) : (ZV t).length = t.kids.length + t.arms.length := by simp [ZV]
theorem parts_kid {t : Tm} {i : Nat} {u : Tm} (h : t.kids[i]? = some u) : (ZV t)[i]? = some (u, ZR t.kind t.name t.param i) := by
 have hi := (List.getElem?_eq_some_iff.1 h).1
 unfold ZV
 rw [List.getElem?_append_left (by simpa using hi)]
 simp [h]
theorem parts_arm {t : Tm} {i : Nat} {a : Ar} (h : t.arms[i]? = some a) : (ZV t)[t.kids.length + i]? = some (a.body, a.vars) := by
 unfold ZV
 rw [List.getElem?_append_right (by simp)]
 simp [h]
def PartY (t : Tm) (i : Nat) (m : Mem) (args : List Value) : Prop := ∃ (u : Tm) (l : List Str) (vs : List Value) (o : Option Addr) (c : Nat), args = [.agg vs.toArray, .slice o l.length c] ∧ TmR m u vs ∧ Strs m o l.length c l ∧ (ZV t)[i]? = some (u, l)
theorem zAz {α : Type} {l r : List α} {k : Nat} {x : α} (h : l.drop k = x :: r) : l[k]? = some x := by
 have := congrArg (·[0]?) h
 simpa using this
set_option maxHeartbeats 400000 in
theorem boundP_c {w : World} {m : Mem} {t : Tm} {vs_t : List Value} {i : Nat} (hA : Agree w m) (h_t : TmR m t vs_t) : FnV Tryd.prog 98 #[.agg vs_t.toArray, .int .i64 (i : Int)] w m (fun _ m v => (MP.strs (ZR t.kind t.name t.param i)).p m v) := by
 obtain ⟨⟨oK_t, cK_t, oA_t, cA_t, oR_t, cR_t, t0_t, t1_t, t2_t, t3_t, t4_t, t5_t, u0_t, u1_t, u2_t, u3_t, u4_t, u5_t⟩, rfl, hon_t, hkk_t, haa_t, hrr_t⟩ := h_t.open_
 dsimp only at hkk_t haa_t hrr_t
 have hbg_t := hkk_t.big; have hcp_t := hkk_t.cap; have hbh_t := haa_t.big; have hcq_t := haa_t.cap
 refine zX (vs := [_, _]) func98 rfl rfl rfl fun a0 hfr0 => ?_
 have hst0 := zW hA (zf [] _ w m)
 have hM : MLe m m := MLe.refl m
 refine zB fun _ hK1 => ?_
 refine rp0 hst0 hfr0 (.cons rfl (zv rfl rfl) <| .cons rfl (zC rfl) <| .nil) fun a1 w1 m1 hst1 hle1 hk1 => ?_
 have hfr1 := hk1.fr (.o 1 <| .nil)
 obtain ⟨g2, e2, hc2⟩ := hk1.ex 2 rfl
 replace hfr1 := hfr1.cons e2
 clear hst0 hfr0 hk1
 refine hK1 _ _ ?_
 refine zB fun _ hK3 => ?_
 refine zN ?_
 refine zB fun _ hK4 => ?_
 refine zB fun _ hK5 => ?_
 refine rp0 hst1 hfr1 (.cons rfl (zA (off := 0) rfl underlying33 rfl rfl sizeOf3 rfl) <| .cons rfl (zE rfl hc2 isAgg3 rfl) <| .cons rfl (zV rfl rfl) <| .cons rfl (zC rfl) <| .nil) fun a2 w2 m2 hst2 hle2 hk2 => ?_
 have hfr2 := hk2.fr (.o 1 <| .o 2 <| .n 5 <| .nil)
 replace hc2 := hc2.mono hle2
 clear hst1 hfr1 hk2
 refine hK5 _ _ ?_
 refine zG hfr2 rfl rfl (fun hb5 => ?_) (fun hb5 => ?_)
 ·try simp only [nqs] at hb5
  refine zJ ?_
  refine hK4 _ _ ?_
  refine zG hfr2 rfl rfl (fun hb5x => ?_) (fun hb5x => ?_)
  ·try simp only [nqs] at hb5x
   refine zB fun _ hK6 => ?_
   refine ra0 (tch := []) hst2 hfr2 (.cons rfl (zA (off := 2) rfl underlying33 rfl rfl sizeOf9 rfl) <| .cons rfl (zE rfl hc2 isAgg9 rfl) <| .cons rfl (ZB (.cons rfl <| .nil) underlying27 sizeOf9 zeroValue9 rfl rfl rfl rfl) <| .consA 25 rfl rfl <| .nil) fun a3 w3 m3 hst3 hle3 hk3 => ?_
   have hfr3 := hk3.fr (.nil)
   obtain ⟨g9, e7, hg9⟩ := hk3.ex 25 rfl
   replace hfr3 := hfr3.cons (hk3.same 4 rfl e7)
   clear hst2 hfr2 hk3
   refine hK6 _ _ ?_
   refine zK ?_
   repeat (with_reducible first | refine zI ?_ | refine zF ?_)
   exact zL hst3 hfr3 rfl (.tmp rfl <| .nil) (⟨(some ⟨g9, 0, none⟩, 1), by rw [show ZR t.kind t.name t.param i = [t.name] from by unfold ZR; first | rw [if_pos (by omega)] | rw [if_neg (by omega), if_pos (by omega)] | rw [if_neg (by omega), if_neg (by omega)]]; rfl, by rw [show ZR t.kind t.name t.param i = [t.name] from by unfold ZR; first | rw [if_pos (by omega)] | rw [if_neg (by omega), if_pos (by omega)] | rw [if_neg (by omega), if_neg (by omega)]]; exact Sl.one (vs := [_]) hg9 rfl rfl⟩)
  ·exfalso; try simp only [nqs] at hb5x
   first | exact absurd hb5x hb5 | exact absurd hb5 hb5x | simp_all
 ·try simp only [nqs] at hb5
  refine zB fun _ hK9 => ?_
  refine rp0 hst2 hfr2 (.cons rfl (zA (off := 0) rfl underlying33 rfl rfl sizeOf3 rfl) <| .cons rfl (zE rfl hc2 isAgg3 rfl) <| .cons rfl (zV rfl rfl) <| .cons rfl (zD rfl) <| .cons rfl (zD rfl) <| .cons rfl (zV rfl rfl) <| .cons rfl (ZI rfl rfl rfl) <| .cons rfl (zC rfl) <| .nil) fun a3 w3 m3 hst3 hle3 hk3 => ?_
  have hfr3 := hk3.fr (.o 1 <| .o 2 <| .n 5 <| .nil)
  clear hst2 hfr2 hk3
  refine hK9 _ _ ?_
  refine zG hfr3 rfl rfl (fun hb5 => ?_) (fun hb5 => ?_)
  ·try simp only [nqs] at hb5
   refine zJ ?_
   refine hK4 _ _ ?_
   refine zG hfr3 rfl rfl (fun hb5x => ?_) (fun hb5x => ?_)
   ·try simp only [nqs] at hb5x
    refine zB fun _ hK10 => ?_
    replace hc2 := hc2.mono hle3
    refine ra0 (tch := []) hst3 hfr3 (.cons rfl (zA (off := 2) rfl underlying33 rfl rfl sizeOf9 rfl) <| .cons rfl (zE rfl hc2 isAgg9 rfl) <| .cons rfl (ZB (.cons rfl <| .nil) underlying27 sizeOf9 zeroValue9 rfl rfl rfl rfl) <| .consA 25 rfl rfl <| .nil) fun a4 w4 m4 hst4 hle4 hk4 => ?_
    have hfr4 := hk4.fr (.nil)
    obtain ⟨g9, e11, hg9⟩ := hk4.ex 25 rfl
    replace hfr4 := hfr4.cons (hk4.same 4 rfl e11)
    clear hst3 hfr3 hk4
    refine hK10 _ _ ?_
    refine zK ?_
    repeat (with_reducible first | refine zI ?_ | refine zF ?_)
    exact zL hst4 hfr4 rfl (.tmp rfl <| .nil) (⟨(some ⟨g9, 0, none⟩, 1), by rw [show ZR t.kind t.name t.param i = [t.name] from by unfold ZR; first | rw [if_pos (by omega)] | rw [if_neg (by omega), if_pos (by omega)] | rw [if_neg (by omega), if_neg (by omega)]]; rfl, by rw [show ZR t.kind t.name t.param i = [t.name] from by unfold ZR; first | rw [if_pos (by omega)] | rw [if_neg (by omega), if_pos (by omega)] | rw [if_neg (by omega), if_neg (by omega)]]; exact Sl.one (vs := [_]) hg9 rfl rfl⟩)
   ·exfalso; try simp only [nqs] at hb5x
    first | exact absurd hb5x hb5 | exact absurd hb5 hb5x | simp_all
  ·try simp only [nqs] at hb5
   replace hc2 := hc2.mono hle3
   refine rp0 hst3 hfr3 (.cons rfl (zA (off := 0) rfl underlying33 rfl rfl sizeOf3 rfl) <| .cons rfl (zE rfl hc2 isAgg3 rfl) <| .cons rfl (zV rfl rfl) <| .cons rfl (zD rfl) <| .cons rfl (zD rfl) <| .cons rfl (zV rfl rfl) <| .cons rfl (ZI rfl rfl rfl) <| .cons rfl (zC rfl) <| .nil) fun a4 w4 m4 hst4 hle4 hk4 => ?_
   have hfr4 := hk4.fr (.o 2 <| .n 5 <| .nil)
   clear hst3 hfr3 hk4
   refine hK4 _ _ ?_
   refine zG hfr4 rfl rfl (fun hb5 => ?_) (fun hb5 => ?_)
   ·try simp only [nqs] at hb5
    refine zB fun _ hK13 => ?_
    replace hc2 := hc2.mono hle4
    refine ra0 (tch := []) hst4 hfr4 (.cons rfl (zA (off := 2) rfl underlying33 rfl rfl sizeOf9 rfl) <| .cons rfl (zE rfl hc2 isAgg9 rfl) <| .cons rfl (ZB (.cons rfl <| .nil) underlying27 sizeOf9 zeroValue9 rfl rfl rfl rfl) <| .consA 25 rfl rfl <| .nil) fun a5 w5 m5 hst5 hle5 hk5 => ?_
    have hfr5 := hk5.fr (.nil)
    obtain ⟨g9, e14, hg9⟩ := hk5.ex 25 rfl
    replace hfr5 := hfr5.cons (hk5.same 4 rfl e14)
    clear hst4 hfr4 hk5
    refine hK13 _ _ ?_
    refine zK ?_
    repeat (with_reducible first | refine zI ?_ | refine zF ?_)
    exact zL hst5 hfr5 rfl (.tmp rfl <| .nil) (⟨(some ⟨g9, 0, none⟩, 1), by rw [show ZR t.kind t.name t.param i = [t.name] from by unfold ZR; first | rw [if_pos (by omega)] | rw [if_neg (by omega), if_pos (by omega)] | rw [if_neg (by omega), if_neg (by omega)]]; rfl, by rw [show ZR t.kind t.name t.param i = [t.name] from by unfold ZR; first | rw [if_pos (by omega)] | rw [if_neg (by omega), if_pos (by omega)] | rw [if_neg (by omega), if_neg (by omega)]]; exact Sl.one (vs := [_]) hg9 rfl rfl⟩)
   ·try simp only [nqs] at hb5
    refine zB fun _ hK16 => ?_
    replace hc2 := hc2.mono hle4
    refine rp0 hst4 hfr4 (.cons rfl (zA (off := 0) rfl underlying33 rfl rfl sizeOf3 rfl) <| .cons rfl (zE rfl hc2 isAgg3 rfl) <| .cons rfl (zV rfl rfl) <| .cons rfl (zC rfl) <| .nil) fun a5 w5 m5 hst5 hle5 hk5 => ?_
    have hfr5 := hk5.fr (.o 2 <| .n 26 <| .nil)
    clear hst4 hfr4 hk5
    refine hK16 _ _ ?_
    refine zG hfr5 rfl rfl (fun hb26 => ?_) (fun hb26 => ?_)
    ·try simp only [nqs] at hb26
     refine zB fun _ hK17 => ?_
     replace hc2 := hc2.mono hle5
     refine ra0 (tch := []) hst5 hfr5 (.cons rfl (zA (off := 2) rfl underlying33 rfl rfl sizeOf9 rfl) <| .cons rfl (zE rfl hc2 isAgg9 rfl) <| .cons rfl (zA (off := 3) rfl underlying33 rfl rfl sizeOf9 rfl) <| .cons rfl (zE rfl hc2 isAgg9 rfl) <| .cons rfl (ZB (.cons rfl <| .cons rfl <| .nil) underlying27 sizeOf9 zeroValue9 rfl rfl rfl rfl) <| .consA 34 rfl rfl <| .nil) fun a6 w6 m6 hst6 hle6 hk6 => ?_
     have hfr6 := hk6.fr (.nil)
     obtain ⟨g9, e18, hg9⟩ := hk6.ex 34 rfl
     replace hfr6 := hfr6.cons (hk6.same 4 rfl e18)
     clear hst5 hfr5 hk6
     refine hK17 _ _ ?_
     refine zK ?_
     repeat (with_reducible first | refine zI ?_ | refine zF ?_)
     exact zL hst6 hfr6 rfl (.tmp rfl <| .nil) (⟨(some ⟨g9, 0, none⟩, 2), by rw [show ZR t.kind t.name t.param i = [t.name, t.param] from by unfold ZR; first | rw [if_pos (by omega)] | rw [if_neg (by omega), if_pos (by omega)] | rw [if_neg (by omega), if_neg (by omega)]]; rfl, by rw [show ZR t.kind t.name t.param i = [t.name, t.param] from by unfold ZR; first | rw [if_pos (by omega)] | rw [if_neg (by omega), if_pos (by omega)] | rw [if_neg (by omega), if_neg (by omega)]]; exact Sl.two (vs := [_]) (us := [_]) hg9 rfl rfl rfl rfl⟩)
    ·try simp only [nqs] at hb26
     refine zJ ?_
     refine hK3 _ _ ?_
     refine zB fun _ hK20 => ?_
     refine rp0 hst5 hfr5 (.cons rfl (zC rfl) <| .nil) fun a6 w6 m6 hst6 hle6 hk6 => ?_
     have hfr6 := hk6.fr (.n 4 <| .nil)
     clear hst5 hfr5 hk6
     refine hK20 _ _ ?_
     refine zK ?_
     repeat (with_reducible first | refine zI ?_ | refine zF ?_)
     exact zL hst6 hfr6 rfl (.tmp rfl <| .nil) (⟨(none, 0), by rw [show ZR t.kind t.name t.param i = [] from by unfold ZR; first | rw [if_pos (by omega)] | rw [if_neg (by omega), if_pos (by omega)] | rw [if_neg (by omega), if_neg (by omega)]]; rfl, by rw [show ZR t.kind t.name t.param i = [] from by unfold ZR; first | rw [if_pos (by omega)] | rw [if_neg (by omega), if_pos (by omega)] | rw [if_neg (by omega), if_neg (by omega)]]; exact Sl.empty⟩)
def MP.partsV (t : Tm) : MP := MP.mem (fun y : Nat × List Value => .func (.func 97) #[] #[.pointer (some ⟨y.1, 0, none⟩)]) (fun y m => CellsAt m ⟨y.1, 0, none⟩ y.2 ∧ TmR m t y.2) fun hm h => ⟨h.1.mono hm, h.2.mono hm⟩
set_option maxHeartbeats 400000 in
theorem parts_c {w : World} {m : Mem} {t : Tm} {vs_t : List Value} (hA : Agree w m) (h_t : TmR m t vs_t) : FnV Tryd.prog 90 #[.agg vs_t.toArray] w m (fun _ m v => (MP.partsV t).p m v) := by
 obtain ⟨⟨oK_t, cK_t, oA_t, cA_t, oR_t, cR_t, t0_t, t1_t, t2_t, t3_t, t4_t, t5_t, u0_t, u1_t, u2_t, u3_t, u4_t, u5_t⟩, rfl, hon_t, hkk_t, haa_t, hrr_t⟩ := h_t.open_
 dsimp only at hkk_t haa_t hrr_t
 have hbg_t := hkk_t.big; have hcp_t := hkk_t.cap; have hbh_t := haa_t.big; have hcq_t := haa_t.cap
 refine zX (vs := [_]) func90 rfl rfl rfl fun a0 hfr0 => ?_
 have hst0 := zW hA (zf [] _ w m)
 have hM : MLe m m := MLe.refl m
 refine zB fun _ hK1 => ?_
 refine rp0 hst0 hfr0 (.cons rfl (zv rfl rfl) <| .cons rfl (zC rfl) <| .nil) fun a1 w1 m1 hst1 hle1 hk1 => ?_
 have hfr1 := hk1.fr (.nil)
 obtain ⟨g9, e2, hg9⟩ := hk1.ex 1 rfl
 replace hfr1 := hfr1.cons e2
 replace h_t := h_t.mono hle1
 clear hst0 hfr0 hk1
 refine hK1 _ _ ?_
 refine zB fun _ hK3 => ?_
 refine rp0 hst1 hfr1 (.cons rfl (zBg (.cons rfl <| .nil)) <| .cons rfl (zC rfl) <| .nil) fun a2 w2 m2 hst2 hle2 hk2 => ?_
 have hfr2 := hk2.fr (.n 2 <| .nil)
 replace h_t := h_t.mono hle2
 replace hg9 := hg9.mono hle2
 clear hst1 hfr1 hk2
 refine hK3 _ _ ?_
 refine zK ?_
 repeat (with_reducible first | refine zI ?_ | refine zF ?_)
 exact zL hst2 hfr2 rfl (.tmp rfl <| .nil) (⟨(g9, _), rfl, hg9, h_t⟩)
set_option maxHeartbeats 800000 in
theorem parts1_c {w : World} {m : Mem} {l : Nat} {bs : List Nat} {Ψ : Nat → World → Mem → Prop} {Ψx : World → Mem → Prop} {mY : Mem} {q : Addr} {vs_t : List Value} {t : Tm} (hA : Agree w m) (hq : CellsAt m q vs_t) (h_t : TmR m t vs_t) (hmY : MLe mY m) (hbs : bs.Nodup) (hp : (Res.pack bs (Ψ 0)).holds w m) (hy : ∀ i, i < (ZV t).length → YieldW Tryd.prog l bs mY (PartY t i) (Ψ i) (Ψ (i + 1)) Ψx) : FnG Tryd.prog 97 #[.func (.yield l) #[] #[], .pointer (some q)] bs w m (fun w m _ => (Res.pack bs fun w m => Ψ (ZV t).length w m ∨ Ψx w m).holds w m) := by
 obtain ⟨⟨oK_t, cK_t, oA_t, cA_t, oR_t, cR_t, t0_t, t1_t, t2_t, t3_t, t4_t, t5_t, u0_t, u1_t, u2_t, u3_t, u4_t, u5_t⟩, rfl, hon_t, hkk_t, haa_t, hrr_t⟩ := h_t.open_
 dsimp only at hkk_t haa_t hrr_t
 have hbg_t := hkk_t.big; have hcp_t := hkk_t.cap; have hbh_t := haa_t.big; have hcq_t := haa_t.cap
 refine zX (vs := [_, _]) func97 rfl rfl rfl fun a0 hfr0 => ?_
 have hst0 := zW hA (zBS hp hbs)
 have hM : MLe m m := MLe.refl m
 rw [parts_len] at hy
 rw [parts_len]
 refine zB fun _ hK1 => ?_
 refine zB fun _ hK2 => ?_
 refine rp0 hst0 hfr0 (.cons rfl (zA (off := 5) rfl underlying33 rfl rfl sizeOf24 rfl) <| .cons rfl (zE rfl hq isAgg24 rfl) <| .cons rfl (zY rfl underlying24) <| .cons rfl (zD rfl) <| .nil) fun a1 w1 m1 hst1 hle1 hk1 => ?_
 have hfr1 := hk1.fr (.o 0 <| .o 1 <| .n 8 <| .n 9 <| .n 10 <| .nil)
 replace hq := hq.mono hle1
 replace h_t := h_t.mono hle1
 replace hkk_t := hkk_t.mono hle1
 replace haa_t := haa_t.mono hle1
 replace hM := hM.trans hle1
 clear hst0 hfr0 hk1
 refine hK2 _ _ ?_
 refine zN ?_
 refine ze (T := [(0, _), (1, _), (8, _), (9, _)]) (fun (y : Nat) => ([(10, .int .i64 (y : Int))] : List (Nat × Value))) (fun y => [.pack bs (Ψ y)]) (fun (y : Nat) m => (y ≤ t.kids.length)) (fun y => t.kids.length - y) (0) ⟨hst1, MLe.refl _, hfr1.sub (.c <| .c <| .c <| .c <| .c <| .nil), Nat.zero_le _⟩ fun y a2 w2 m2 hh2 => ?_
 have hst2 := hh2.st; have hle2 := hh2.le; have hfr2 := hh2.fr; have hrel := hh2.rel; clear hh2
 replace hq := hq.mono hle2
 replace h_t := h_t.mono hle2
 replace hkk_t := hkk_t.mono hle2
 replace haa_t := haa_t.mono hle2
 clear hst1 hfr1
 replace hM := hM.trans hle2
 have hyn := hrel
 have hlh2 := hle2
 refine zB fun _ hK4 => ?_
 refine rp0 hst2 hfr2 (.cons rfl (z7 rfl rfl) <| .nil) fun a3 w3 m3 hst3 hle3 hk3 => ?_
 have hfr3 := hk3.fr (.o 10 <| .o 0 <| .o 1 <| .o 8 <| .o 9 <| .n 11 <| .nil)
 replace hq := hq.mono hle3
 replace h_t := h_t.mono hle3
 replace hkk_t := hkk_t.mono hle3
 replace haa_t := haa_t.mono hle3
 have hlh3 := hlh2.trans hle3
 replace hM := hM.trans hle3
 clear hst2 hfr2 hk3
 refine hK4 _ _ ?_
 refine zB fun _ hK5 => ?_
 refine zG hfr3 rfl rfl (fun hb11 => ?_) (fun hb11 => ?_)
 ·try simp only [nqs] at hb11
  refine zJ ?_
  refine hK5 _ _ ?_
  refine zB fun _ hK6 => ?_
  refine zN ?_
  refine zB fun _ hK7 => ?_
  obtain ⟨p8, vs8, x8, ho8, hd8, hm_x8, ht8, hcv8, hl8, hv8⟩ := hkk_t.nth (k := y) (by omega)
  cases ho8
  obtain ⟨⟨oK8, cK8, oA8, cA8, oR8, cR8, t08, t18, t28, t38, t48, t58, u08, u18, u28, u38, u48, u58⟩, rfl, hon8, hkk8, haa8, hrr8⟩ := hv8.open_
  dsimp only at hkk8 haa8 hrr8
  have hbg8 := hkk8.big; have hcp8 := hkk8.cap; have hbh8 := haa8.big; have hcq8 := haa8.cap
  replace hst3 := hst3.more (r := .free) trivial List.nodup_nil (by simp [Res.blocks])
  refine ra0 (tch := [(3, 1, (fun v => .blk v _)), (5, 1, (fun v => .blk v _))]) hst3 hfr3 (.cons rfl (zD rfl) <| .cons rfl (zH (k := y) rfl rfl underlying24 sizeOf33 rfl (by omega)) <| .cons rfl (zO rfl hcv8 isAgg33 sizeOf33 rfl rfl) <| .consT rfl rfl (fun _ => rfl) rfl (zQ zeroValue33 rfl) <| .cons rfl (zC rfl) <| .consT rfl rfl (fun _ => rfl) rfl (zU 4 rfl rfl rfl fun y4 => zb rfl rfl rfl rfl rfl sizeOf33 rfl rfl hv8.one) <| .nil) fun a4 w4 m4 hst4 hle4 hk4 => ?_
  have hfr4 := hk4.fr (.o 10 <| .o 0 <| .o 1 <| .o 8 <| .o 9 <| .n 3 <| .nil)
  obtain ⟨g9, e9, _⟩ := hk4.ex 4 rfl
  replace hfr4 := hfr4.cons e9
  replace hst4 := hst4.fin (L' := [_, _]) (.cons e9 <| .cons e9 <| .nil)
  try simp only [List.take_succ_cons, List.take_zero, List.drop_succ_cons, List.drop_zero, List.cons_append, List.nil_append, List.append_nil, List.length_cons, List.length_nil, Nat.zero_add, Nat.reduceAdd] at hst4
  clear hst3 hfr3 hk4
  refine hK7 _ _ ?_
  refine zB fun _ hK10 => ?_
  replace hq := hq.mono hle4
  replace h_t := h_t.mono hle4
  replace hv8 := hv8.mono hle4
  replace hM := hM.trans hle4
  refine zz (tch := [(5, 0, (fun v => .pack bs _))]) (fun _ => mixed) hst4 hfr4 (by kernel_rfl) (by kernel_rfl) (by kernel_rfl) (.cons rfl (zD rfl) <| .cons rfl (zd (j := 1) rfl rfl isAgg33 sizeOf33 rfl) <| .cons rfl (zO rfl hq isAgg33 sizeOf33 rfl rfl) <| .cons rfl (zD rfl) <| .cons rfl (zi (φ := MP.strs (ZR t.kind t.name t.param y)) rfl (.cons rfl <| .cons rfl <| .nil) call98 (fun w m hK => by have hle_ := KC.le hK; have hA := KC.agree hK; have h_t := h_t.mono hle_; exact FnG.mono (boundP_c (t := t) (i := y) hA h_t) fun _ _ _ _ h => h)) <| .consT rfl rfl (fun _ => rfl) rfl (zU 19 rfl rfl rfl fun y19 => zDY rfl (.cons rfl <| .cons rfl <| .nil) (hy y (by omega)) (hmY.trans hM) hbs (fun w m hK => ⟨x8, _, _, _, _, rfl, hv8.mono (KC.le hK), hK.2, parts_kid (zAz hd8)⟩)) <| .consN 20 notV rfl rfl (zCn rfl rfl) <| .nil) fun a5 w5 m5 hst5 hle5 hk5 => ?_
  have hfr5 := hk5.fr (.o 10 <| .o 0 <| .o 1 <| .o 8 <| .o 9 <| .nil)
  obtain ⟨b20, e11, _⟩ := hk5.ex 20 rfl
  replace hfr5 := hfr5.cons (hk5.made 21 rfl e11)
  replace hst5 := hst5.fin (L' := [_, _]) (.cons e11 <| .nil)
  clear hst4 hfr4 hk5
  refine hK10 _ _ ?_
  refine zG hfr5 rfl rfl (fun hb21 => ?_) (fun hb21 => ?_)
  ·try simp only [nqs] at hb21
   have hst9 := hst5.weaken (k := 0) (r' := .pack bs (Ψx)) rfl rfl (fun h => ZT h fun w m h => h.elim (fun h => by have h1 : Value.bool b20 = Value.bool true := h.1; injection h1 with h1; rw [h1] at hb21; exact absurd hb21 (by decide)) (fun h => h.2))
   simp only [List.set_cons_zero] at hst9
   clear hst5; have hst5 := hst9; clear hst9
   refine zK ?_
   repeat (with_reducible first | refine zI ?_ | refine zF ?_)
   exact zL hst5 hfr5 rfl (.nil) (ZT (hst5.loc.at_ (k := 0) rfl) fun w m h => .inr h)
  ·try simp only [nqs] at hb21
   have hst9 := hst5.weaken (k := 0) (r' := .pack bs (Ψ (y + 1))) rfl rfl (fun h => ZT h fun w m h => h.elim (fun h => h.2) (fun h => by have h1 : Value.bool b20 = Value.bool false := h.1; injection h1 with h1; rw [h1] at hb21; exact absurd hb21 (by decide)))
   simp only [List.set_cons_zero] at hst9
   clear hst5; have hst5 := hst9; clear hst9
   refine zJ ?_
   refine hK6 _ _ ?_
   refine rp0 hst5 hfr5 (.cons rfl (zk rfl rfl ⟨by omega, by omega⟩) <| .cons rfl (zD rfl) <| .nil) fun a6 w6 m6 hst6 hle6 hk6 => ?_
   have hfr6 := hk6.fr (.o 0 <| .o 1 <| .o 8 <| .o 9 <| .n 10 <| .nil)
   clear hst5 hfr5 hk6
   have hst6 := hst6.take 1
   have zq1 := hle5.trans hle6
   have zq2 := hle4.trans zq1
   have hlh6 := hlh3.trans zq2
   exact ⟨y + 1, m6, by show t.kids.length - (y + 1) < t.kids.length - y; omega, ⟨hst6, hlh6, hfr6.sub (.c <| .c <| .c <| .c <| .c <| .nil), by show y + 1 ≤ t.kids.length; omega⟩⟩
 ·try simp only [nqs] at hb11
  have hge : y = t.kids.length := by omega
  subst hge
  refine zg ?_
  refine hK1 _ _ ?_
  refine zB fun _ hK13 => ?_
  refine rp0 hst3 hfr3 (.cons rfl (zA (off := 6) rfl underlying33 rfl rfl sizeOf25 rfl) <| .cons rfl (zE rfl hq isAgg25 rfl) <| .cons rfl (zY rfl underlying25) <| .cons rfl (zD rfl) <| .nil) fun a4 w4 m4 hst4 hle4 hk4 => ?_
  have hfr4 := hk4.fr (.o 10 <| .o 0 <| .n 24 <| .n 25 <| .n 26 <| .nil)
  clear hst3 hfr3 hk4
  refine hK13 _ _ ?_
  refine zN ?_
  have hlh4 := hlh3.trans hle4
  have hlq14 := hlh4
  refine ze (T := [(10, _), (0, _), (24, _), (25, _)]) (fun (y : Nat) => ([(26, .int .i64 (y : Int))] : List (Nat × Value))) (fun y => [.pack bs (Ψ (t.kids.length + y))]) (fun (y : Nat) m => (y ≤ t.arms.length)) (fun y => t.arms.length - y) (0) ⟨hst4, MLe.refl _, hfr4.sub (.c <| .c <| .c <| .c <| .c <| .nil), Nat.zero_le _⟩ fun y a5 w5 m5 hh5 => ?_
  have hst5 := hh5.st; have hle5 := hh5.le; have hfr5 := hh5.fr; have hrel := hh5.rel; clear hh5
  clear hst4 hfr4
  have hyn := hrel
  have hlh5 := hle5
  refine zB fun _ hK15 => ?_
  refine rp0 hst5 hfr5 (.cons rfl (z7 rfl rfl) <| .nil) fun a6 w6 m6 hst6 hle6 hk6 => ?_
  have hfr6 := hk6.fr (.o 26 <| .o 10 <| .o 0 <| .o 24 <| .o 25 <| .n 27 <| .nil)
  clear hst5 hfr5 hk6
  refine hK15 _ _ ?_
  refine zB fun _ hK16 => ?_
  refine zG hfr6 rfl rfl (fun hb27 => ?_) (fun hb27 => ?_)
  ·try simp only [nqs] at hb27
   refine zJ ?_
   refine hK16 _ _ ?_
   refine zB fun _ hK17 => ?_
   refine zN ?_
   refine zB fun _ hK18 => ?_
   have zq3 := hle5.trans hle6
   have zq4 := hle4.trans zq3
   replace haa_t := haa_t.mono zq4
   obtain ⟨p19, vs19, x19, ho19, hd19, hm_x19, ht19, hcv19, hl19, hv19⟩ := haa_t.nth (k := y) (by omega)
   cases ho19
   obtain ⟨oV19, cV19, bs19, rfl, hva19, hbd19⟩ := hv19.open_
   have hbv19 := hva19.big; have hcv19_ := hva19.cap
   obtain ⟨⟨oK19b, cK19b, oA19b, cA19b, oR19b, cR19b, t019b, t119b, t219b, t319b, t419b, t519b, u019b, u119b, u219b, u319b, u419b, u519b⟩, rfl, hon19b, hkk19b, haa19b, hrr19b⟩ := hbd19.open_
   dsimp only at hkk19b haa19b hrr19b
   have hbg19b := hkk19b.big; have hcp19b := hkk19b.cap; have hbh19b := haa19b.big; have hcq19b := haa19b.cap
   replace hst6 := hst6.more (r := .free) trivial List.nodup_nil (by simp [Res.blocks])
   refine ra0 (tch := [(2, 1, (fun v => .blk v _)), (3, 1, (fun v => .blk v _))]) hst6 hfr6 (.cons rfl (zH (k := y) rfl rfl underlying25 sizeOf72 rfl (by omega)) <| .cons rfl (zO rfl hcv19 isAgg72 sizeOf72 rfl rfl) <| .consT rfl rfl (fun _ => rfl) rfl (zQ zeroValue72 rfl) <| .consT rfl rfl (fun _ => rfl) rfl (zU 6 rfl rfl rfl fun y6 => zb rfl rfl rfl rfl rfl sizeOf72 rfl rfl hv19.one) <| .nil) fun a7 w7 m7 hst7 hle7 hk7 => ?_
   have hfr7 := hk7.fr (.o 26 <| .o 10 <| .o 0 <| .o 24 <| .o 25 <| .nil)
   obtain ⟨g20, e20, _⟩ := hk7.ex 6 rfl
   replace hfr7 := hfr7.cons e20
   replace hst7 := hst7.fin (L' := [_, _]) (.cons e20 <| .cons e20 <| .nil)
   try simp only [List.take_succ_cons, List.take_zero, List.drop_succ_cons, List.drop_zero, List.cons_append, List.nil_append, List.append_nil, List.length_cons, List.length_nil, Nat.zero_add, Nat.reduceAdd] at hst7
   clear hst6 hfr6 hk7
   refine hK18 _ _ ?_
   refine zB fun _ hK21 => ?_
   have zq5 := zq4.trans hle7
   replace hM := hM.trans zq5
   replace hva19 := hva19.mono hle7
   replace hbd19 := hbd19.mono hle7
   refine ra0 (tch := [(5, 0, (fun v => .pack bs _))]) hst7 hfr7 (.cons rfl (zD rfl) <| .cons rfl (zA (off := 2) rfl underlying72 rfl rfl sizeOf33 rfl) <| .cons rfl (Zo (j := 1) rfl rfl isAgg33 sizeOf33 rfl rfl) <| .cons rfl (zA (off := 1) rfl underlying72 rfl rfl sizeOf27 rfl) <| .cons rfl (zM (j := 1) rfl rfl isAgg27 rfl) <| .consT rfl rfl (fun _ => rfl) rfl (zDY rfl (.cons rfl <| .cons rfl <| .nil) (hy (t.kids.length + y) (by omega)) (hmY.trans hM) hbs (fun w m hK => ⟨x19.body, _, _, _, _, rfl, hbd19.mono (KC.le hK), hva19.mono (KC.le hK), parts_arm (zAz hd19)⟩)) <| .consN 35 notV rfl rfl (zCn rfl rfl) <| .nil) fun a8 w8 m8 hst8 hle8 hk8 => ?_
   have hfr8 := hk8.fr (.o 26 <| .o 10 <| .o 0 <| .o 24 <| .o 25 <| .nil)
   obtain ⟨b35, e22, _⟩ := hk8.ex 35 rfl
   replace hfr8 := hfr8.cons (hk8.made 36 rfl e22)
   replace hst8 := hst8.fin (L' := [_, _]) (.cons e22 <| .nil)
   clear hst7 hfr7 hk8
   refine hK21 _ _ ?_
   refine zG hfr8 rfl rfl (fun hb36 => ?_) (fun hb36 => ?_)
   ·try simp only [nqs] at hb36
    have hst9 := hst8.weaken (k := 0) (r' := .pack bs (Ψx)) rfl rfl (fun h => ZT h fun w m h => h.elim (fun h => by have h1 : Value.bool b35 = Value.bool true := h.1; injection h1 with h1; rw [h1] at hb36; exact absurd hb36 (by decide)) (fun h => h.2))
    simp only [List.set_cons_zero] at hst9
    clear hst8; have hst8 := hst9; clear hst9
    refine zK ?_
    repeat (with_reducible first | refine zI ?_ | refine zF ?_)
    exact zL hst8 hfr8 rfl (.nil) (ZT (hst8.loc.at_ (k := 0) rfl) fun w m h => .inr h)
   ·try simp only [nqs] at hb36
    have hst9 := hst8.weaken (k := 0) (r' := .pack bs (Ψ (t.kids.length + (y + 1)))) rfl rfl (fun h => ZT h fun w m h => h.elim (fun h => h.2) (fun h => by have h1 : Value.bool b35 = Value.bool false := h.1; injection h1 with h1; rw [h1] at hb36; exact absurd hb36 (by decide)))
    simp only [List.set_cons_zero] at hst9
    clear hst8; have hst8 := hst9; clear hst9
    refine zJ ?_
    refine hK17 _ _ ?_
    refine rp0 hst8 hfr8 (.cons rfl (zk rfl rfl ⟨by omega, by omega⟩) <| .cons rfl (zD rfl) <| .nil) fun a9 w9 m9 hst9 hle9 hk9 => ?_
    have hfr9 := hk9.fr (.o 10 <| .o 0 <| .o 24 <| .o 25 <| .n 26 <| .nil)
    clear hst8 hfr8 hk9
    have hst9 := hst9.take 1
    have zq6 := hle8.trans hle9
    have zq7 := hle7.trans zq6
    have zq8 := hle6.trans zq7
    have hlh9 := hlh5.trans zq8
    exact ⟨y + 1, m9, by show t.arms.length - (y + 1) < t.arms.length - y; omega, ⟨hst9, hlh9, hfr9.sub (.c <| .c <| .c <| .c <| .c <| .nil), by show y + 1 ≤ t.arms.length; omega⟩⟩
  ·try simp only [nqs] at hb27
   have hge : y = t.arms.length := by omega
   subst hge
   refine zg ?_
   repeat (with_reducible first | refine ZM ?_ | refine ZF ?_ | refine zw ?_)
   exact fn_end hst6 hfr6 rfl (.nil) (ZT (hst6.loc.at_ (k := 0) rfl) fun w m h => .inl h)
end Go.Proofs.YtmdhhjmomilhjaaDoor
namespace Go.Proofs.YtmdhhjmomilhjaaDoor
set_option linter.all false
open Go.RowKit Go.MapKept
def zBZ {κ α : Type} (f : α → Value) (l : List (κ × α)) : List (κ × Value) := l.map fun p => (p.1, f p.2)
theorem zCw {κ α : Type} [DecidableEq κ] (f : α → Value) (k : κ) : ∀ l : List (κ × α), Zs k (zBZ f l) = (Zs k l).map f
 | [] => rfl
 | (k', x) :: l => by
  have ih := zCw f k l
  simp only [zBZ, List.map_cons, Zs] at ih ⊢
  split
  ·rfl
  ·exact ih
theorem encW_set {κ α : Type} [DecidableEq κ] (f : α → Value) (k : κ) (x : α) : ∀ l : List (κ × α), zBJ k (f x) (zBZ f l) = zBZ f (zBJ k x l)
 | [] => rfl
 | (k', y) :: l => by
  have ih := encW_set f k x l
  simp only [zBZ, List.map_cons, zBJ] at ih ⊢
  split
  ·rfl
  ·rw [List.map_cons, ih]
theorem encW_next {κ α : Type} {ek : κ → Value} {f : α → Value} {e : Value × Value} : ∀ {l : List (κ × α)}, e ∈ zAK ek (zBZ f l) →
  ∃ k x l', e = (ek k, f x) ∧ l.Perm ((k, x) :: l') ∧ zCP e (zAK ek (zBZ f l)) = zAK ek (zBZ f l') ∧ l'.length + 1 = l.length
 | [], h => by cases h
 | (k, x) :: l, h => by
  by_cases hc : (ek k, f x) = e
  ·exact ⟨k, x, l, hc.symm, .refl _, by simp only [zAK, zBZ, List.map_cons]; unfold zCP; rw [if_pos hc], rfl⟩
  ·have h' : e ∈ zAK ek (zBZ f l) := by
    simp only [zAK, zBZ, List.map_cons] at h
    rcases List.mem_cons.1 h with h | h
    ·exact absurd h.symm hc
    ·exact h
   obtain ⟨k', x', l', e1, h2, h3, h5⟩ := encW_next h'
   refine ⟨k', x', (k, x) :: l', e1, (h2.cons _).trans (.swap _ _ _), ?_, by simp [← h5]⟩
   simp only [zAK, zBZ, List.map_cons] at h3 ⊢
   unfold zCP; rw [if_neg hc, h3]
theorem encW_nil {κ α : Type} {ek : κ → Value} {f : α → Value} {l : List (κ × α)} (he : zAK ek (zBZ f l) = []) : l = [] := by
 cases l with
 | nil => rfl
 | cons _ _ => cases he
theorem MapAt.rangeV {κ : Type} {ek : κ → Value} {m : Mem} {g : Nat} {es : List (κ × Value)} (h : MapAt ek m g es) : RangeV m (some g) (zAK ek es) := by obtain ⟨e, c, h1, h2, h3⟩ := h; exact ⟨e, c, h1, h3, h2⟩
section
variable {P : Program} {K : World → Mem → Prop} {m0 : Mem} {L : List Res} {us : List Nat} {ch : List (Nat × Bool)} {pre : List Ent} {T : List (Nat × Value)}
variable {dst : Option Nat} {ty : TypeId} {pos : String} {af : Array Edge} {gd : Option (Nat × Bool)}
theorem ob_lookup1 [hK : KC K m0 L] {κ : Type} [DecidableEq κ] {enc : κ → Value} {d : TypeDesc} {t kt et : TypeId} {x y : Operand} {k : κ} {g j : Nat} {z v : Value} {es : List (κ × Value)} (hKe : Keys d enc) (hx : ev us ch pre T x = some (.map (some g))) (hy : ev us ch pre T y = some (enc k))
  (hL : L[j]? = some (.map (.map (some g)) (zAK enc es))) (hm : P.underlying t = some (.map kt et)) (hd : P.underlying kt = some d) (hz : ∀ w, (zeroValue et).run P w = .ok z w)
  (hv : (Zs k es).getD z = v) :
  Ob P K us ch pre T ⟨dst, .lookup t x y false, ty, pos, af, gd⟩ (.eq v) :=
 Zg fun σ w m hk hn => by
  obtain ⟨g', ents, clock, e1, hh, he, _⟩ := hK.at_ hk hL
  injection e1 with e1; injection e1 with e1; subst e1
  have hf := zBG hKe k ents.toList es 0 he
  have hget : (getObj g).run P w = .ok (.map ents clock) w := by simp [getObj, Sem.run, hh]
  rw [zCT k es 0] at hv
  cases ha : zDM k es 0 with
  | none =>
   rw [ha] at hf hv
   simp only [Option.map_none, Option.getD_none] at hv
   subst hv
   simp [execOp, hn.ev hx, hn.ev hy, Instr.lookup, run_underlying hm, Result.andThen, hget, run_checkKey hd (hKe.key k), run_findKey hd hf, hz]
  | some q =>
   rw [ha] at hf hv
   simp only [Option.map_some, Option.getD_some] at hv
   subst hv
   simp [execOp, hn.ev hx, hn.ev hy, Instr.lookup, run_underlying hm, Result.andThen, hget, run_checkKey hd (hKe.key k), run_findKey hd hf]
theorem ob_lookupM1 [hK : KC K m0 L] {κ : Type} [DecidableEq κ] {enc : κ → Value} {d : TypeDesc} {t kt et : TypeId} {x y : Operand} {k : κ} {g : Nat} {z v : Value} {es : List (κ × Value)} (hKe : Keys d enc) (hx : ev us ch pre T x = some (.map (some g))) (hy : ev us ch pre T y = some (enc k))
  (hM : ∀ w m, K w m → MapAt enc m g es) (hm : P.underlying t = some (.map kt et)) (hd : P.underlying kt = some d) (hz : ∀ w, (zeroValue et).run P w = .ok z w)
  (hv : (Zs k es).getD z = v) :
  Ob P K us ch pre T ⟨dst, .lookup t x y false, ty, pos, af, gd⟩ (.eq v) :=
 Zg fun σ w m hk hn => by
  obtain ⟨ents, clock, hh0, he, -⟩ := hM w m hk
  have hh := (hK.agree hk).map g _ hh0
  have hf := zBG hKe k ents.toList es 0 he
  have hget : (getObj g).run P w = .ok (.map ents clock) w := by simp [getObj, Sem.run, hh]
  rw [zCT k es 0] at hv
  cases ha : zDM k es 0 with
  | none =>
   rw [ha] at hf hv
   simp only [Option.map_none, Option.getD_none] at hv
   subst hv
   simp [execOp, hn.ev hx, hn.ev hy, Instr.lookup, run_underlying hm, Result.andThen, hget, run_checkKey hd (hKe.key k), run_findKey hd hf, hz]
  | some q =>
   rw [ha] at hf hv
   simp only [Option.map_some, Option.getD_some] at hv
   subst hv
   simp [execOp, hn.ev hx, hn.ev hy, Instr.lookup, run_underlying hm, Result.andThen, hget, run_checkKey hd (hKe.key k), run_findKey hd hf]
end
theorem zAu {κ α : Type} [DecidableEq κ] {k : κ} : ∀ {l : List (κ × α)}, Zs k l = none ↔ ¬ k ∈ l.map Prod.fst
 | [] => by simp [Zs]
 | (k', x) :: l => by
  have ih := zAu (k := k) (l := l)
  simp only [Zs, List.map_cons, List.mem_cons, not_or]
  by_cases e : k = k'
  ·simp [e]
  ·simp [e, ih]
theorem zCG {κ α : Type} [DecidableEq κ] {k : κ} {x : α} : ∀ {l : List (κ × α)}, (l.map Prod.fst).Nodup → (k, x) ∈ l → Zs k l = some x
 | (k', y) :: l, hn, h => by
  rw [List.map_cons, List.nodup_cons] at hn
  rcases List.mem_cons.1 h with h | h
  ·injection h with h1 h2; subst h1; subst h2; simp [Zs]
  ·have hne : k ≠ k' := fun e => hn.1 (e ▸ List.mem_map.2 ⟨(k, x), h, rfl⟩)
   simp only [Zs, hne, if_false]
   exact zCG hn.2 h
theorem zDK {κ α : Type} [DecidableEq κ] {k s : κ} {x : α} : ∀ {l : List (κ × α)}, Zs s (zBJ k x l) = if s = k then some x else Zs s l
 | [] => by simp only [zBJ, Zs]
 | (k', y) :: l => by
  have ih := zDK (k := k) (s := s) (x := x) (l := l)
  simp only [zBJ]
  by_cases e : k = k'
  ·subst e; simp only [if_true, Zs]
   by_cases h : s = k
   ·simp [h]
   ·simp [h]
  ·simp only [e, if_false, Zs, ih]
   by_cases h : s = k
   ·subst h; simp [e]
   ·simp [h]
theorem keys_aset {κ α : Type} [DecidableEq κ] {k : κ} {x : α} : ∀ {l : List (κ × α)}, (zBJ k x l).map Prod.fst = if k ∈ l.map Prod.fst then l.map Prod.fst else l.map Prod.fst ++ [k]
 | [] => by simp [zBJ]
 | (k', y) :: l => by
  have ih := keys_aset (k := k) (x := x) (l := l)
  simp only [zBJ]
  by_cases e : k = k'
  ·subst e; simp
  ·simp only [e, if_false, List.map_cons, ih, List.mem_cons, false_or]
   split <;> simp
theorem nodup_aset {κ α : Type} [DecidableEq κ] {k : κ} {x : α} {l : List (κ × α)} (h : (l.map Prod.fst).Nodup) : ((zBJ k x l).map Prod.fst).Nodup := by
 rw [keys_aset]
 split
 ·exact h
 ·rename_i hk
  rw [List.nodup_append]
  exact ⟨h, by simp, fun a ha b hb e => by simp at hb; subst hb; subst e; exact hk ha⟩
section
variable {P : Program} {K : World → Mem → Prop} {m0 : Mem} {L : List Res} {us : List Nat} {ch : List (Nat × Bool)} {pre : List Ent} {T : List (Nat × Value)}
variable {dst : Option Nat} {ty : TypeId} {pos : String} {af : Array Edge} {gd : Option (Nat × Bool)}
theorem Z4 [hK : KC K m0 L] {t e : TypeId} {sz : Nat} {x y : Operand} {vs us' : List Value} {z : Value} (hx : ev us ch pre T x = some (.agg vs.toArray)) (hy : ev us ch pre T y = some (.agg us'.toArray)) (ht : P.underlying t = some (.slice e))
  (hsz : ∀ w, (sizeOf e).run P w = .ok sz w) (hz : ∀ w, (zeroValue e).run P w = .ok z w) (hl : Nat.beq vs.length sz = true) (hl2 : Nat.beq us'.length sz = true) (hzs : Nat.beq z.cells.size sz = true) (hn : Nat.ble (2 * sz) 16777216 = true) (h0 : Nat.beq (2 * sz) 0 = false) :
  Ob P K us ch pre T ⟨dst, .buildSlice t 2 #[(0, x), (1, y)], ty, pos, af, gd⟩ (.ex (MP.row 2 (vs ++ us'))) := by
 rw [Nat.beq_eq] at hl hl2
 refine ZB (xs := [(0, x), (1, y)]) (vs := [(0, .agg vs.toArray), (1, .agg us'.toArray)]) (zero := z.cells.toList) (EvPs.cons hx (EvPs.cons hy .nil)) ht hsz hz rfl hn h0 ?_
 generalize hZ : ((List.range (2 * sz)).map fun i => z.cells.toList.toArray[i % z.cells.toList.toArray.size]!) = Z
 have hlen : Z.length = 2 * sz := by rw [← hZ]; simp
 have hc : (Value.agg vs.toArray).cells.toList = vs := rfl
 have hc2 : (Value.agg us'.toArray).cells.toList = us' := rfl
 simp only [zCl, hc, hc2]
 have e1 : Nat.beq vs.length sz = true := by rw [Nat.beq_eq]; exact hl
 have e1' : Nat.beq us'.length sz = true := by rw [Nat.beq_eq]; exact hl2
 have e2 : Nat.ble (0 * sz + vs.length) Z.length = true := by rw [hlen]; exact Nat.ble_eq_true_of_le (by omega)
 have e3 : Nat.ble (1 * sz + us'.length) (putL Z (0 * sz) vs).length = true := by rw [zDr, hlen]; exact Nat.ble_eq_true_of_le (by omega)
 rw [e1, e1', e2]
 simp only [Bool.not_true, Bool.or_self, cond_false]
 rw [e3]
 simp only [Bool.not_true, Bool.or_self, cond_false]
 congr 1
 apply List.ext_getElem?
 intro i
 rw [zCi _ _ _ _ (by rw [zDr, hlen]; omega), zCi _ _ _ _ (by rw [hlen]; omega)]
 by_cases h2 : 1 * sz ≤ i ∧ i < 1 * sz + us'.length
 ·rw [if_pos h2, List.getElem?_append_right (by omega)]; congr 1; omega
 ·rw [if_neg h2]
  by_cases h1 : 0 * sz ≤ i ∧ i < 0 * sz + vs.length
  ·rw [if_pos h1, List.getElem?_append_left (by omega)]; congr 1; omega
  ·rw [if_neg h1, List.getElem?_eq_none (by rw [hlen]; omega), List.getElem?_eq_none (by simp only [List.length_append]; omega)]
end
end Go.Proofs.YtmdhhjmomilhjaaDoor
namespace Go.Proofs.YtmdhhjmomilhjaaDoor
open Go.Proofs.Tryd
set_option linter.all false
set_option maxRecDepth 4000
open Go.RowKit
def zDI (s : Str) (p : Tm × List Str) : Nat := if s = uS ∨ ¬ s ∈ p.2 then Ze s p.1 else 0
def zCD (ps : List (Tm × List Str)) (s : Str) : Nat := (ps.map (zDI s)).sum
theorem preU_snoc (ps : List (Tm × List Str)) (p : Tm × List Str) (s : Str) : zCD (ps ++ [p]) s = zCD ps s + zDI s p := by simp [zCD]
theorem preU_take {ps : List (Tm × List Str)} {i : Nat} {p : Tm × List Str} (h : ps[i]? = some p) (s : Str) : zCD (ps.take (i + 1)) s = zCD (ps.take i) s + zDI s p := by
 rw [List.take_succ, h]; exact preU_snoc _ _ _
theorem parts_uses {t : Tm} (hs : ShT t) (hk : t.kind ≠ 1) (s : Str) : zCD (ZV t) s = Ze s t := by
 rw [zCg, if_neg hk]
 unfold ZV zCD
 rw [List.map_append, List.sum_append]
 congr 1
 ·have key : ∀ (l : List Tm) (i : Nat), (∀ j, j < l.length → i + j < t.kids.length) → (((l.zipIdx i).map fun x => (x.1, ZR t.kind t.name t.param x.2)).map (zDI s)).sum = zAL s (z1 t.kind t.name t.param) i l := by
   intro l
   induction l with
   | nil => intro i _; rfl
   | cons u l ih =>
    intro i h
    rw [List.zipIdx_cons, List.map_cons, List.map_cons, List.sum_cons, zAL, ih (i + 1) (fun j hj => by have := h (j + 1) (by simp; omega); omega)]
    unfold zDI
    simp only
    rw [boundP_R hs (by have := h 0 (by simp); omega)]
  exact key t.kids 0 (fun j hj => by omega)
 ·generalize t.arms = l
  induction l with
  | nil => rfl
  | cons a l ih => rw [List.map_cons, List.map_cons, List.sum_cons, zBs, ih]; rfl
theorem zCt {t : Tm} {p : Tm × List Str} (h : p ∈ ZV t) : p.1 ∈ t.kids ∨ ∃ a ∈ t.arms, a.body = p.1 := by
 unfold ZV at h
 rcases List.mem_append.1 h with h | h
 ·obtain ⟨x, hx, rfl⟩ := List.mem_map.1 h
  left
  obtain ⟨k, hk⟩ := List.mem_iff_getElem?.1 hx
  rw [List.getElem?_zipIdx] at hk
  cases e : t.kids[k]? with
  | none => rw [e] at hk; cases hk
  | some u => rw [e] at hk; simp only [Option.map_some, Option.some.injEq] at hk; subst hk; exact List.mem_of_getElem? e
 ·obtain ⟨a, ha, rfl⟩ := List.mem_map.1 h
  exact .inr ⟨a, ha, rfl⟩
theorem ZH : ∀ {l : List Tm} {u : Tm}, u ∈ l → zP u ≤ zR l
 | t :: ts, u, h => by
  rw [zR]
  rcases List.mem_cons.1 h with rfl | h
  ·omega
  ·have := ZH h; omega
theorem zAE : ∀ {l : List Ar} {a : Ar}, a ∈ l → zP a.body ≤ zo l
 | a' :: ts, a, h => by
  rw [ZD]
  rcases List.mem_cons.1 h with rfl | h
  ·omega
  ·have := zAE h; omega
theorem count_part {t : Tm} {p : Tm × List Str} (h : p ∈ ZV t) : zP p.1 + 1 ≤ zP t := by
 rcases zCt h with h | ⟨a, ha, e⟩
 ·rw [zr t]; have := ZH h; omega
 ·rw [zr t, ← e]; have := zAE ha; omega
theorem sh_part {t : Tm} {p : Tm × List Str} (hs : ShT t) (h : p ∈ ZV t) : ShT p.1 := by
 rcases zCt h with h | ⟨a, ha, e⟩
 ·exact hs.kid h
 ·exact e ▸ hs.arm ha
theorem preU_le {t : Tm} (i : Nat) (s : Str) : zCD ((ZV t).take i) s ≤ zP t := by
 have key : ∀ l : List (Tm × List Str), zCD l s ≤ (l.map fun p => zP p.1).sum := by
  intro l
  unfold zCD
  induction l with
  | nil => simp
  | cons p l ih => simp only [List.map_cons, List.sum_cons]; have := zBi s p.1; unfold zDI at ih ⊢; split <;> omega
 have h2 : ((ZV t).map fun p => zP p.1).sum ≤ zP t := by
  rw [zr t]; unfold ZV
  rw [List.map_append, List.sum_append]
  have e1 : ((t.kids.zipIdx.map (fun x => (x.1, ZR t.kind t.name t.param x.2))).map fun p => zP p.1).sum = zR t.kids := by
   have key : ∀ (l : List Tm) (i : Nat), (((l.zipIdx i).map fun x => (x.1, ZR t.kind t.name t.param x.2)).map fun p => zP p.1).sum = zR l := by
    intro l
    induction l with
    | nil => intro i; rfl
    | cons u l ih => intro i; rw [List.zipIdx_cons, List.map_cons, List.map_cons, List.sum_cons, zR, ih]
   exact key t.kids 0
  have e2 : ((t.arms.map fun a => (a.body, a.vars)).map fun p => zP p.1).sum = zo t.arms := by
   generalize t.arms = l
   induction l with
   | nil => rfl
   | cons a l ih => rw [List.map_cons, List.map_cons, List.sum_cons, ZD, ih]
  rw [e1, e2]; omega
 refine Nat.le_trans (key _) (Nat.le_trans ?_ h2)
 have : ∀ (l : List (Tm × List Str)) (i : Nat), ((l.take i).map fun p => zP p.1).sum ≤ (l.map fun p => zP p.1).sum := by
  intro l
  induction l with
  | nil => intro i; simp
  | cons p l ih => intro i; cases i with
   | zero => simp
   | succ i => simp only [List.take_succ_cons, List.map_cons, List.sum_cons]; have := ih i; omega
 exact this _ _
abbrev intW (x : Int) : Value := .int .i64 x
structure UsesL (f : Str → Nat) (l : List (Str × Int)) : Prop where
 nodup : (l.map Prod.fst).Nodup
 look : ∀ s, Zs s l = if f s = 0 then none else some (f s : Int)
theorem UsesL.nil {f : Str → Nat} (h : ∀ s, f s = 0) : UsesL f [] := ⟨by simp, fun s => by rw [if_pos (h s)]; rfl⟩
theorem UsesL.congr {f g : Str → Nat} {l : List (Str × Int)} (h : UsesL f l) (e : ∀ s, f s = g s) : UsesL g l := ⟨h.nodup, fun s => by rw [← e s]; exact h.look s⟩
theorem UsesL.got {f : Str → Nat} {l : List (Str × Int)} (h : UsesL f l) (s : Str) : (Zs s l).getD 0 = (f s : Int) := by rw [h.look s]; split <;> simp_all
theorem UsesL.at_ {f : Str → Nat} {l : List (Str × Int)} (h : UsesL f l) {k : Str} {x : Int} (hk : (k, x) ∈ l) : x = (f k : Int) ∧ f k ≠ 0 := by
 have h1 := zCG h.nodup hk
 rw [h.look k] at h1
 split at h1
 ·cases h1
 ·rename_i h0; injection h1 with h1; exact ⟨h1.symm, h0⟩
theorem UsesL.mem {f : Str → Nat} {l : List (Str × Int)} (h : UsesL f l) (s : Str) : s ∈ l.map Prod.fst ↔ f s ≠ 0 := by
 have h1 := h.look s
 by_cases h0 : f s = 0
 ·rw [if_pos h0, zAu] at h1; simp [h1, h0]
 ·rw [if_neg h0] at h1
  have : ¬ ¬ s ∈ l.map Prod.fst := fun hn => by rw [zAu.2 hn] at h1; cases h1
  have h2 : s ∈ l.map Prod.fst := Classical.not_not.1 this
  exact ⟨fun _ => h0, fun _ => h2⟩
theorem UsesL.add {f g : Str → Nat} {l : List (Str × Int)} (h : UsesL f l) {k : Str} {n : Nat} (hn : n ≠ 0) (hg : ∀ s, g s = if s = k then f s + n else f s) : UsesL g (zBJ k ((f k : Int) + (n : Int)) l) := by
 refine ⟨nodup_aset h.nodup, fun s => ?_⟩
 rw [zDK, hg s]
 by_cases e : s = k
 ·subst e; rw [if_pos rfl, if_pos rfl, if_neg (by omega)]; simp
 ·rw [if_neg e, if_neg e]; exact h.look s
def zAB (u : Tm) (lb : List Str) (dn : List (Str × Int)) (s : Str) : Nat := if s ∈ dn.map Prod.fst ∧ (s = uS ∨ ¬ s ∈ lb) then Ze s u else 0
theorem cameU_nil (u : Tm) (lb : List Str) (s : Str) : zAB u lb [] s = 0 := by simp [zAB]
theorem zEA {u : Tm} {lb : List Str} {dn : List (Str × Int)} {k : Str} {x : Int} (hk : ¬ k ∈ dn.map Prod.fst) (s : Str) : zAB u lb (dn ++ [(k, x)]) s = if s = k then (if k = uS ∨ ¬ k ∈ lb then Ze k u else 0) else zAB u lb dn s := by
 unfold zAB
 by_cases e : s = k
 ·subst e; simp
 ·rw [if_neg e]
  have hm : s ∈ (dn ++ [(k, x)]).map Prod.fst ↔ s ∈ dn.map Prod.fst := by
   rw [List.map_append, List.mem_append]
   exact ⟨fun h => h.resolve_right (fun h => e (List.mem_singleton.1 h)), .inl⟩
  by_cases hc : s ∈ dn.map Prod.fst ∧ (s = uS ∨ ¬ s ∈ lb)
  ·rw [if_pos ⟨hm.2 hc.1, hc.2⟩, if_pos hc]
  ·rw [if_neg (fun h => hc ⟨hm.1 h.1, h.2⟩), if_neg hc]
theorem came_add {f : Str → Nat} {u : Tm} {lb : List Str} {dn : List (Str × Int)} {k : Str} {x : Int} (hk : ¬ k ∈ dn.map Prod.fst) (hc : k = uS ∨ ¬ k ∈ lb) (s : Str) : f s + zAB u lb (dn ++ [(k, x)]) s = if s = k then f s + zAB u lb dn s + Ze k u else f s + zAB u lb dn s := by
 rw [zEA hk, if_pos hc]
 by_cases e : s = k
 ·subst e
  have h0 : zAB u lb dn s = 0 := by unfold zAB; rw [if_neg (fun h => hk h.1)]
  rw [if_pos rfl, if_pos rfl, h0]; omega
 ·rw [if_neg e, if_neg e]
theorem came_skip {f : Str → Nat} {u : Tm} {lb : List Str} {dn : List (Str × Int)} {k : Str} {x : Int} (hk : ¬ k ∈ dn.map Prod.fst) (hc : ¬ (k = uS ∨ ¬ k ∈ lb)) (s : Str) : f s + zAB u lb dn s = f s + zAB u lb (dn ++ [(k, x)]) s := by
 rw [zEA hk, if_neg hc]
 by_cases e : s = k
 ·subst e
  have h0 : zAB u lb dn s = 0 := by unfold zAB; rw [if_neg (fun h => hk h.1)]
  rw [if_pos rfl, h0]
 ·rw [if_neg e]
theorem cameU_all {u : Tm} {lb : List Str} {dn lu : List (Str × Int)} (h : UsesL (fun s => Ze s u) lu) (hp : dn.Perm lu) (s : Str) : zAB u lb dn s = zDI s (u, lb) := by
 unfold zAB zDI
 have hm : s ∈ dn.map Prod.fst ↔ Ze s u ≠ 0 := by rw [(hp.map Prod.fst).mem_iff]; exact h.mem s
 by_cases h0 : Ze s u = 0
 ·simp [h0]
 ·have h2 := hm.2 h0
  by_cases hc : s = uS ∨ ¬ s ∈ lb
  ·rw [if_pos ⟨h2, hc⟩, if_pos hc]
  ·rw [if_neg (fun h => hc h.2), if_neg hc]
theorem nodup_came {k : Str} {x : Int} {dn l lu : List (Str × Int)} (hp : (dn ++ (k, x) :: l).Perm lu) (hn : (lu.map Prod.fst).Nodup) : ¬ k ∈ dn.map Prod.fst := by
 have h := (hp.map Prod.fst).nodup_iff.2 hn
 rw [List.map_append, List.map_cons] at h
 exact fun hk => (List.nodup_append.1 h).2.2 k hk k (.head _) rfl
def MP.usesV (t : Tm) : MP := MP.mem (fun y : Nat × List (Str × Int) => .map (some y.1)) (fun y m => MapAt S m y.1 (zBZ intW y.2) ∧ UsesL (fun s => Ze s t) y.2) fun hm h => ⟨h.1.mono hm, h.2⟩
theorem parts_iter {m : Mem} {q : Addr} {vs : List Value} {t : Tm} (hq : CellsAt m q vs) (h_t : TmR m t vs) : IterC Tryd.prog 97 [.pointer (some q)] (ZV t).length (PartY t) m :=
 fun l bs Ψ Ψx w m' hA hm hbs hp hy => parts1_c hA (hq.mono hm) (h_t.mono hm) hm hbs hp hy
def idxA {α : Type} [DecidableEq α] : Nat → List α → α → Int
 | _, [], _ => -1
 | i, x :: l, s => if s = x then (i : Int) else idxA (i + 1) l s
theorem idxA_pos {α : Type} [DecidableEq α] (s : α) : ∀ (l : List α) (i : Nat), decide (0 ≤ idxA i l s) = decide (s ∈ l)
 | [], i => by simp [idxA]
 | x :: l, i => by
  simp only [idxA, List.mem_cons]
  by_cases h : s = x
  ·simp [h]
  ·simp only [h, if_false, false_or]; exact idxA_pos s l (i + 1)
theorem idxA_mem {α : Type} [DecidableEq α] (s : α) (l : List α) (i : Nat) : 0 ≤ idxA i l s ↔ s ∈ l := by
 have h := idxA_pos s l i
 rwa [decide_eq_decide] at h
set_option maxHeartbeats 400000 in
theorem indexS_c {w : World} {m : Mem} {o_l : Option Addr} {c_l : Nat} {l : List Str} {s : Str} (hA : Agree w m) (h_l : Strs m o_l l.length c_l l) : FnV Tryd.prog 99 #[.slice o_l l.length c_l, S s] w m (fun _ _ v => v = .int .i64 (idxA 0 l s)) := by
 have hb_l := h_l.big; have hc_l := h_l.cap
 refine zX (vs := [_, _]) func99 rfl rfl rfl fun a0 hfr0 => ?_
 have hst0 := zW hA (zf [] _ w m)
 have hM : MLe m m := MLe.refl m
 refine zB fun _ hK1 => ?_
 refine rp0 hst0 hfr0 (.cons rfl (zC rfl) <| .nil) fun a1 w1 m1 hst1 hle1 hk1 => ?_
 have hfr1 := hk1.fr (.o 0 <| .o 1 <| .nil)
 replace h_l := h_l.mono hle1
 clear hst0 hfr0 hk1
 refine hK1 _ _ ?_
 refine zB fun _ hK2 => ?_
 refine zB fun _ hK3 => ?_
 refine rp0 hst1 hfr1 (.cons rfl (zD rfl) <| .cons rfl (zY rfl underlying27) <| .cons rfl (zD rfl) <| .nil) fun a2 w2 m2 hst2 hle2 hk2 => ?_
 have hfr2 := hk2.fr (.o 0 <| .o 1 <| .n 7 <| .n 8 <| .nil)
 replace h_l := h_l.mono hle2
 clear hst1 hfr1 hk2
 refine hK3 _ _ ?_
 refine zN ?_
 refine ze (T := [(0, _), (1, _), (7, _)]) (fun (y : Nat) => ([(8, .int .i64 (y : Int))] : List (Nat × Value))) (fun _ => _) (fun (y : Nat) m => (y ≤ l.length) ∧ (idxA 0 l s = idxA y (l.drop y) s)) (fun y => l.length - y) (0) ⟨hst2, MLe.refl _, hfr2.sub (.c <| .c <| .c <| .c <| .nil), ⟨Nat.zero_le _, rfl⟩⟩ fun y a3 w3 m3 hh3 => ?_
 have hst3 := hh3.st; have hle3 := hh3.le; have hfr3 := hh3.fr; have hrel := hh3.rel; clear hh3
 replace h_l := h_l.mono hle3
 clear hst2 hfr2
 obtain ⟨hyn, hrem⟩ := hrel
 have hlh3 := hle3
 refine zB fun _ hK5 => ?_
 refine rp0 hst3 hfr3 (.cons rfl (z7 rfl rfl) <| .nil) fun a4 w4 m4 hst4 hle4 hk4 => ?_
 have hfr4 := hk4.fr (.o 8 <| .o 0 <| .o 1 <| .o 7 <| .n 9 <| .nil)
 replace h_l := h_l.mono hle4
 have hlh4 := hlh3.trans hle4
 clear hst3 hfr3 hk4
 refine hK5 _ _ ?_
 refine zB fun _ hK6 => ?_
 refine zG hfr4 rfl rfl (fun hb9 => ?_) (fun hb9 => ?_)
 ·try simp only [nqs] at hb9
  refine zJ ?_
  refine hK6 _ _ ?_
  refine zB fun _ hK7 => ?_
  refine zN ?_
  refine zB fun _ hK8 => ?_
  refine rp0 hst4 hfr4 (.cons rfl (zD rfl) <| .cons rfl (zC rfl) <| .nil) fun a5 w5 m5 hst5 hle5 hk5 => ?_
  have hfr5 := hk5.fr (.o 8 <| .o 0 <| .o 1 <| .o 7 <| .n 5 <| .nil)
  clear hst4 hfr4 hk5
  refine hK8 _ _ ?_
  refine zB fun _ hK9 => ?_
  replace h_l := h_l.mono hle5
  obtain ⟨p10, vs10, x10, ho10, hd10, hm_x10, ht10, hcv10, hl10, hv10⟩ := h_l.nth (k := y) (by omega)
  cases ho10
  subst hv10
  try rw [hd10] at hrem
  try simp only [idxA] at hrem
  refine rp0 hst5 hfr5 (.cons rfl (zD rfl) <| .cons rfl (zD rfl) <| .cons rfl (zD rfl) <| .cons rfl (zH (k := y) rfl rfl underlying27 sizeOf9 rfl (by omega)) <| .cons rfl (ZN rfl hcv10 isAgg9 rfl) <| .cons rfl (z6 rfl rfl) <| .nil) fun a6 w6 m6 hst6 hle6 hk6 => ?_
  have hfr6 := hk6.fr (.o 8 <| .o 0 <| .o 1 <| .o 7 <| .o 5 <| .n 16 <| .nil)
  clear hst5 hfr5 hk6
  refine hK9 _ _ ?_
  refine zG hfr6 rfl rfl (fun hb16 => ?_) (fun hb16 => ?_)
  ·try simp only [nqs] at hb16
   refine zB fun _ hK11 => ?_
   refine rp0 hst6 hfr6 (.cons rfl (zD rfl) <| .cons rfl (zC rfl) <| .nil) fun a7 w7 m7 hst7 hle7 hk7 => ?_
   have hfr7 := hk7.fr (.o 8 <| .n 4 <| .nil)
   clear hst6 hfr6 hk7
   refine hK11 _ _ ?_
   refine zK ?_
   repeat (with_reducible first | refine zI ?_ | refine zF ?_)
   exact zL hst7 hfr7 rfl (.tmp rfl <| .nil) (by refine congrArg (Value.int _) ?_; simp_all)
  ·try simp only [nqs] at hb16
   refine zJ ?_
   refine hK7 _ _ ?_
   refine rp0 hst6 hfr6 (.cons rfl (zk rfl rfl ⟨by omega, by omega⟩) <| .cons rfl (zD rfl) <| .nil) fun a7 w7 m7 hst7 hle7 hk7 => ?_
   have hfr7 := hk7.fr (.o 0 <| .o 1 <| .o 7 <| .n 8 <| .nil)
   clear hst6 hfr6 hk7
   have zq1 := hle6.trans hle7
   have zq2 := hle5.trans zq1
   have hlh7 := hlh4.trans zq2
   exact ⟨y + 1, m7, by show l.length - (y + 1) < l.length - y; omega, ⟨hst7, hlh7, hfr7.sub (.c <| .c <| .c <| .c <| .nil), ⟨by show y + 1 ≤ l.length; omega, by simp_all⟩⟩⟩
 ·try simp only [nqs] at hb9
  have hge : y = l.length := by omega
  rw [List.drop_of_length_le (by omega)] at hrem
  simp only [idxA] at hrem
  refine zg ?_
  refine hK2 _ _ ?_
  refine zB fun _ hK13 => ?_
  refine rp0 hst4 hfr4 (.cons rfl (zC rfl) <| .nil) fun a5 w5 m5 hst5 hle5 hk5 => ?_
  have hfr5 := hk5.fr (.o 8 <| .n 4 <| .nil)
  clear hst4 hfr4 hk5
  refine hK13 _ _ ?_
  refine zK ?_
  repeat (with_reducible first | refine zI ?_ | refine zF ?_)
  exact zL hst5 hfr5 rfl (.tmp rfl <| .nil) (by refine congrArg (Value.int _) ?_; simp_all)
set_option maxHeartbeats 400000 in
theorem containsS_c {w : World} {m : Mem} {o_l : Option Addr} {c_l : Nat} {l : List Str} {s : Str} (hA : Agree w m) (h_l : Strs m o_l l.length c_l l) : FnV Tryd.prog 91 #[.slice o_l l.length c_l, S s] w m (fun _ _ v => v = .bool (decide (s ∈ l))) := by
 have hb_l := h_l.big; have hc_l := h_l.cap
 refine zX (vs := [_, _]) func91 rfl rfl rfl fun a0 hfr0 => ?_
 have hst0 := zW hA (zf [] _ w m)
 have hM : MLe m m := MLe.refl m
 refine zB fun _ hK1 => ?_
 refine rp0 hst0 hfr0 (.cons rfl (zC rfl) <| .nil) fun a1 w1 m1 hst1 hle1 hk1 => ?_
 have hfr1 := hk1.fr (.o 0 <| .o 1 <| .nil)
 replace h_l := h_l.mono hle1
 clear hst0 hfr0 hk1
 refine hK1 _ _ ?_
 refine zB fun _ hK2 => ?_
 refine rp0 hst1 hfr1 (.cons rfl (zD rfl) <| .cons rfl (zD rfl) <| .cons rfl (zc rfl (.cons rfl <| .cons rfl <| .nil) call99 (fun w m hK => by have hle_ := KC.le hK; have hA := KC.agree hK; have h_l := h_l.mono hle_; exact indexS_c hA (by first | assumption | omega | simp_all))) <| .cons rfl (ob_geq rfl rfl) <| .cons rfl (zC rfl) <| .nil) fun a2 w2 m2 hst2 hle2 hk2 => ?_
 have hfr2 := hk2.fr (.n 4 <| .nil)
 clear hst1 hfr1 hk2
 refine hK2 _ _ ?_
 refine zK ?_
 repeat (with_reducible first | refine zI ?_ | refine zF ?_)
 exact zL hst2 hfr2 rfl (.tmp rfl <| .nil) (by refine congrArg Value.bool ?_; exact decide_eq_decide.2 (idxA_mem s l 0))
abbrev zCB (t : Tm) : Prop := ∀ {w : World} {m : Mem} {vs_t : List Value} (hA : Agree w m) (h_t : TmR m t vs_t) (hsh : ShT t) (hb : zP t ≤ 1000000000), FnV Tryd.prog 83 #[.agg vs_t.toArray] w m (fun _ m v => (MP.usesV t).p m v)
set_option maxHeartbeats 1600000 in
theorem free3_s {t : Tm} (ihk : ∀ u ∈ t.kids, zCB u) (iha : ∀ a ∈ t.arms, zCB a.body) {w : World} {m : Mem} {vs_t : List Value} (hA : Agree w m) (h_t : TmR m t vs_t) (hsh : ShT t) (hb : zP t ≤ 1000000000) : FnV Tryd.prog 83 #[.agg vs_t.toArray] w m (fun _ m v => (MP.usesV t).p m v) := by
 obtain ⟨⟨oK_t, cK_t, oA_t, cA_t, oR_t, cR_t, t0_t, t1_t, t2_t, t3_t, t4_t, t5_t, u0_t, u1_t, u2_t, u3_t, u4_t, u5_t⟩, rfl, hon_t, hkk_t, haa_t, hrr_t⟩ := h_t.open_
 dsimp only at hkk_t haa_t hrr_t
 have hbg_t := hkk_t.big; have hcp_t := hkk_t.cap; have hbh_t := haa_t.big; have hcq_t := haa_t.cap
 refine fn_enterM (vs := [_]) func83 rfl rfl fun a0 hfr0 => ?_
 have hst0 := zW hA (zf [] _ w m)
 have hM : MLe m m := MLe.refl m
 refine zB fun _ hK1 => ?_
 refine rp0 hst0 hfr0 (.cons rfl (zv rfl rfl) <| .cons rfl (zC rfl) <| .nil) fun a1 w1 m1 hst1 hle1 hk1 => ?_
 have hfr1 := hk1.fr (.o 0 <| .n 2 <| .nil)
 obtain ⟨g2, e2, hc1⟩ := hk1.ex 1 rfl
 replace hfr1 := hfr1.cons e2
 replace h_t := h_t.mono hle1
 clear hst0 hfr0 hk1
 refine hK1 _ _ ?_
 refine zB fun _ hK3 => ?_
 refine zB fun _ hK4 => ?_
 refine rp0 hst1 hfr1 (.cons rfl (zA (off := 0) rfl underlying33 rfl rfl sizeOf3 rfl) <| .cons rfl (zE rfl hc1 isAgg3 rfl) <| .cons rfl (zV rfl rfl) <| .nil) fun a2 w2 m2 hst2 hle2 hk2 => ?_
 have hfr2 := hk2.fr (.o 0 <| .o 2 <| .o 1 <| .n 10 <| .nil)
 replace h_t := h_t.mono hle2
 replace hc1 := hc1.mono hle2
 clear hst1 hfr1 hk2
 refine hK4 _ _ ?_
 refine zG hfr2 rfl rfl (fun hb10 => ?_) (fun hb10 => ?_)
 ·try simp only [nqs] at hb10
  refine zB fun _ hK5 => ?_
  replace hst2 := hst2.more (r := .free) trivial List.nodup_nil (by simp [Res.blocks])
  refine zEK (tch := [(0, 0, (fun v => .map v _)), (3, 0, (fun v => .map v _))]) hst2 hfr2 (by kernel_rfl) (by kernel_rfl) (by kernel_rfl) (.consT rfl rfl (fun _ => rfl) rfl (zDD S) <| .cons rfl (zA (off := 2) rfl underlying33 rfl rfl sizeOf9 rfl) <| .cons rfl (zE rfl hc1 isAgg9 rfl) <| .consT rfl rfl (fun _ => rfl) rfl (ob_insertF keys_S rfl rfl rfl underlying142 underlying9) <| .consA 11 rfl rfl <| .consA 14 rfl rfl <| .nil) fun a3 w3 m3 hst3 hle3 hk3 => ?_
  have hfr3 := hk3.fr (.o 0 <| .o 1 <| .nil)
  obtain ⟨gn9, e6, _⟩ := hk3.ex 11 rfl
  replace hfr3 := hfr3.cons e6
  have es7 := hk3.same 14 rfl e6
  replace hfr3 := hfr3.cons (hk3.same 2 rfl es7)
  replace hst3 := hst3.fin (L' := [_]) (.cons e6 <| .cons e6 <| .nil)
  clear hst2 hfr2 hk3
  obtain ⟨m4, hle4, hst4, gF_a9, eF_a9, hm_a9⟩ := hst3.freezeMap (k := 0) rfl
  simp only [List.set_cons_succ, List.set_cons_zero] at hst4
  injection eF_a9 with eF_a9; injection eF_a9 with eF_a9; subst eF_a9
  have hfr4 := hfr3; obtain ⟨a4, rfl⟩ : ∃ a, a = a3 := ⟨_, rfl⟩; obtain ⟨w4, rfl⟩ : ∃ w, w = w3 := ⟨_, rfl⟩
  clear hst3 hfr3
  refine hK5 _ _ ?_
  refine zK ?_
  repeat (with_reducible first | refine zI ?_ | refine zF ?_)
  exact fn_retM0 hst4 hfr4 rfl (.tmp rfl <| .nil) (⟨(_, [(t.name, 1)]), rfl, hm_a9, ⟨by simp, fun s => by rw [zCg, if_pos hb10]; simp only [Zs]; by_cases e : s = t.name; (subst e; simp); have e9 : ¬ t.name = s := (fun h => e h.symm); simp [e, e9]⟩⟩)
 ·try simp only [nqs] at hb10
  refine zJ ?_
  refine hK3 _ _ ?_
  refine zB fun _ hK9 => ?_
  refine zu 1 (by kernel_rfl) ?_
  replace hst2 := hst2.more (r := .free) trivial List.nodup_nil (by simp [Res.blocks])
  refine zm (tch := [(0, 0, (fun v => .map v _))]) hst2 hfr2 (by kernel_rfl) (by kernel_rfl) (by kernel_rfl) (.consT rfl rfl (fun _ => rfl) rfl (zDD S) <| .nil) fun a3 w3 m3 hst3 hle3 hk3 => ?_
  have hfr3 := hk3.fr (.o 0 <| .o 2 <| .o 1 <| .nil)
  obtain ⟨gm9, e10, _⟩ := hk3.ex 15 rfl
  replace hfr3 := hfr3.cons e10
  replace hst3 := hst3.fin (L' := [_]) (.cons e10 <| .nil)
  clear hst2 hfr2 hk3
  replace hst3 := hst3.more (r := .free) trivial List.nodup_nil (by simp [Res.blocks])
  refine zm (tch := [(0, 1, (fun v => .blk v _)), (1, 1, (fun v => .blk v _))]) hst3 hfr3 (by kernel_rfl) (by kernel_rfl) (by kernel_rfl) (.consT rfl rfl (fun _ => rfl) rfl (zQ zeroValue142 rfl) <| .consT rfl rfl (fun _ => rfl) rfl (zU 3 rfl rfl rfl fun y3 => zb rfl rfl rfl rfl rfl sizeOf142 rfl rfl rfl) <| .nil) fun a4 w4 m4 hst4 hle4 hk4 => ?_
  have hfr4 := hk4.fr (.o 0 <| .o 2 <| .o 1 <| .o 15 <| .nil)
  obtain ⟨gt9, e11, _⟩ := hk4.ex 3 rfl
  replace hfr4 := hfr4.cons e11
  replace hst4 := hst4.fin (L' := [_, _]) (.cons e11 <| .cons e11 <| .nil)
  try simp only [List.take_succ_cons, List.take_zero, List.drop_succ_cons, List.drop_zero, List.cons_append, List.nil_append, List.append_nil, List.length_cons, List.length_nil, Nat.zero_add, Nat.reduceAdd] at hst4
  clear hst3 hfr3 hk4
  refine hK9 _ _ ?_
  refine zB fun _ hK12 => ?_
  refine zB fun _ hK13 => ?_
  have zq1 := hle3.trans hle4
  replace h_t := h_t.mono zq1
  replace hc1 := hc1.mono zq1
  refine rp0 hst4 hfr4 (.cons rfl (zO rfl hc1 isAgg33 sizeOf33 rfl rfl) <| .cons rfl (zi (φ := MP.partsV t) rfl (.cons rfl <| .nil) call90 (fun w m hK => by have hle_ := KC.le hK; have hA := KC.agree hK; have h_t := h_t.mono hle_; exact FnG.mono (parts_c (t := t) hA h_t) fun _ _ _ _ h => h)) <| .nil) fun a5 w5 m5 hst5 hle5 hk5 => ?_
  have hfr5 := hk5.fr (.o 0 <| .o 2 <| .o 1 <| .o 15 <| .o 3 <| .nil)
  obtain ⟨⟨gq9, vq9⟩, e14, hq9, htq9⟩ := hk5.ex 17 rfl
  replace hfr5 := hfr5.cons e14
  clear hst4 hfr4 hk5
  refine hK13 _ _ ?_
  refine zN ?_
  refine zCJ (T := [(0, _), (2, _), (1, _), (15, _), (3, _), (17, _)]) (fun (y : (List (Str × Int))) => ([.map (.map (some gm9)) (zAK S (zBZ intW y)), _] : List Res)) ((ZV t).length) (PartY t) (fun i (y : (List (Str × Int))) m => (fun (ml : List (Str × Int)) => (UsesL (zCD ((ZV t).take i)) ml)) y) (fun (y : (List (Str × Int))) m => (fun (ml : List (Str × Int)) => (False)) y) ([]) hst5 (hfr5.sub (.c <| .c <| .c <| .c <| .c <| .c <| .nil)) rfl call97 ⟨by decide, by decide⟩ (fun _ _ _ _ _ h => h) (fun _ _ _ _ h => h) (UsesL.nil (fun s => by simp [zCD])) (parts_iter hq9 htq9) (fun i hi y w6 m6 args l rc hle6 hY hrel _ => ?_) (fun y D l rc a6 w6 m6 hst6 hle6 hrel hfr6 => ?_) (fun y D l rc a6 w6 m6 hst6 hle6 hrel hfr6 => ?_)
  ·obtain ⟨ml, rfl⟩ : ∃ z, z = y := ⟨_, rfl⟩
   have hU9 := hrel
   clear hst5 hfr5
   obtain ⟨u, lb, vsu, ob, cb, rfl, hu, hlb, hat⟩ := hY
   have hpu : (u, lb) ∈ ZV t := List.mem_of_getElem? hat
   have hcu := count_part hpu; have hsu := sh_part hsh hpu
   dsimp only at hcu hsu
   have ihu : zCB u := by rcases zCt hpu with h | ⟨a, ha, e⟩; exact ihk _ h; (have h9 : zCB a.body := iha _ ha; rw [e] at h9; exact @h9)
   have hpl9 := preU_le (t := t) i
   obtain ⟨⟨oK_u, cK_u, oA_u, cA_u, oR_u, cR_u, t0_u, t1_u, t2_u, t3_u, t4_u, t5_u, u0_u, u1_u, u2_u, u3_u, u4_u, u5_u⟩, rfl, hon_u, hkk_u, haa_u, hrr_u⟩ := hu.open_
   dsimp only at hkk_u haa_u hrr_u
   have hbg_u := hkk_u.big; have hcp_u := hkk_u.cap; have hbh_u := haa_u.big; have hcq_u := haa_u.cap
   have hbl_u := hlb.big; have hcl_u := hlb.cap
   refine ⟨rfl, fun G1 a6 hfr6 hst6 _ hKrf => ?_⟩
   replace hfr6 : Fr _ [(18, _), (19, _), (0, _), (2, _), (1, _), (15, _), (3, _), (17, _)] a6 := hfr6
   replace hst6 : St G1 w6 m6 [_, _, _] w6 m6 := hst6
   refine zB fun _ hK15 => ?_
   replace hst6 := hst6.more (r := .free) trivial List.nodup_nil (by simp [Res.blocks])
   refine ra0 (tch := [(0, 3, (fun v => .blk v _)), (1, 3, (fun v => .blk v _))]) hst6 hfr6 (.consT rfl rfl (fun _ => rfl) rfl (zQ zeroValue33 rfl) <| .consT rfl rfl (fun _ => rfl) rfl (zU 4 rfl rfl rfl fun y4 => zb rfl rfl rfl rfl rfl sizeOf33 rfl rfl hu.one) <| .nil) fun a7 w7 m7 hst7 hle7 hk7 => ?_
   have hfr7 := hk7.fr (.o 18 <| .o 19 <| .o 0 <| .o 2 <| .o 1 <| .o 15 <| .o 3 <| .o 17 <| .nil)
   obtain ⟨g16, e16, _⟩ := hk7.ex 4 rfl
   replace hfr7 := hfr7.cons e16
   replace hst7 := hst7.fin (L' := [_, _, _, _]) (.cons e16 <| .cons e16 <| .nil)
   try simp only [List.take_succ_cons, List.take_zero, List.drop_succ_cons, List.drop_zero, List.cons_append, List.nil_append, List.append_nil, List.length_cons, List.length_nil, Nat.zero_add, Nat.reduceAdd] at hst7
   clear hst6 hfr6 hk7
   refine hK15 _ _ ?_
   refine rp0 hst7 hfr7 (.cons rfl (zC rfl) <| .nil) fun a8 w8 m8 hst8 hle8 hk8 => ?_
   have hfr8 := hk8.fr (.o 18 <| .o 19 <| .o 0 <| .o 2 <| .o 1 <| .o 15 <| .o 3 <| .o 17 <| .o 4 <| .n 5 <| .nil)
   clear hst7 hfr7 hk8
   refine hKrf _ _ _ [_, _, _, _] 2 hst8 rfl fun w9 hst9 => ?_; clear hKrf
   simp only [List.set_cons_succ, List.set_cons_zero] at hst9
   have hfr9 := hfr8; obtain ⟨a9, rfl⟩ : ∃ a, a = a8 := ⟨_, rfl⟩; obtain ⟨m9, rfl⟩ : ∃ m, m = m8 := ⟨_, rfl⟩; clear hst8 hfr8
   refine zN ?_
   refine zB fun _ hK17 => ?_
   refine zu 2 (by kernel_rfl) ?_
   have zq2 := hle7.trans hle8
   replace hu := hu.mono zq2
   refine zm (tch := []) hst9 hfr9 (by kernel_rfl) (by kernel_rfl) (by kernel_rfl) (.cons rfl (zd (j := 3) rfl rfl isAgg33 sizeOf33 rfl) <| .cons rfl (zi (φ := MP.usesV u) rfl (.cons rfl <| .nil) call83 (fun w m hK => by have hle_ := KC.le hK; have hA := KC.agree hK; have hu := hu.mono hle_; exact FnG.mono (ihu hA hu hsu (by omega)) fun _ _ _ _ h => h)) <| .nil) fun a10 w10 m10 hst10 hle10 hk10 => ?_
   have hfr10 := hk10.fr (.o 18 <| .o 19 <| .o 0 <| .o 2 <| .o 1 <| .o 15 <| .o 3 <| .o 17 <| .o 4 <| .o 5 <| .nil)
   obtain ⟨⟨gu9, lu⟩, e18, hmu9, hlu9⟩ := hk10.ex 21 rfl
   replace hfr10 := hfr10.cons e18
   clear hst9 hfr9 hk10
   have hrv19 := hmu9.rangeV
   replace hst10 := hst10.more (r := .free) trivial List.nodup_nil (by simp [Res.blocks])
   refine zm (tch := [(0, 4, (fun v => .iter v _ none))]) hst10 hfr10 (by kernel_rfl) (by kernel_rfl) (by kernel_rfl) (.consT rfl rfl (fun _ => rfl) rfl (ob_range rfl underlying142 (fun w m hK => hrv19.mono (KC.le hK))) <| .nil) fun a11 w11 m11 hst11 hle11 hk11 => ?_
   have hfr11 := hk11.fr (.o 18 <| .o 19 <| .o 0 <| .o 2 <| .o 1 <| .o 15 <| .o 3 <| .o 17 <| .o 4 <| .o 5 <| .o 21 <| .nil)
   obtain ⟨gr19, e20, _⟩ := hk11.ex 22 rfl
   replace hfr11 := hfr11.cons e20
   replace hst11 := hst11.fin (L' := [_, _, _, _, _]) (.cons e20 <| .nil)
   clear hst10 hfr10 hk11
   refine hK17 _ _ ?_
   refine zN ?_
   refine ze (T := [(18, _), (19, _), (0, _), (2, _), (1, _), (15, _), (3, _), (17, _), (4, _), (5, _), (21, _), (22, _)]) (fun (y : (List (Str × Int)) × (List (Str × Int)) × (Option (Value × Value)) × (List (Str × Int))) => ([] : List (Nat × Value))) (fun y => [.map (.map (some gm9)) (zAK S (zBZ intW y.2.2.2)), _, _, _, .iter (.pointer (some ⟨gr19, 0, none⟩)) (zAK S (zBZ intW y.1)) y.2.2.1]) (fun (y : (List (Str × Int)) × (List (Str × Int)) × (Option (Value × Value)) × (List (Str × Int))) m => (fun (l : List (Str × Int)) (dn : List (Str × Int)) (la : Option (Value × Value)) (mk : List (Str × Int)) => ((dn ++ l).Perm lu) ∧ (UsesL (fun s => zCD ((ZV t).take i) s + zAB u lb dn s) mk)) y.1 y.2.1 y.2.2.1 y.2.2.2) (fun y => y.1.length) ((lu, [], none, ml)) ⟨hst11, MLe.refl _, hfr11.sub (.c <| .c <| .c <| .c <| .c <| .c <| .c <| .c <| .c <| .c <| .c <| .c <| .nil), ⟨by simp, hU9.congr (fun s => by rw [cameU_nil]; rfl)⟩⟩ fun y a12 w12 m12 hh12 => ?_
   have hst12 := hh12.st; have hle12 := hh12.le; have hfr12 := hh12.fr; have hrel := hh12.rel; clear hh12
   clear hst11 hfr11
   obtain ⟨l, dn, la, mk⟩ := y
   dsimp only at hrel hfr12 hst12
   obtain ⟨hpm, hUm⟩ := hrel
   have hlh12 := hle12
   refine zB fun _ hK22 => ?_
   refine zu 1 (by kernel_rfl) ?_
   refine zm (tch := [(0, 4, (zAc _ _))]) hst12 hfr12 (by kernel_rfl) (by kernel_rfl) (by kernel_rfl) (.consT rfl rfl (fun _ => rfl) rfl (ob_next rfl) <| .nil) fun a13 w13 m13 hst13 hle13 hk13 => ?_
   have hfr13 := hk13.fr (.o 18 <| .o 19 <| .o 0 <| .o 2 <| .o 1 <| .o 15 <| .o 3 <| .o 17 <| .o 4 <| .o 5 <| .o 21 <| .o 22 <| .nil)
   obtain ⟨yn19, e24, hyn19⟩ := hk13.ex 23 rfl
   replace hfr13 := hfr13.cons e24
   replace hst13 := hst13.fin (L' := [_, _, _, _, _]) (.cons e24 <| .nil)
   clear hst12 hfr12 hk13
   rcases yn19 with _ | e9
   ·skip
    have hl0 := encW_nil hyn19
    subst hl0
    dsimp only [MP.next, MP.mem, nextV, zAc] at hst13 hfr13
    refine zm (tch := []) hst13 hfr13 (by kernel_rfl) (by kernel_rfl) (by kernel_rfl) (.cons rfl (zS rfl rfl) <| .nil) fun a14 w14 m14 hst14 hle14 hk14 => ?_
    have hfr14 := hk14.fr (.o 18 <| .o 19 <| .o 0 <| .o 2 <| .o 1 <| .o 15 <| .o 3 <| .o 17 <| .o 4 <| .o 5 <| .o 21 <| .o 22 <| .o 23 <| .n 24 <| .nil)
    clear hst13 hfr13 hk14
    refine hK22 _ _ ?_
    refine zB fun _ hK25 => ?_
    refine zG hfr14 rfl rfl (fun hb24 => ?_) (fun hb24 => ?_)
    ·exact absurd hb24 (by simp)
    ·try simp only [nqs] at hb24
     have hUk9 : UsesL (zCD ((ZV t).take (i + 1))) mk := hUm.congr (fun s => by rw [preU_take hat, cameU_all hlu9 (by simpa using hpm)])
     refine zg ?_
     repeat (with_reducible first | refine ZM ?_ | refine ZF ?_ | refine zw ?_)
     exact RoundQ.next (mk) (n0 := 2) (k := 2) hst14 rfl rfl rfl (hUk9)
   ·skip
    obtain ⟨k9, x9, l8, rfl, hp9, he9, hl8⟩ := encW_next hyn19
    dsimp only [MP.next, MP.mem, nextV, zAc] at hst13 hfr13
    rw [he9] at hst13
    refine zm (tch := []) hst13 hfr13 (by kernel_rfl) (by kernel_rfl) (by kernel_rfl) (.cons rfl (zS rfl rfl) <| .nil) fun a14 w14 m14 hst14 hle14 hk14 => ?_
    have hfr14 := hk14.fr (.o 18 <| .o 19 <| .o 0 <| .o 2 <| .o 1 <| .o 15 <| .o 3 <| .o 17 <| .o 4 <| .o 5 <| .o 21 <| .o 22 <| .o 23 <| .n 24 <| .nil)
    clear hst13 hfr13 hk14
    refine hK22 _ _ ?_
    refine zB fun _ hK26 => ?_
    refine zG hfr14 rfl rfl (fun hb24 => ?_) (fun hb24 => ?_)
    ·try simp only [nqs] at hb24
     refine zJ ?_
     refine hK26 _ _ ?_
     refine zN ?_
     refine zB fun _ hK27 => ?_
     refine rp0 hst14 hfr14 (.cons rfl (ob_entry (j := 4) rfl rfl) <| .cons rfl (zS rfl rfl) <| .cons rfl (zS rfl rfl) <| .cons rfl (zC rfl) <| .cons rfl (zC rfl) <| .nil) fun a15 w15 m15 hst15 hle15 hk15 => ?_
     have hfr15 := hk15.fr (.o 18 <| .o 19 <| .o 0 <| .o 2 <| .o 1 <| .o 15 <| .o 3 <| .o 17 <| .o 4 <| .o 5 <| .o 21 <| .o 22 <| .o 23 <| .n 6 <| .n 7 <| .nil)
     clear hst14 hfr14 hk15
     have hn9 := nodup_came ((hp9.symm.append_left dn).trans hpm) hlu9.nodup
     obtain ⟨hx9, hx0⟩ := hlu9.at_ (hpm.mem_iff.1 (List.mem_append_right _ (hp9.mem_iff.2 (.head _))))
     have hle9 := zBi k9 u; have hpk9 := hpl9 k9
     have hck9 : zAB u lb dn k9 = 0 := by simp [zAB, hn9]
     refine hK27 _ _ ?_
     refine zB fun _ hK28 => ?_
     have zq3 := hle14.trans hle15
     have zq4 := hle13.trans zq3
     have zq5 := hle12.trans zq4
     have zq6 := hle11.trans zq5
     have zq7 := hle10.trans zq6
     have zq8 := zq2.trans zq7
     replace hlb := hlb.mono zq8
     refine rp0 hst15 hfr15 (.cons rfl (zD rfl) <| .cons rfl (z6 rfl rfl) <| .cons rfl (zD rfl) <| .cons rfl (zD rfl) <| .cons rfl (zD rfl) <| .cons rfl (zc rfl (.cons rfl <| .cons rfl <| .nil) call91 (fun w m hK => by have hle_ := KC.le hK; have hA := KC.agree hK; have hlb := hlb.mono hle_; exact containsS_c (l := lb) (s := k9) hA hlb)) <| .cons rfl (Zn rfl) <| .cons rfl (zx rfl rfl rfl) <| .nil) fun a16 w16 m16 hst16 hle16 hk16 => ?_
     have hfr16 := hk16.fr (.o 18 <| .o 19 <| .o 0 <| .o 2 <| .o 1 <| .o 15 <| .o 3 <| .o 17 <| .o 4 <| .o 5 <| .o 21 <| .o 22 <| .o 23 <| .o 6 <| .o 7 <| .n 35 <| .nil)
     clear hst15 hfr15 hk16
     refine hK28 _ _ ?_
     refine zG hfr16 rfl rfl (fun hb35 => ?_) (fun hb35 => ?_)
     ·try simp only [nqs] at hb35
      have hc9 : k9 = uS ∨ ¬ k9 ∈ lb := by simpa [uS] using hb35
      refine zEK (tch := [(5, 0, (fun _ => .map _ _))]) hst16 hfr16 (by kernel_rfl) (by kernel_rfl) (by kernel_rfl) (.cons rfl (ob_loadL' (j := 1) rfl rfl isAgg142 rfl) <| .cons rfl (zD rfl) <| .cons rfl (ob_lookup1 (j := 0) keys_S rfl rfl rfl underlying142 underlying9 zeroValue3 ((by rw [zCw, show (Zs k9 mk).map intW = _ from rfl]; exact (by have h := hUm.got k9; cases he : Zs k9 mk <;> simp [he] at h ⊢ <;> (first | omega | exact h)) : (Zs k9 (zBZ intW mk)).getD (.int .i64 0) = .int .i64 ((zCD ((ZV t).take i) k9 + zAB u lb dn k9 : Nat) : Int)))) <| .cons rfl (zD rfl) <| .cons rfl (zk rfl rfl ⟨by omega, by omega⟩) <| .consT rfl rfl (fun _ => rfl) rfl (ob_mapUpdate keys_S rfl rfl rfl underlying142 underlying9) <| .nil) fun a17 w17 m17 hst17 hle17 hk17 => ?_
      have hfr17 := hk17.fr (.o 18 <| .o 19 <| .o 0 <| .o 2 <| .o 1 <| .o 15 <| .o 3 <| .o 17 <| .o 4 <| .o 5 <| .o 21 <| .o 22 <| .o 23 <| .o 6 <| .o 7 <| .nil)
      replace hst17 := hst17.fin (L' := [_, _, _, _, _]) (.cons rfl <| .nil)
      clear hst16 hfr16 hk17
      rw [hx9, encW_set] at hst17
      have zq9 := hle16.trans hle17
      have zq10 := zq4.trans zq9
      have hlh17 := hlh12.trans zq10
      exact ⟨(l8, (dn ++ [(k9, x9)]), _, (zBJ k9 (((zCD ((ZV t).take i) k9 + zAB u lb dn k9 : Nat) : Int) + (Ze k9 u : Int)) mk)), m17, by show l8.length < l.length; omega, ⟨hst17, hlh17, hfr17.sub (.c <| .c <| .c <| .c <| .c <| .c <| .c <| .c <| .c <| .c <| .c <| .c <| .nil), ⟨by rw [List.append_assoc]; exact (hp9.symm.append_left dn).trans hpm, hUm.add hx0 (came_add hn9 hc9)⟩⟩⟩
     ·try simp only [nqs] at hb35
      have hc9 : ¬ (k9 = uS ∨ ¬ k9 ∈ lb) := by simpa [uS] using hb35
      refine zJ ?_
      have zq11 := zq4.trans hle16
      have hlh16 := hlh12.trans zq11
      exact ⟨(l8, (dn ++ [(k9, x9)]), _, mk), m16, by show l8.length < l.length; omega, ⟨hst16, hlh16, hfr16.sub (.c <| .c <| .c <| .c <| .c <| .c <| .c <| .c <| .c <| .c <| .c <| .c <| .nil), ⟨by rw [List.append_assoc]; exact (hp9.symm.append_left dn).trans hpm, hUm.congr (came_skip hn9 hc9)⟩⟩⟩
    ·exact absurd hb24 (by simp)
  ·obtain ⟨ml, rfl⟩ : ∃ z, z = y := ⟨_, rfl⟩
   have hU9 := hrel
   clear hst5 hfr5
   replace hst6 : St _ _ _ [_, _, Zm l rc, zCM D] w6 m6 := hst6
   refine hK12 _ _ ?_
   refine zB fun _ hK29 => ?_
   refine rp0 hst6 hfr6 (.cons rfl (ob_loadL' (j := 1) rfl rfl isAgg142 rfl) <| .cons rfl (zC rfl) <| .nil) fun a7 w7 m7 hst7 hle7 hk7 => ?_
   have hfr7 := hk7.fr (.o 0 <| .o 1 <| .o 15 <| .o 3 <| .o 17 <| .n 2 <| .nil)
   clear hst6 hfr6 hk7
   obtain ⟨m8, hle8, hst8, gF_b9, eF_b9, hm_b9⟩ := hst7.freezeMap (k := 0) rfl
   simp only [List.set_cons_succ, List.set_cons_zero] at hst8
   injection eF_b9 with eF_b9; injection eF_b9 with eF_b9; subst eF_b9
   have hfr8 := hfr7; obtain ⟨a8, rfl⟩ : ∃ a, a = a7 := ⟨_, rfl⟩; obtain ⟨w8, rfl⟩ : ∃ w, w = w7 := ⟨_, rfl⟩
   clear hst7 hfr7
   refine hK29 _ _ ?_
   refine zK ?_
   repeat (with_reducible first | refine zI ?_ | refine zF ?_)
   exact fn_retM hst8 (k := 3) rfl hfr8 rfl (fun w hstE => .tmp rfl <| .nil) (fun w => ⟨(gm9, ml), rfl, hm_b9, hU9.congr (fun s => by rw [List.take_of_length_le (Nat.le_refl _)]; exact parts_uses hsh hb10 s)⟩)
  ·exact hrel.elim
theorem free3_c (t : Tm) : zCB t := Tm.rec_ (p := zCB) (fun t ihk iha => free3_s ihk iha) t
end Go.Proofs.YtmdhhjmomilhjaaDoor
namespace Go.Proofs.YtmdhhjmomilhjaaDoor
open Go.Proofs.Tryd
set_option linter.all false
set_option maxRecDepth 4000
open Go.RowKit
set_option maxHeartbeats 400000 in
theorem usesP_c {w : World} {m : Mem} {t : Tm} {vs_t : List Value} {s : Str} (hA : Agree w m) (h_t : TmR m t vs_t) (hsh : ShT t) (hb : zP t ≤ 1000000000) : FnV Tryd.prog 68 #[.agg vs_t.toArray, S s] w m (fun _ _ v => v = .int .i64 (Ze s t : Int)) := by
 obtain ⟨⟨oK_t, cK_t, oA_t, cA_t, oR_t, cR_t, t0_t, t1_t, t2_t, t3_t, t4_t, t5_t, u0_t, u1_t, u2_t, u3_t, u4_t, u5_t⟩, rfl, hon_t, hkk_t, haa_t, hrr_t⟩ := h_t.open_
 dsimp only at hkk_t haa_t hrr_t
 have hbg_t := hkk_t.big; have hcp_t := hkk_t.cap; have hbh_t := haa_t.big; have hcq_t := haa_t.cap
 refine zX (vs := [_, _]) func68 rfl rfl rfl fun a0 hfr0 => ?_
 have hst0 := zW hA (zf [] _ w m)
 have hM : MLe m m := MLe.refl m
 refine zB fun _ hK1 => ?_
 refine rp0 hst0 hfr0 (.cons rfl (zv rfl rfl) <| .cons rfl (zC rfl) <| .nil) fun a1 w1 m1 hst1 hle1 hk1 => ?_
 have hfr1 := hk1.fr (.o 1 <| .nil)
 obtain ⟨g2, e2, hc2⟩ := hk1.ex 2 rfl
 replace hfr1 := hfr1.cons e2
 replace h_t := h_t.mono hle1
 clear hst0 hfr0 hk1
 refine hK1 _ _ ?_
 refine zB fun _ hK3 => ?_
 refine zu 2 (by kernel_rfl) ?_
 refine zm (tch := []) hst1 hfr1 (by kernel_rfl) (by kernel_rfl) (by kernel_rfl) (.cons rfl (zO rfl hc2 isAgg33 sizeOf33 rfl rfl) <| .cons rfl (zi (φ := MP.usesV t) rfl (.cons rfl <| .nil) call83 (fun w m hK => by have hle_ := KC.le hK; have hA := KC.agree hK; have h_t := h_t.mono hle_; exact FnG.mono (free3_c t hA h_t hsh hb) fun _ _ _ _ h => h)) <| .nil) fun a2 w2 m2 hst2 hle2 hk2 => ?_
 have hfr2 := hk2.fr (.o 1 <| .o 2 <| .nil)
 obtain ⟨⟨gu9, lu⟩, e4, hmu9, hlu9⟩ := hk2.ex 6 rfl
 replace hfr2 := hfr2.cons e4
 clear hst1 hfr1 hk2
 dsimp only at hmu9 hlu9
 refine zm (tch := []) hst2 hfr2 (by kernel_rfl) (by kernel_rfl) (by kernel_rfl) (.cons rfl (zD rfl) <| .cons rfl (ob_lookupM1 keys_S rfl rfl (fun w m hK => hmu9.mono (KC.le hK)) underlying142 underlying9 zeroValue3 ((by rw [zCw]; exact (by have h := hlu9.got s; cases he : Zs s lu <;> simp [he] at h ⊢ <;> (first | omega | exact h)) : (Zs s (zBZ intW lu)).getD (.int .i64 0) = .int .i64 (Ze s t : Int)))) <| .cons rfl (zC rfl) <| .nil) fun a3 w3 m3 hst3 hle3 hk3 => ?_
 have hfr3 := hk3.fr (.o 1 <| .o 2 <| .o 6 <| .n 4 <| .nil)
 clear hst2 hfr2 hk3
 refine hK3 _ _ ?_
 refine zK ?_
 repeat (with_reducible first | refine zI ?_ | refine zF ?_)
 exact zL hst3 hfr3 rfl (.tmp rfl <| .nil) (rfl)
end Go.Proofs.YtmdhhjmomilhjaaDoor
namespace Go.Proofs.YtmdhhjmomilhjaaDoor
open Go.Proofs.Tryd
set_option linter.all false
set_option maxRecDepth 4000
open Go.RowKit
mutual
/-- A value. -/
def valueT : Tm → Bool
 | ⟨k, _, _, _, _, ks, _, _⟩ => decide (k = 1 ∨ k = 2 ∨ k = 3 ∨ k = 4 ∨ k = 5) || (decide (k = 11) && zDT ks)
def zDT : List Tm → Bool
 | [] => true
 | t :: ts => valueT t && zDT ts
end
theorem valueKs_all : ∀ l : List Tm, zDT l = l.all valueT
 | [] => rfl
 | t :: ts => by rw [zDT, List.all_cons, valueKs_all ts]
mutual
/-- What calls nothing. -/
def zAA : Tm → Bool
 | ⟨k, _, _, _, _, ks, az, _⟩ => if k = 6 ∨ k = 13 ∨ k = 14 then false else if k = 5 then true else zBC (decide (k = 8)) ks && zBP az
def zBC : Bool → List Tm → Bool
 | _, [] => true
 | b, t :: ts => (b || zAA t) && zBC false ts
def zBP : List Ar → Bool
 | [] => true
 | ⟨_, _, b⟩ :: ts => zAA b && zBP ts
end
theorem plainT_eq (t : Tm) : zAA t = if t.kind = 6 ∨ t.kind = 13 ∨ t.kind = 14 then false else if t.kind = 5 then true else zBC (decide (t.kind = 8)) t.kids && zBP t.arms := by obtain ⟨k, a, s, p, n, ks, az, r⟩ := t; rw [zAA]; rfl
theorem zBn : ∀ l : List Tm, zBC false l = l.all zAA
 | [] => rfl
 | t :: ts => by rw [zBC, List.all_cons, zBn ts, Bool.false_or]
theorem zCc (l : List Tm) : zBC true l = (l.drop 1).all zAA := by
 cases l with
 | nil => rfl
 | cons t ts => rw [zBC, Bool.true_or, Bool.true_and, zBn]; rfl
theorem zDq {k : Int} {l : List Tm} (h : ¬ k = 8 ∨ l.length = 0) : l.all zAA = zBC (decide (k = 8)) l := by
 rcases h with h | h
 ·rw [decide_eq_false h, zBn]
 ·obtain rfl := List.eq_nil_of_length_eq_zero h; rfl
theorem plainAs_cons (a : Ar) (ts : List Ar) : zBP (a :: ts) = (zAA a.body && zBP ts) := by obtain ⟨x, l, b⟩ := a; rw [zBP]; rfl
theorem zBo : ∀ l : List Ar, zBP l = (l.map Ar.body).all zAA
 | [] => rfl
 | a :: ts => by rw [plainAs_cons, List.map_cons, List.all_cons, zBo ts]
def zDg : Str := [99, 111, 110, 115, 111, 108, 101]
def calmS (ls : List Str) (rv : Int) : Bool := decide (rv = 0) && !ls.any (fun s => !decide (s = zDg))
set_option maxHeartbeats 400000 in
theorem indexfTm_c {w : World} {m : Mem} {o_l : Option Addr} {c_l : Nat} {l : List Tm} {cid : Nat} {cap : List Value} {φ : Tm → Bool} (hA : Agree w m) (h_l : Tms m o_l l.length c_l l) (hc : ∀ args w, (callFunc cid args).run Tryd.prog w = .ok (.enter cid args) w) (hφ : ∀ w m' (t : Tm) vs, MLe m m' → Agree w m' → TmR m' t vs → t ∈ l → FnV Tryd.prog cid ([Value.agg vs.toArray] ++ cap).toArray w m' (fun _ _ v => v = .bool (φ t))) : FnV Tryd.prog 96 #[.slice o_l l.length c_l, .func (.func cid) #[] cap.toArray] w m (fun _ _ v => ∃ i : Int, v = .int .i64 i ∧ decide (0 ≤ i) = l.any φ) := by
 have hb_l := h_l.big; have hc_l := h_l.cap
 refine zX (vs := [_, _]) func96 rfl rfl rfl fun a0 hfr0 => ?_
 have hst0 := zW hA (zf [] _ w m)
 have hM : MLe m m := MLe.refl m
 refine zB fun _ hK1 => ?_
 refine rp0 hst0 hfr0 (.cons rfl (zC rfl) <| .nil) fun a1 w1 m1 hst1 hle1 hk1 => ?_
 have hfr1 := hk1.fr (.o 0 <| .o 1 <| .nil)
 replace h_l := h_l.mono hle1
 replace hM := hM.trans hle1
 clear hst0 hfr0 hk1
 refine hK1 _ _ ?_
 refine zB fun _ hK2 => ?_
 refine zB fun _ hK3 => ?_
 refine rp0 hst1 hfr1 (.cons rfl (zD rfl) <| .cons rfl (zY rfl underlying24) <| .cons rfl (zD rfl) <| .nil) fun a2 w2 m2 hst2 hle2 hk2 => ?_
 have hfr2 := hk2.fr (.o 0 <| .o 1 <| .n 7 <| .n 8 <| .nil)
 replace h_l := h_l.mono hle2
 replace hM := hM.trans hle2
 clear hst1 hfr1 hk2
 refine hK3 _ _ ?_
 refine zN ?_
 refine ze (T := [(0, _), (1, _), (7, _)]) (fun (y : Nat) => ([(8, .int .i64 (y : Int))] : List (Nat × Value))) (fun _ => _) (fun (y : Nat) m => (y ≤ l.length) ∧ (l.any φ = (l.drop y).any φ)) (fun y => l.length - y) (0) ⟨hst2, MLe.refl _, hfr2.sub (.c <| .c <| .c <| .c <| .nil), ⟨Nat.zero_le _, rfl⟩⟩ fun y a3 w3 m3 hh3 => ?_
 have hst3 := hh3.st; have hle3 := hh3.le; have hfr3 := hh3.fr; have hrel := hh3.rel; clear hh3
 replace h_l := h_l.mono hle3
 clear hst2 hfr2
 replace hM := hM.trans hle3
 obtain ⟨hyn, hrem⟩ := hrel
 have hlh3 := hle3
 refine zB fun _ hK5 => ?_
 refine rp0 hst3 hfr3 (.cons rfl (z7 rfl rfl) <| .nil) fun a4 w4 m4 hst4 hle4 hk4 => ?_
 have hfr4 := hk4.fr (.o 8 <| .o 0 <| .o 1 <| .o 7 <| .n 9 <| .nil)
 replace h_l := h_l.mono hle4
 have hlh4 := hlh3.trans hle4
 replace hM := hM.trans hle4
 clear hst3 hfr3 hk4
 refine hK5 _ _ ?_
 refine zB fun _ hK6 => ?_
 refine zG hfr4 rfl rfl (fun hb9 => ?_) (fun hb9 => ?_)
 ·try simp only [nqs] at hb9
  refine zJ ?_
  refine hK6 _ _ ?_
  refine zB fun _ hK7 => ?_
  refine zN ?_
  refine zB fun _ hK8 => ?_
  refine rp0 hst4 hfr4 (.cons rfl (zD rfl) <| .cons rfl (zC rfl) <| .nil) fun a5 w5 m5 hst5 hle5 hk5 => ?_
  have hfr5 := hk5.fr (.o 8 <| .o 0 <| .o 1 <| .o 7 <| .n 5 <| .nil)
  clear hst4 hfr4 hk5
  refine hK8 _ _ ?_
  refine zB fun _ hK9 => ?_
  replace h_l := h_l.mono hle5
  obtain ⟨p10, vs10, x10, ho10, hd10, hm_x10, ht10, hcv10, hl10, hv10⟩ := h_l.nth (k := y) (by omega)
  cases ho10
  obtain ⟨⟨oK10, cK10, oA10, cA10, oR10, cR10, t010, t110, t210, t310, t410, t510, u010, u110, u210, u310, u410, u510⟩, rfl, hon10, hkk10, haa10, hrr10⟩ := hv10.open_
  dsimp only at hkk10 haa10 hrr10
  have hbg10 := hkk10.big; have hcp10 := hkk10.cap; have hbh10 := haa10.big; have hcq10 := haa10.cap
  try rw [hd10] at hrem
  try simp only [List.any_cons, List.any_nil] at hrem
  replace hM := hM.trans hle5
  refine rp0 hst5 hfr5 (.cons rfl (zD rfl) <| .cons rfl (zD rfl) <| .cons rfl (zD rfl) <| .cons rfl (zH (k := y) rfl rfl underlying24 sizeOf33 rfl (by omega)) <| .cons rfl (zO rfl hcv10 isAgg33 sizeOf33 rfl rfl) <| .cons rfl (zc rfl (.cons rfl <| .nil) hc (fun w m hK => by have hle_ := KC.le hK; have hA := KC.agree hK; have hM := hM.trans hle_; have h_l := h_l.mono hle_; have hcv10 := hcv10.mono hle_; have hv10 := hv10.mono hle_; have hkk10 := hkk10.mono hle_; have haa10 := haa10.mono hle_; have hrr10 := hrr10.mono hle_; exact hφ w m _ _ hM hA (by assumption) hm_x10)) <| .nil) fun a6 w6 m6 hst6 hle6 hk6 => ?_
  have hfr6 := hk6.fr (.o 8 <| .o 0 <| .o 1 <| .o 7 <| .o 5 <| .n 16 <| .nil)
  clear hst5 hfr5 hk6
  refine hK9 _ _ ?_
  refine zG hfr6 rfl rfl (fun hb16 => ?_) (fun hb16 => ?_)
  ·try simp only [nqs] at hb16
   have hres : decide ((0 : Int) ≤ (y : Int)) = l.any φ := by rw [hrem, hb16]; simp
   refine zB fun _ hK11 => ?_
   refine rp0 hst6 hfr6 (.cons rfl (zD rfl) <| .cons rfl (zC rfl) <| .nil) fun a7 w7 m7 hst7 hle7 hk7 => ?_
   have hfr7 := hk7.fr (.o 8 <| .n 4 <| .nil)
   clear hst6 hfr6 hk7
   refine hK11 _ _ ?_
   refine zK ?_
   repeat (with_reducible first | refine zI ?_ | refine zF ?_)
   exact zL hst7 hfr7 rfl (.tmp rfl <| .nil) (⟨_, rfl, by first | exact hres | (rw [hrem]; rfl)⟩)
  ·try simp only [nqs] at hb16
   refine zJ ?_
   refine hK7 _ _ ?_
   refine rp0 hst6 hfr6 (.cons rfl (zk rfl rfl ⟨by omega, by omega⟩) <| .cons rfl (zD rfl) <| .nil) fun a7 w7 m7 hst7 hle7 hk7 => ?_
   have hfr7 := hk7.fr (.o 0 <| .o 1 <| .o 7 <| .n 8 <| .nil)
   clear hst6 hfr6 hk7
   have zq1 := hle6.trans hle7
   have zq2 := hle5.trans zq1
   have hlh7 := hlh4.trans zq2
   exact ⟨y + 1, m7, by show l.length - (y + 1) < l.length - y; omega, ⟨hst7, hlh7, hfr7.sub (.c <| .c <| .c <| .c <| .nil), ⟨by show y + 1 ≤ l.length; omega, by rw [hrem, hb16]; rfl⟩⟩⟩
 ·try simp only [nqs] at hb9
  have hge : y = l.length := by omega
  rw [List.drop_of_length_le (by omega)] at hrem
  simp only [List.any_cons, List.any_nil] at hrem
  refine zg ?_
  refine hK2 _ _ ?_
  refine zB fun _ hK13 => ?_
  refine rp0 hst4 hfr4 (.cons rfl (zC rfl) <| .nil) fun a5 w5 m5 hst5 hle5 hk5 => ?_
  have hfr5 := hk5.fr (.o 8 <| .n 4 <| .nil)
  clear hst4 hfr4 hk5
  refine hK13 _ _ ?_
  refine zK ?_
  repeat (with_reducible first | refine zI ?_ | refine zF ?_)
  exact zL hst5 hfr5 rfl (.tmp rfl <| .nil) (⟨_, rfl, by first | exact hres | (rw [hrem]; rfl)⟩)
set_option maxHeartbeats 400000 in
theorem containsfTm_c {w : World} {m : Mem} {o_l : Option Addr} {c_l : Nat} {l : List Tm} {cid : Nat} {cap : List Value} {φ : Tm → Bool} (hA : Agree w m) (h_l : Tms m o_l l.length c_l l) (hc : ∀ args w, (callFunc cid args).run Tryd.prog w = .ok (.enter cid args) w) (hφ : ∀ w m' (t : Tm) vs, MLe m m' → Agree w m' → TmR m' t vs → t ∈ l → FnV Tryd.prog cid ([Value.agg vs.toArray] ++ cap).toArray w m' (fun _ _ v => v = .bool (φ t))) : FnV Tryd.prog 87 #[.slice o_l l.length c_l, .func (.func cid) #[] cap.toArray] w m (fun _ _ v => v = .bool (l.any φ)) := by
 have hb_l := h_l.big; have hc_l := h_l.cap
 refine zX (vs := [_, _]) func87 rfl rfl rfl fun a0 hfr0 => ?_
 have hst0 := zW hA (zf [] _ w m)
 have hM : MLe m m := MLe.refl m
 refine zB fun _ hK1 => ?_
 refine rp0 hst0 hfr0 (.cons rfl (zC rfl) <| .nil) fun a1 w1 m1 hst1 hle1 hk1 => ?_
 have hfr1 := hk1.fr (.o 0 <| .o 1 <| .nil)
 replace h_l := h_l.mono hle1
 replace hM := hM.trans hle1
 clear hst0 hfr0 hk1
 refine hK1 _ _ ?_
 refine zB fun _ hK2 => ?_
 refine ra0 (tch := []) hst1 hfr1 (.cons rfl (zD rfl) <| .cons rfl (zD rfl) <| .cons rfl (zi (φ := MP.mem (fun i : Int => .int .i64 i) (fun i _ => decide (0 ≤ i) = l.any φ) (fun _ h => h)) rfl (.cons rfl <| .cons rfl <| .nil) call96 (fun w m hK => by have hle_ := KC.le hK; have hA := KC.agree hK; have hM := hM.trans hle_; have h_l := h_l.mono hle_; exact FnG.mono (indexfTm_c (φ := φ) hA h_l hc (fun w m2 t vs hm ha hv ht => hφ w m2 t vs (hM.trans hm) ha hv ht)) fun _ _ _ _ h => h)) <| .cons rfl (zh 7 rfl rfl rfl fun y7 => ob_geq rfl rfl) <| .consA 8 rfl rfl <| .nil) fun a2 w2 m2 hst2 hle2 hk2 => ?_
 have hfr2 := hk2.fr (.nil)
 obtain ⟨i, e3, hi⟩ := hk2.ex 8 rfl
 replace hfr2 := hfr2.cons (hk2.same 4 rfl e3)
 clear hst1 hfr1 hk2
 refine hK2 _ _ ?_
 refine zK ?_
 repeat (with_reducible first | refine zI ?_ | refine zF ?_)
 exact zL hst2 hfr2 rfl (.tmp rfl <| .nil) (by dsimp only at hi; rw [← hi]; rfl)
set_option maxHeartbeats 400000 in
theorem indexfS_c {w : World} {m : Mem} {o_l : Option Addr} {c_l : Nat} {l : List Str} {cid : Nat} {cap : List Value} {φ : Str → Bool} (hA : Agree w m) (h_l : Strs m o_l l.length c_l l) (hc : ∀ args w, (callFunc cid args).run Tryd.prog w = .ok (.enter cid args) w) (hφ : ∀ w m' (t : Str), MLe m m' → Agree w m' → t ∈ l → FnV Tryd.prog cid ([S t] ++ cap).toArray w m' (fun _ _ v => v = .bool (φ t))) : FnV Tryd.prog 89 #[.slice o_l l.length c_l, .func (.func cid) #[] cap.toArray] w m (fun _ _ v => ∃ i : Int, v = .int .i64 i ∧ decide (0 ≤ i) = l.any φ) := by
 have hb_l := h_l.big; have hc_l := h_l.cap
 refine zX (vs := [_, _]) func89 rfl rfl rfl fun a0 hfr0 => ?_
 have hst0 := zW hA (zf [] _ w m)
 have hM : MLe m m := MLe.refl m
 refine zB fun _ hK1 => ?_
 refine rp0 hst0 hfr0 (.cons rfl (zC rfl) <| .nil) fun a1 w1 m1 hst1 hle1 hk1 => ?_
 have hfr1 := hk1.fr (.o 0 <| .o 1 <| .nil)
 replace h_l := h_l.mono hle1
 replace hM := hM.trans hle1
 clear hst0 hfr0 hk1
 refine hK1 _ _ ?_
 refine zB fun _ hK2 => ?_
 refine zB fun _ hK3 => ?_
 refine rp0 hst1 hfr1 (.cons rfl (zD rfl) <| .cons rfl (zY rfl underlying27) <| .cons rfl (zD rfl) <| .nil) fun a2 w2 m2 hst2 hle2 hk2 => ?_
 have hfr2 := hk2.fr (.o 0 <| .o 1 <| .n 7 <| .n 8 <| .nil)
 replace h_l := h_l.mono hle2
 replace hM := hM.trans hle2
 clear hst1 hfr1 hk2
 refine hK3 _ _ ?_
 refine zN ?_
 refine ze (T := [(0, _), (1, _), (7, _)]) (fun (y : Nat) => ([(8, .int .i64 (y : Int))] : List (Nat × Value))) (fun _ => _) (fun (y : Nat) m => (y ≤ l.length) ∧ (l.any φ = (l.drop y).any φ)) (fun y => l.length - y) (0) ⟨hst2, MLe.refl _, hfr2.sub (.c <| .c <| .c <| .c <| .nil), ⟨Nat.zero_le _, rfl⟩⟩ fun y a3 w3 m3 hh3 => ?_
 have hst3 := hh3.st; have hle3 := hh3.le; have hfr3 := hh3.fr; have hrel := hh3.rel; clear hh3
 replace h_l := h_l.mono hle3
 clear hst2 hfr2
 replace hM := hM.trans hle3
 obtain ⟨hyn, hrem⟩ := hrel
 have hlh3 := hle3
 refine zB fun _ hK5 => ?_
 refine rp0 hst3 hfr3 (.cons rfl (z7 rfl rfl) <| .nil) fun a4 w4 m4 hst4 hle4 hk4 => ?_
 have hfr4 := hk4.fr (.o 8 <| .o 0 <| .o 1 <| .o 7 <| .n 9 <| .nil)
 replace h_l := h_l.mono hle4
 have hlh4 := hlh3.trans hle4
 replace hM := hM.trans hle4
 clear hst3 hfr3 hk4
 refine hK5 _ _ ?_
 refine zB fun _ hK6 => ?_
 refine zG hfr4 rfl rfl (fun hb9 => ?_) (fun hb9 => ?_)
 ·try simp only [nqs] at hb9
  refine zJ ?_
  refine hK6 _ _ ?_
  refine zB fun _ hK7 => ?_
  refine zN ?_
  refine zB fun _ hK8 => ?_
  refine rp0 hst4 hfr4 (.cons rfl (zD rfl) <| .cons rfl (zC rfl) <| .nil) fun a5 w5 m5 hst5 hle5 hk5 => ?_
  have hfr5 := hk5.fr (.o 8 <| .o 0 <| .o 1 <| .o 7 <| .n 5 <| .nil)
  clear hst4 hfr4 hk5
  refine hK8 _ _ ?_
  refine zB fun _ hK9 => ?_
  replace h_l := h_l.mono hle5
  obtain ⟨p10, vs10, x10, ho10, hd10, hm_x10, ht10, hcv10, hl10, hv10⟩ := h_l.nth (k := y) (by omega)
  cases ho10
  subst hv10
  try rw [hd10] at hrem
  try simp only [List.any_cons, List.any_nil] at hrem
  replace hM := hM.trans hle5
  refine rp0 hst5 hfr5 (.cons rfl (zD rfl) <| .cons rfl (zD rfl) <| .cons rfl (zD rfl) <| .cons rfl (zH (k := y) rfl rfl underlying27 sizeOf9 rfl (by omega)) <| .cons rfl (ZN rfl hcv10 isAgg9 rfl) <| .cons rfl (zc rfl (.cons rfl <| .nil) hc (fun w m hK => by have hle_ := KC.le hK; have hA := KC.agree hK; have hM := hM.trans hle_; exact hφ w m _ hM hA hm_x10)) <| .nil) fun a6 w6 m6 hst6 hle6 hk6 => ?_
  have hfr6 := hk6.fr (.o 8 <| .o 0 <| .o 1 <| .o 7 <| .o 5 <| .n 16 <| .nil)
  clear hst5 hfr5 hk6
  refine hK9 _ _ ?_
  refine zG hfr6 rfl rfl (fun hb16 => ?_) (fun hb16 => ?_)
  ·try simp only [nqs] at hb16
   have hres : decide ((0 : Int) ≤ (y : Int)) = l.any φ := by rw [hrem, hb16]; simp
   refine zB fun _ hK11 => ?_
   refine rp0 hst6 hfr6 (.cons rfl (zD rfl) <| .cons rfl (zC rfl) <| .nil) fun a7 w7 m7 hst7 hle7 hk7 => ?_
   have hfr7 := hk7.fr (.o 8 <| .n 4 <| .nil)
   clear hst6 hfr6 hk7
   refine hK11 _ _ ?_
   refine zK ?_
   repeat (with_reducible first | refine zI ?_ | refine zF ?_)
   exact zL hst7 hfr7 rfl (.tmp rfl <| .nil) (⟨_, rfl, by first | exact hres | (rw [hrem]; rfl)⟩)
  ·try simp only [nqs] at hb16
   refine zJ ?_
   refine hK7 _ _ ?_
   refine rp0 hst6 hfr6 (.cons rfl (zk rfl rfl ⟨by omega, by omega⟩) <| .cons rfl (zD rfl) <| .nil) fun a7 w7 m7 hst7 hle7 hk7 => ?_
   have hfr7 := hk7.fr (.o 0 <| .o 1 <| .o 7 <| .n 8 <| .nil)
   clear hst6 hfr6 hk7
   have zq1 := hle6.trans hle7
   have zq2 := hle5.trans zq1
   have hlh7 := hlh4.trans zq2
   exact ⟨y + 1, m7, by show l.length - (y + 1) < l.length - y; omega, ⟨hst7, hlh7, hfr7.sub (.c <| .c <| .c <| .c <| .nil), ⟨by show y + 1 ≤ l.length; omega, by rw [hrem, hb16]; rfl⟩⟩⟩
 ·try simp only [nqs] at hb9
  have hge : y = l.length := by omega
  rw [List.drop_of_length_le (by omega)] at hrem
  simp only [List.any_cons, List.any_nil] at hrem
  refine zg ?_
  refine hK2 _ _ ?_
  refine zB fun _ hK13 => ?_
  refine rp0 hst4 hfr4 (.cons rfl (zC rfl) <| .nil) fun a5 w5 m5 hst5 hle5 hk5 => ?_
  have hfr5 := hk5.fr (.o 8 <| .n 4 <| .nil)
  clear hst4 hfr4 hk5
  refine hK13 _ _ ?_
  refine zK ?_
  repeat (with_reducible first | refine zI ?_ | refine zF ?_)
  exact zL hst5 hfr5 rfl (.tmp rfl <| .nil) (⟨_, rfl, by first | exact hres | (rw [hrem]; rfl)⟩)
set_option maxHeartbeats 400000 in
theorem containsfS_c {w : World} {m : Mem} {o_l : Option Addr} {c_l : Nat} {l : List Str} {cid : Nat} {cap : List Value} {φ : Str → Bool} (hA : Agree w m) (h_l : Strs m o_l l.length c_l l) (hc : ∀ args w, (callFunc cid args).run Tryd.prog w = .ok (.enter cid args) w) (hφ : ∀ w m' (t : Str), MLe m m' → Agree w m' → t ∈ l → FnV Tryd.prog cid ([S t] ++ cap).toArray w m' (fun _ _ v => v = .bool (φ t))) : FnV Tryd.prog 81 #[.slice o_l l.length c_l, .func (.func cid) #[] cap.toArray] w m (fun _ _ v => v = .bool (l.any φ)) := by
 have hb_l := h_l.big; have hc_l := h_l.cap
 refine zX (vs := [_, _]) func81 rfl rfl rfl fun a0 hfr0 => ?_
 have hst0 := zW hA (zf [] _ w m)
 have hM : MLe m m := MLe.refl m
 refine zB fun _ hK1 => ?_
 refine rp0 hst0 hfr0 (.cons rfl (zC rfl) <| .nil) fun a1 w1 m1 hst1 hle1 hk1 => ?_
 have hfr1 := hk1.fr (.o 0 <| .o 1 <| .nil)
 replace h_l := h_l.mono hle1
 replace hM := hM.trans hle1
 clear hst0 hfr0 hk1
 refine hK1 _ _ ?_
 refine zB fun _ hK2 => ?_
 refine ra0 (tch := []) hst1 hfr1 (.cons rfl (zD rfl) <| .cons rfl (zD rfl) <| .cons rfl (zi (φ := MP.mem (fun i : Int => .int .i64 i) (fun i _ => decide (0 ≤ i) = l.any φ) (fun _ h => h)) rfl (.cons rfl <| .cons rfl <| .nil) call89 (fun w m hK => by have hle_ := KC.le hK; have hA := KC.agree hK; have hM := hM.trans hle_; have h_l := h_l.mono hle_; exact FnG.mono (indexfS_c (φ := φ) hA h_l hc (fun w m2 t hm ha ht => hφ w m2 t (hM.trans hm) ha ht)) fun _ _ _ _ h => h)) <| .cons rfl (zh 7 rfl rfl rfl fun y7 => ob_geq rfl rfl) <| .consA 8 rfl rfl <| .nil) fun a2 w2 m2 hst2 hle2 hk2 => ?_
 have hfr2 := hk2.fr (.nil)
 obtain ⟨i, e3, hi⟩ := hk2.ex 8 rfl
 replace hfr2 := hfr2.cons (hk2.same 4 rfl e3)
 clear hst1 hfr1 hk2
 refine hK2 _ _ ?_
 refine zK ?_
 repeat (with_reducible first | refine zI ?_ | refine zF ?_)
 exact zL hst2 hfr2 rfl (.tmp rfl <| .nil) (by dsimp only at hi; rw [← hi]; rfl)
set_option maxHeartbeats 400000 in
theorem all1_c {w : World} {m : Mem} {t : Tm} {vs_t : List Value} {q : Addr} {fid : Nat} {φ : Tm → Bool} (hA : Agree w m) (h_t : TmR m t vs_t) (hq : CellsAt m q [.func (.func fid) #[] #[]]) (hc : ∀ args w, (callFunc fid args).run Tryd.prog w = .ok (.enter fid args) w) (hφ : ∀ w m' vs, MLe m m' → Agree w m' → TmR m' t vs → FnV Tryd.prog fid ([Value.agg vs.toArray]).toArray w m' (fun _ _ v => v = .bool (φ t))) : FnV Tryd.prog 88 #[.agg vs_t.toArray, .pointer (some q)] w m (fun _ _ v => v = .bool (!φ t)) := by
 obtain ⟨⟨oK_t, cK_t, oA_t, cA_t, oR_t, cR_t, t0_t, t1_t, t2_t, t3_t, t4_t, t5_t, u0_t, u1_t, u2_t, u3_t, u4_t, u5_t⟩, rfl, hon_t, hkk_t, haa_t, hrr_t⟩ := h_t.open_
 dsimp only at hkk_t haa_t hrr_t
 have hbg_t := hkk_t.big; have hcp_t := hkk_t.cap; have hbh_t := haa_t.big; have hcq_t := haa_t.cap
 refine zX (vs := [_, _]) func88 rfl rfl rfl fun a0 hfr0 => ?_
 have hst0 := zW hA (zf [] _ w m)
 have hM : MLe m m := MLe.refl m
 refine zB fun _ hK1 => ?_
 refine rp0 hst0 hfr0 (.cons rfl (zv rfl rfl) <| .cons rfl (zC rfl) <| .nil) fun a1 w1 m1 hst1 hle1 hk1 => ?_
 have hfr1 := hk1.fr (.o 1 <| .nil)
 obtain ⟨g2, e2, hc2⟩ := hk1.ex 2 rfl
 replace hfr1 := hfr1.cons e2
 replace h_t := h_t.mono hle1
 replace hq := hq.mono hle1
 replace hM := hM.trans hle1
 clear hst0 hfr0 hk1
 refine hK1 _ _ ?_
 refine zB fun _ hK3 => ?_
 refine rp0 hst1 hfr1 (.cons rfl (ZN rfl hq isAgg65 rfl) <| .cons rfl (zO rfl hc2 isAgg33 sizeOf33 rfl rfl) <| .cons rfl (zc rfl (.cons rfl <| .nil) hc (fun w m hK => by have hle_ := KC.le hK; have hA := KC.agree hK; have hM := hM.trans hle_; have h_t := h_t.mono hle_; exact hφ w m _ hM hA h_t)) <| .cons rfl (Zn rfl) <| .cons rfl (zC rfl) <| .nil) fun a2 w2 m2 hst2 hle2 hk2 => ?_
 have hfr2 := hk2.fr (.n 3 <| .nil)
 clear hst1 hfr1 hk2
 refine hK3 _ _ ?_
 refine zK ?_
 repeat (with_reducible first | refine zI ?_ | refine zF ?_)
 exact zL hst2 hfr2 rfl (.tmp rfl <| .nil) (rfl)
set_option maxHeartbeats 400000 in
theorem all_c {w : World} {m : Mem} {fid : Nat} {φ : Tm → Bool} {o_l : Option Addr} {c_l : Nat} {l : List Tm} (hA : Agree w m) (h_l : Tms m o_l l.length c_l l) (hc : ∀ args w, (callFunc fid args).run Tryd.prog w = .ok (.enter fid args) w) (hφ : ∀ w m' (u : Tm) vs, MLe m m' → Agree w m' → TmR m' u vs → u ∈ l → FnV Tryd.prog fid ([Value.agg vs.toArray]).toArray w m' (fun _ _ v => v = .bool (φ u))) : FnV Tryd.prog 79 #[.func (.func fid) #[] #[], .slice o_l l.length c_l] w m (fun _ _ v => v = .bool (l.all φ)) := by
 have hb_l := h_l.big; have hc_l := h_l.cap
 refine zX (vs := [_, _]) func79 rfl rfl rfl fun a0 hfr0 => ?_
 have hst0 := zW hA (zf [] _ w m)
 have hM : MLe m m := MLe.refl m
 refine zB fun _ hK1 => ?_
 refine rp0 hst0 hfr0 (.cons rfl (zv rfl rfl) <| .cons rfl (zC rfl) <| .nil) fun a1 w1 m1 hst1 hle1 hk1 => ?_
 have hfr1 := hk1.fr (.o 1 <| .nil)
 obtain ⟨g9, e2, hg9⟩ := hk1.ex 2 rfl
 replace hfr1 := hfr1.cons e2
 replace h_l := h_l.mono hle1
 replace hM := hM.trans hle1
 clear hst0 hfr0 hk1
 refine hK1 _ _ ?_
 refine zB fun _ hK3 => ?_
 refine rp0 hst1 hfr1 (.cons rfl (zD rfl) <| .cons rfl (zBg (.cons rfl <| .nil)) <| .cons rfl (zc rfl (.cons rfl <| .cons rfl <| .nil) call87 (fun w m hK => by have hle_ := KC.le hK; have hA := KC.agree hK; have hM := hM.trans hle_; have h_l := h_l.mono hle_; have hg9 := hg9.mono hle_; exact containsfTm_c (φ := fun u => !φ u) (cap := [.pointer (some ⟨g9, 0, none⟩)]) hA h_l call88 (fun w m2 u vs hm ha hv hu => all1_c ha hv (hg9.mono hm) hc (fun w m3 vs3 hm3 ha3 hv3 => hφ w m3 u vs3 ((hM.trans hm).trans hm3) ha3 hv3 hu)))) <| .cons rfl (Zn rfl) <| .cons rfl (zC rfl) <| .nil) fun a2 w2 m2 hst2 hle2 hk2 => ?_
 have hfr2 := hk2.fr (.n 4 <| .nil)
 clear hst1 hfr1 hk2
 refine hK3 _ _ ?_
 refine zK ?_
 repeat (with_reducible first | refine zI ?_ | refine zF ?_)
 exact zL hst2 hfr2 rfl (.tmp rfl <| .nil) (by refine congrArg Value.bool ?_; rw [← List.not_all_eq_any_not]; simp)
set_option maxHeartbeats 800000 in
theorem bodies_c {w : World} {m : Mem} {o_l : Option Addr} {c_l : Nat} {l : List Ar} (hA : Agree w m) (h_l : Ars m o_l l.length c_l l) (hbig : l.length ≤ 1000000000) : FnV Tryd.prog 80 #[.slice o_l l.length c_l] w m (fun _ m v => (MP.tms (l.map Ar.body)).p m v) := by
 have hb_l := h_l.big; have hc_l := h_l.cap
 refine zX (vs := [_]) func80 rfl rfl rfl fun a0 hfr0 => ?_
 have hst0 := zW hA (zf [] _ w m)
 have hM : MLe m m := MLe.refl m
 refine zB fun _ hK1 => ?_
 refine rp0 hst0 hfr0 (.cons rfl (zC rfl) <| .nil) fun a1 w1 m1 hst1 hle1 hk1 => ?_
 have hfr1 := hk1.fr (.o 0 <| .nil)
 replace h_l := h_l.mono hle1
 clear hst0 hfr0 hk1
 refine hK1 _ _ ?_
 refine zB fun _ hK2 => ?_
 refine rp0 hst1 hfr1 (.cons rfl (zC rfl) <| .nil) fun a2 w2 m2 hst2 hle2 hk2 => ?_
 have hfr2 := hk2.fr (.o 0 <| .n 3 <| .nil)
 replace h_l := h_l.mono hle2
 clear hst1 hfr1 hk2
 have hst2 := hst2.more (r := .rowx (.slice none 0 0) 0 21 33 (MP.reads (fun m vs t => TmR m t vs) 21 [])) zAP List.nodup_nil (by simp [Res.blocks, zy])
 have hsl_O : Tms m2 none ([] : List Tm).length 0 ([] : List Tm) := Sl.empty
 refine hK2 _ _ ?_
 refine zB fun _ hK3 => ?_
 refine zB fun _ hK4 => ?_
 refine rp0 hst2 hfr2 (.cons rfl (zD rfl) <| .cons rfl (zY rfl underlying25) <| .cons rfl (zD rfl) <| .nil) fun a3 w3 m3 hst3 hle3 hk3 => ?_
 have hfr3 := hk3.fr (.o 3 <| .n 6 <| .n 7 <| .n 8 <| .nil)
 replace h_l := h_l.mono hle3
 replace hsl_O := hsl_O.mono hle3
 clear hst2 hfr2 hk3
 refine hK4 _ _ ?_
 refine zN ?_
 refine ze (T := [(6, _), (7, _)]) (fun (y : Nat × Option Addr × Nat × List Tm) => ([(3, .slice y.2.1 y.2.2.2.length y.2.2.1), (8, .int .i64 (y.1 : Int))] : List (Nat × Value))) (fun y => [.rowx (nz (.slice y.2.1 y.2.2.2.length y.2.2.1)) y.2.2.2.length 21 33 (MP.reads (fun m vs t => TmR m t vs) 21 y.2.2.2)]) (fun (y : Nat × Option Addr × Nat × List Tm) m => (fun (y : Nat) (gao : Option Addr) (gap : Nat) (ga : List Tm) => (y ≤ l.length) ∧ (Tms m gao ga.length gap ga) ∧ (ga = (l.take y).map Ar.body)) y.1 y.2.1 y.2.2.1 y.2.2.2) (fun y => l.length - y.1) ((0, none, 0, ([] : List Tm))) ⟨hst3, MLe.refl _, hfr3.sub (.c <| .c <| .c <| .c <| .nil), ⟨Nat.zero_le _, hsl_O, rfl⟩⟩ fun y a4 w4 m4 hh4 => ?_
 have hst4 := hh4.st; have hle4 := hh4.le; have hfr4 := hh4.fr; have hrel := hh4.rel; clear hh4
 replace h_l := h_l.mono hle4
 clear hst3 hfr3
 obtain ⟨y, gao, gap, ga⟩ := y
 dsimp only at hrel hfr4 hst4
 obtain ⟨hyn, hsl_ga, hlen_ga⟩ := hrel
 have hlh4 := hle4
 refine zB fun _ hK6 => ?_
 refine rp0 hst4 hfr4 (.cons rfl (z7 rfl rfl) <| .nil) fun a5 w5 m5 hst5 hle5 hk5 => ?_
 have hfr5 := hk5.fr (.o 3 <| .o 8 <| .o 6 <| .o 7 <| .n 9 <| .nil)
 replace h_l := h_l.mono hle5
 replace hsl_ga := hsl_ga.mono hle5
 have hlh5 := hlh4.trans hle5
 clear hst4 hfr4 hk5
 refine hK6 _ _ ?_
 refine zB fun _ hK7 => ?_
 refine zG hfr5 rfl rfl (fun hb9 => ?_) (fun hb9 => ?_)
 ·try simp only [nqs] at hb9
  refine zJ ?_
  refine hK7 _ _ ?_
  refine zB fun _ hK8 => ?_
  refine zN ?_
  refine zB fun _ hK9 => ?_
  obtain ⟨p10, vs10, x10, ho10, hd10, hm_x10, ht10, hcv10, hl10, hv10⟩ := h_l.nth (k := y) (by omega)
  cases ho10
  obtain ⟨oV10, cV10, bs10, rfl, hva10, hbd10⟩ := hv10.open_
  have hbv10 := hva10.big; have hcv10_ := hva10.cap
  obtain ⟨⟨oK10b, cK10b, oA10b, cA10b, oR10b, cR10b, t010b, t110b, t210b, t310b, t410b, t510b, u010b, u110b, u210b, u310b, u410b, u510b⟩, rfl, hon10b, hkk10b, haa10b, hrr10b⟩ := hbd10.open_
  dsimp only at hkk10b haa10b hrr10b
  have hbg10b := hkk10b.big; have hcp10b := hkk10b.cap; have hbh10b := haa10b.big; have hcq10b := haa10b.cap
  have hgl : ga.length ≤ l.length := by rw [hlen_ga]; simp; omega
  replace hst5 := hst5.more (r := .free) trivial List.nodup_nil (by simp [Res.blocks])
  refine ra0 (tch := [(2, 1, (fun v => .blk v _)), (3, 1, (fun v => .blk v _))]) hst5 hfr5 (.cons rfl (zH (k := y) rfl rfl underlying25 sizeOf72 rfl (by omega)) <| .cons rfl (zO rfl hcv10 isAgg72 sizeOf72 rfl rfl) <| .consT rfl rfl (fun _ => rfl) rfl (zQ zeroValue72 rfl) <| .consT rfl rfl (fun _ => rfl) rfl (zU 5 rfl rfl rfl fun y5 => zb rfl rfl rfl rfl rfl sizeOf72 rfl rfl hv10.one) <| .nil) fun a6 w6 m6 hst6 hle6 hk6 => ?_
  have hfr6 := hk6.fr (.o 3 <| .o 8 <| .o 6 <| .o 7 <| .nil)
  obtain ⟨g11, e11, _⟩ := hk6.ex 5 rfl
  replace hfr6 := hfr6.cons e11
  replace hst6 := hst6.fin (L' := [_, _]) (.cons e11 <| .cons e11 <| .nil)
  try simp only [List.take_succ_cons, List.take_zero, List.drop_succ_cons, List.drop_zero, List.cons_append, List.nil_append, List.append_nil, List.length_cons, List.length_nil, Nat.zero_add, Nat.reduceAdd] at hst6
  clear hst5 hfr5 hk6
  refine hK9 _ _ ?_
  refine zu 3 (by kernel_rfl) ?_
  refine zm (tch := []) hst6 hfr6 (by kernel_rfl) (by kernel_rfl) (by kernel_rfl) (.cons rfl (zD rfl) <| .cons rfl (zA (off := 2) rfl underlying72 rfl rfl sizeOf33 rfl) <| .cons rfl (Zo (j := 1) rfl rfl isAgg33 sizeOf33 rfl rfl) <| .nil) fun a7 w7 m7 hst7 hle7 hk7 => ?_
  have hfr7 := hk7.fr (.o 3 <| .o 8 <| .o 6 <| .o 7 <| .o 5 <| .n 12 <| .n 14 <| .nil)
  clear hst6 hfr6 hk7
  have zq1 := hle6.trans hle7
  replace hbd10 := hbd10.mono zq1
  refine zm (tch := [(1, 0, (fun v => .rowx (nz v) _ _ _ _))]) hst7 hfr7 (by kernel_rfl) (by kernel_rfl) (by kernel_rfl) (.cons rfl (z8 rfl underlying24 sizeOf33 zeroValue33 rfl rfl rfl rfl) <| .consT rfl rfl (fun _ => rfl) rfl (zU 15 rfl rfl rfl fun y15 => ZZ (size := 21) (bytes := 312) (l := ga) (l' := [x10.body]) rfl rfl (fun _ => by first | exact .inl rfl | exact .inr (.inl rfl)) underlying24 type33 rfl rfl rfl rfl (fun w m hK => Sl.one (R := fun m vs t => TmR m t vs) hK.2 rfl (hbd10.mono (KC.le hK))) rfl (by decide) (by simp only [maxLen]; omega) (by omega)) <| .consA 16 rfl rfl <| .nil) fun a8 w8 m8 hst8 hle8 hk8 => ?_
  have hfr8 := hk8.fr (.o 8 <| .o 6 <| .o 7 <| .o 5 <| .o 12 <| .o 14 <| .nil)
  obtain ⟨⟨O_12o, O_12p⟩, e13, hsl_O_12⟩ := hk8.ex 16 rfl
  replace hfr8 := hfr8.cons e13
  replace hfr8 := hfr8.cons (hk8.same 3 rfl e13)
  replace hst8 := hst8.fin (L' := [_, _]) (.cons e13 <| .nil)
  clear hst7 hfr7 hk8
  replace hsl_O_12 : Tms m8 O_12o (ga ++ [x10.body]).length O_12p (ga ++ [x10.body]) := hsl_O_12
  refine hK8 _ _ ?_
  refine rp0 hst8 hfr8 (.cons rfl (zk rfl rfl ⟨by omega, by omega⟩) <| .cons rfl (zD rfl) <| .nil) fun a9 w9 m9 hst9 hle9 hk9 => ?_
  have hfr9 := hk9.fr (.o 6 <| .o 7 <| .o 3 <| .n 8 <| .nil)
  clear hst8 hfr8 hk9
  have hst9 := hst9.take 1
  replace hsl_O_12 := hsl_O_12.mono hle9
  have zq2 := hle8.trans hle9
  have zq3 := zq1.trans zq2
  have hlh9 := hlh5.trans zq3
  exact ⟨(y + 1, O_12o, O_12p, (ga ++ [x10.body])), m9, by show l.length - (y + 1) < l.length - y; omega, ⟨hst9, hlh9, hfr9.sub (.c <| .c <| .c <| .c <| .nil), ⟨by show y + 1 ≤ l.length; omega, hsl_O_12, by rw [ht10, List.map_append, ← hlen_ga]; rfl⟩⟩⟩
 ·try simp only [nqs] at hb9
  have hge : y = l.length := by omega
  rw [List.take_of_length_le (by omega)] at hlen_ga
  refine zg ?_
  refine hK3 _ _ ?_
  refine zB fun _ hK14 => ?_
  refine rp0 hst5 hfr5 (.cons rfl (zD rfl) <| .cons rfl (zC rfl) <| .nil) fun a6 w6 m6 hst6 hle6 hk6 => ?_
  have hfr6 := hk6.fr (.o 3 <| .o 8 <| .n 2 <| .nil)
  clear hst5 hfr5 hk6
  refine hK14 _ _ ?_
  refine zK ?_
  repeat (with_reducible first | refine zI ?_ | refine zF ?_)
  replace hsl_ga := hsl_ga.mono hle6
  exact zL hst6 hfr6 rfl (.tmp rfl <| .nil) (⟨(_, _), by rw [← hlen_ga]; rfl, by rw [← hlen_ga]; exact hsl_ga⟩)
abbrev zDS (t : Tm) : Prop := ∀ {w : World} {m : Mem} {vs_t : List Value} (hA : Agree w m) (h_t : TmR m t vs_t) (hb : zP t ≤ 1000000000), FnV Tryd.prog 66 #[.agg vs_t.toArray] w m (fun _ _ v => v = .bool (zAA t))
set_option maxHeartbeats 800000 in
theorem plain_s {t : Tm} (ihk : ∀ u ∈ t.kids, zDS u) (iha : ∀ a ∈ t.arms, zDS a.body) {w : World} {m : Mem} {vs_t : List Value} (hA : Agree w m) (h_t : TmR m t vs_t) (hb : zP t ≤ 1000000000) : FnV Tryd.prog 66 #[.agg vs_t.toArray] w m (fun _ _ v => v = .bool (zAA t)) := by
 obtain ⟨⟨oK_t, cK_t, oA_t, cA_t, oR_t, cR_t, t0_t, t1_t, t2_t, t3_t, t4_t, t5_t, u0_t, u1_t, u2_t, u3_t, u4_t, u5_t⟩, rfl, hon_t, hkk_t, haa_t, hrr_t⟩ := h_t.open_
 dsimp only at hkk_t haa_t hrr_t
 have hbg_t := hkk_t.big; have hcp_t := hkk_t.cap; have hbh_t := haa_t.big; have hcq_t := haa_t.cap
 refine zX (vs := [_]) func66 rfl rfl rfl fun a0 hfr0 => ?_
 have hst0 := zW hA (zf [] _ w m)
 have hM : MLe m m := MLe.refl m
 have hve := plainT_eq t
 have hce := zr t; have hkl_ := Z1 t.kids; have hal_ := zAH t.arms
 refine zB fun _ hK1 => ?_
 refine rp0 hst0 hfr0 (.cons rfl (zv rfl rfl) <| .cons rfl (zC rfl) <| .nil) fun a1 w1 m1 hst1 hle1 hk1 => ?_
 have hfr1 := hk1.fr (.nil)
 obtain ⟨g2, e2, hc1⟩ := hk1.ex 1 rfl
 replace hfr1 := hfr1.cons e2
 replace hkk_t := hkk_t.mono hle1
 replace haa_t := haa_t.mono hle1
 clear hst0 hfr0 hk1
 refine hK1 _ _ ?_
 refine zB fun _ hK3 => ?_
 refine zB fun _ hK4 => ?_
 refine rp0 hst1 hfr1 (.cons rfl (zA (off := 0) rfl underlying33 rfl rfl sizeOf3 rfl) <| .cons rfl (zE rfl hc1 isAgg3 rfl) <| .nil) fun a2 w2 m2 hst2 hle2 hk2 => ?_
 have hfr2 := hk2.fr (.o 1 <| .n 5 <| .nil)
 replace hkk_t := hkk_t.mono hle2
 replace haa_t := haa_t.mono hle2
 replace hc1 := hc1.mono hle2
 clear hst1 hfr1 hk2
 refine hK4 _ _ ?_
 refine zN ?_
 refine zB fun _ hK5 => ?_
 refine zB fun _ hK6 => ?_
 refine rp0 hst2 hfr2 (.cons rfl (zV rfl rfl) <| .cons rfl (zC rfl) <| .nil) fun a3 w3 m3 hst3 hle3 hk3 => ?_
 have hfr3 := hk3.fr (.o 1 <| .o 5 <| .n 6 <| .nil)
 replace hkk_t := hkk_t.mono hle3
 replace haa_t := haa_t.mono hle3
 replace hc1 := hc1.mono hle3
 clear hst2 hfr2 hk3
 refine hK6 _ _ ?_
 refine zG hfr3 rfl rfl (fun hb6 => ?_) (fun hb6 => ?_)
 ·try simp only [nqs] at hb6
  refine zJ ?_
  refine hK5 _ _ ?_
  refine zG hfr3 rfl rfl (fun hb6x => ?_) (fun hb6x => ?_)
  ·try simp only [nqs] at hb6x
   refine zB fun _ hK7 => ?_
   refine rp0 hst3 hfr3 (.cons rfl (zC rfl) <| .nil) fun a4 w4 m4 hst4 hle4 hk4 => ?_
   have hfr4 := hk4.fr (.n 2 <| .nil)
   clear hst3 hfr3 hk4
   refine hK7 _ _ ?_
   refine zK ?_
   repeat (with_reducible first | refine zI ?_ | refine zF ?_)
   exact zL hst4 hfr4 rfl (.tmp rfl <| .nil) (by refine congrArg Value.bool ?_; rw [hve, if_pos (by omega)])
  ·exfalso; try simp only [nqs] at hb6x
   first | exact absurd hb6x hb6 | exact absurd hb6 hb6x | simp_all
 ·try simp only [nqs] at hb6
  refine zB fun _ hK9 => ?_
  refine rp0 hst3 hfr3 (.cons rfl (zV rfl rfl) <| .cons rfl (zC rfl) <| .nil) fun a4 w4 m4 hst4 hle4 hk4 => ?_
  have hfr4 := hk4.fr (.o 1 <| .o 5 <| .n 6 <| .nil)
  clear hst3 hfr3 hk4
  refine hK9 _ _ ?_
  refine zG hfr4 rfl rfl (fun hb6 => ?_) (fun hb6 => ?_)
  ·try simp only [nqs] at hb6
   refine zJ ?_
   refine hK5 _ _ ?_
   refine zG hfr4 rfl rfl (fun hb6x => ?_) (fun hb6x => ?_)
   ·try simp only [nqs] at hb6x
    refine zB fun _ hK10 => ?_
    refine rp0 hst4 hfr4 (.cons rfl (zC rfl) <| .nil) fun a5 w5 m5 hst5 hle5 hk5 => ?_
    have hfr5 := hk5.fr (.n 2 <| .nil)
    clear hst4 hfr4 hk5
    refine hK10 _ _ ?_
    refine zK ?_
    repeat (with_reducible first | refine zI ?_ | refine zF ?_)
    exact zL hst5 hfr5 rfl (.tmp rfl <| .nil) (by refine congrArg Value.bool ?_; rw [hve, if_pos (by omega)])
   ·exfalso; try simp only [nqs] at hb6x
    first | exact absurd hb6x hb6 | exact absurd hb6 hb6x | simp_all
  ·try simp only [nqs] at hb6
   refine rp0 hst4 hfr4 (.cons rfl (zV rfl rfl) <| .cons rfl (zC rfl) <| .nil) fun a5 w5 m5 hst5 hle5 hk5 => ?_
   have hfr5 := hk5.fr (.o 1 <| .o 5 <| .n 6 <| .nil)
   clear hst4 hfr4 hk5
   refine hK5 _ _ ?_
   refine zG hfr5 rfl rfl (fun hb6 => ?_) (fun hb6 => ?_)
   ·try simp only [nqs] at hb6
    refine zB fun _ hK12 => ?_
    refine rp0 hst5 hfr5 (.cons rfl (zC rfl) <| .nil) fun a6 w6 m6 hst6 hle6 hk6 => ?_
    have hfr6 := hk6.fr (.n 2 <| .nil)
    clear hst5 hfr5 hk6
    refine hK12 _ _ ?_
    refine zK ?_
    repeat (with_reducible first | refine zI ?_ | refine zF ?_)
    exact zL hst6 hfr6 rfl (.tmp rfl <| .nil) (by refine congrArg Value.bool ?_; rw [hve, if_pos (by omega)])
   ·try simp only [nqs] at hb6
    refine zB fun _ hK14 => ?_
    refine rp0 hst5 hfr5 (.cons rfl (zV rfl rfl) <| .cons rfl (zC rfl) <| .nil) fun a6 w6 m6 hst6 hle6 hk6 => ?_
    have hfr6 := hk6.fr (.o 1 <| .n 10 <| .nil)
    clear hst5 hfr5 hk6
    refine hK14 _ _ ?_
    refine zG hfr6 rfl rfl (fun hb10 => ?_) (fun hb10 => ?_)
    ·try simp only [nqs] at hb10
     refine zB fun _ hK15 => ?_
     refine rp0 hst6 hfr6 (.cons rfl (zC rfl) <| .nil) fun a7 w7 m7 hst7 hle7 hk7 => ?_
     have hfr7 := hk7.fr (.n 2 <| .nil)
     clear hst6 hfr6 hk7
     refine hK15 _ _ ?_
     refine zK ?_
     repeat (with_reducible first | refine zI ?_ | refine zF ?_)
     exact zL hst7 hfr7 rfl (.tmp rfl <| .nil) (by refine congrArg Value.bool ?_; rw [hve, if_neg (by omega), if_pos hb10])
    ·try simp only [nqs] at hb10
     refine zJ ?_
     refine hK3 _ _ ?_
     refine zB fun _ hK17 => ?_
     have zq1 := hle5.trans hle6
     have zq2 := hle4.trans zq1
     replace hc1 := hc1.mono zq2
     refine rp0 hst6 hfr6 (.cons rfl (zA (off := 5) rfl underlying33 rfl rfl sizeOf24 rfl) <| .cons rfl (zE rfl hc1 isAgg24 rfl) <| .cons rfl (zC rfl) <| .nil) fun a7 w7 m7 hst7 hle7 hk7 => ?_
     have hfr7 := hk7.fr (.o 1 <| .n 3 <| .nil)
     clear hst6 hfr6 hk7
     refine hK17 _ _ ?_
     refine zB fun _ hK18 => ?_
     refine zB fun _ hK19 => ?_
     replace hc1 := hc1.mono hle7
     refine rp0 hst7 hfr7 (.cons rfl (zA (off := 0) rfl underlying33 rfl rfl sizeOf3 rfl) <| .cons rfl (zE rfl hc1 isAgg3 rfl) <| .cons rfl (zV rfl rfl) <| .cons rfl (zD rfl) <| .cons rfl (zD rfl) <| .cons rfl (zY rfl underlying24) <| .cons rfl (zAw rfl rfl) <| .cons rfl (ZI rfl rfl rfl) <| .nil) fun a8 w8 m8 hst8 hle8 hk8 => ?_
     have hfr8 := hk8.fr (.o 1 <| .o 3 <| .n 21 <| .nil)
     clear hst7 hfr7 hk8
     refine hK19 _ _ ?_
     refine zG hfr8 rfl rfl (fun hb21 => ?_) (fun hb21 => ?_)
     ·try simp only [nqs] at hb21
      have zq3 := hle7.trans hle8
      have zq4 := zq2.trans zq3
      replace hkk_t := hkk_t.mono zq4
      have hct20 : Tms _ _ _ _ ((t.kids.take (t.kids.length)).drop (1)) := hkk_t.cut (l := 1) (k := t.kids.length) (by omega) (by omega)
      have hcl20 : (t.kids.length) - (1) = (((t.kids.take (t.kids.length)).drop (1))).length := hct20.len.symm
      have hcu20 : Tms _ _ _ _ ((t.kids.take (t.kids.length)).drop (1)) := hct20.lenL
      refine rp0 hst8 hfr8 (.cons rfl (zD rfl) <| .cons rfl (zCd (l := 1) (h := t.kids.length) rfl (.some rfl (by omega)) .none underlying24 sizeOf33 (by first | omega | (dsimp only; omega)) (by first | omega | (dsimp only; omega))) <| .cons rfl (zC rfl) <| .nil) fun a9 w9 m9 hst9 hle9 hk9 => ?_
      have hfr9 := hk9.fr (.o 1 <| .n 3 <| .nil)
      clear hst8 hfr8 hk9
      refine hK18 _ _ ?_
      refine zB fun _ hK21 => ?_
      have zq5 := zq4.trans hle9
      replace haa_t := haa_t.mono zq5
      have zq6 := hle8.trans hle9
      replace hc1 := hc1.mono zq6
      replace hcu20 := hcu20.mono hle9
      refine rp0 hst9 hfr9 (.cons rfl (zD rfl) <| .cons rfl (zc rfl (.cons rfl <| .cons rfl <| .nil) call79 (fun w m hK => by have hle_ := KC.le hK; have hA := KC.agree hK; have hcu20 := hcu20.mono hle_; exact (by rw [hcl20]; exact all_c (φ := zAA) hA hcu20 call66 (fun w m2 u vs hm ha hv hu => ihk u (by first | exact hu | exact List.mem_of_mem_take (List.mem_of_mem_drop hu)) ha hv (by have := ZH (show u ∈ t.kids by first | exact hu | exact List.mem_of_mem_take (List.mem_of_mem_drop hu)); omega))))) <| .cons rfl (zD rfl) <| .cons rfl (zA (off := 6) rfl underlying33 rfl rfl sizeOf25 rfl) <| .cons rfl (zE rfl hc1 isAgg25 rfl) <| .cons rfl (zi (φ := MP.tms (t.arms.map Ar.body)) rfl (.cons rfl <| .nil) call80 (fun w m hK => by have hle_ := KC.le hK; have hA := KC.agree hK; have haa_t := haa_t.mono hle_; exact FnG.mono (bodies_c hA haa_t (by omega)) fun _ _ _ _ h => h)) <| .cons rfl (Z6 29 rfl rfl rfl fun y29 => zc rfl (.cons rfl <| .cons rfl <| .nil) call79 (fun w m hK => by have hle_ := KC.le hK; have hA := KC.agree hK; have hr0_ := hK.2; exact all_c (φ := zAA) hA hr0_ call66 (fun w m2 u vs hm ha hv hu => by obtain ⟨a, ha2, rfl⟩ := List.mem_map.1 hu; exact iha a ha2 ha hv (by have := zAE ha2; omega)))) <| .cons rfl (ZI rfl rfl rfl) <| .cons rfl (zC rfl) <| .nil) fun a10 w10 m10 hst10 hle10 hk10 => ?_
      have hfr10 := hk10.fr (.n 2 <| .nil)
      clear hst9 hfr9 hk10
      refine hK21 _ _ ?_
      refine zK ?_
      repeat (with_reducible first | refine zI ?_ | refine zF ?_)
      exact zL hst10 hfr10 rfl (.tmp rfl <| .nil) (by refine congrArg Value.bool ?_; rw [hve, if_neg (by omega), if_neg (by omega), zBo]; refine congrArg (· && _) ?_; first | (rw [decide_eq_true hb21.1, zCc, List.take_length]; done) | exact zDq (by omega))
     ·try simp only [nqs] at hb21
      refine zJ ?_
      refine hK18 _ _ ?_
      refine zB fun _ hK23 => ?_
      have zq7 := hle7.trans hle8
      have zq8 := zq2.trans zq7
      replace hkk_t := hkk_t.mono zq8
      replace haa_t := haa_t.mono zq8
      replace hc1 := hc1.mono hle8
      refine rp0 hst8 hfr8 (.cons rfl (zD rfl) <| .cons rfl (zc rfl (.cons rfl <| .cons rfl <| .nil) call79 (fun w m hK => by have hle_ := KC.le hK; have hA := KC.agree hK; have hkk_t := hkk_t.mono hle_; exact (by skip; exact all_c (φ := zAA) hA hkk_t call66 (fun w m2 u vs hm ha hv hu => ihk u (by first | exact hu | exact List.mem_of_mem_take (List.mem_of_mem_drop hu)) ha hv (by have := ZH (show u ∈ t.kids by first | exact hu | exact List.mem_of_mem_take (List.mem_of_mem_drop hu)); omega))))) <| .cons rfl (zD rfl) <| .cons rfl (zA (off := 6) rfl underlying33 rfl rfl sizeOf25 rfl) <| .cons rfl (zE rfl hc1 isAgg25 rfl) <| .cons rfl (zi (φ := MP.tms (t.arms.map Ar.body)) rfl (.cons rfl <| .nil) call80 (fun w m hK => by have hle_ := KC.le hK; have hA := KC.agree hK; have haa_t := haa_t.mono hle_; exact FnG.mono (bodies_c hA haa_t (by omega)) fun _ _ _ _ h => h)) <| .cons rfl (Z6 29 rfl rfl rfl fun y29 => zc rfl (.cons rfl <| .cons rfl <| .nil) call79 (fun w m hK => by have hle_ := KC.le hK; have hA := KC.agree hK; have hr0_ := hK.2; exact all_c (φ := zAA) hA hr0_ call66 (fun w m2 u vs hm ha hv hu => by obtain ⟨a, ha2, rfl⟩ := List.mem_map.1 hu; exact iha a ha2 ha hv (by have := zAE ha2; omega)))) <| .cons rfl (ZI rfl rfl rfl) <| .cons rfl (zC rfl) <| .nil) fun a9 w9 m9 hst9 hle9 hk9 => ?_
      have hfr9 := hk9.fr (.n 2 <| .nil)
      clear hst8 hfr8 hk9
      refine hK23 _ _ ?_
      refine zK ?_
      repeat (with_reducible first | refine zI ?_ | refine zF ?_)
      exact zL hst9 hfr9 rfl (.tmp rfl <| .nil) (by refine congrArg Value.bool ?_; rw [hve, if_neg (by omega), if_neg (by omega), zBo]; refine congrArg (· && _) ?_; first | (rw [decide_eq_true hb21.1, zCc, List.take_length]; done) | exact zDq (by omega))
theorem plain_c (t : Tm) : zDS t := Tm.rec_ (p := zDS) (fun t ihk iha => plain_s ihk iha) t
end Go.Proofs.YtmdhhjmomilhjaaDoor
namespace Go.Proofs.YtmdhhjmomilhjaaDoor
open Go.Proofs.Tryd
set_option linter.all false
set_option maxRecDepth 4000
open Go.RowKit
def quietT (t : Tm) : Bool := zAA t || calmS t.row.labels t.row.var
set_option maxHeartbeats 400000 in
theorem calm1_c {w : World} {m : Mem} {s : Str} (hA : Agree w m)  : FnV Tryd.prog 82 #[S s] w m (fun _ _ v => v = .bool (!decide (s = zDg))) := by
 refine zX (vs := [_]) func82 rfl rfl rfl fun a0 hfr0 => ?_
 have hst0 := zW hA (zf [] _ w m)
 have hM : MLe m m := MLe.refl m
 refine zB fun _ hK1 => ?_
 refine rp0 hst0 hfr0 (.cons rfl (zC rfl) <| .nil) fun a1 w1 m1 hst1 hle1 hk1 => ?_
 have hfr1 := hk1.fr (.o 0 <| .nil)
 clear hst0 hfr0 hk1
 refine hK1 _ _ ?_
 refine zB fun _ hK2 => ?_
 refine rp0 hst1 hfr1 (.cons rfl (zD rfl) <| .cons rfl (Z7 rfl rfl) <| .cons rfl (zC rfl) <| .nil) fun a2 w2 m2 hst2 hle2 hk2 => ?_
 have hfr2 := hk2.fr (.n 2 <| .nil)
 clear hst1 hfr1 hk2
 refine hK2 _ _ ?_
 refine zK ?_
 repeat (with_reducible first | refine zI ?_ | refine zF ?_)
 exact zL hst2 hfr2 rfl (.tmp rfl <| .nil) (rfl)
set_option maxHeartbeats 400000 in
theorem calm_c {w : World} {m : Mem} {r : Rw} {vs_r : List Value} (hA : Agree w m) (h_r : RwR m r vs_r) : FnV Tryd.prog 67 #[.agg vs_r.toArray] w m (fun _ _ v => v = .bool (calmS r.labels r.var)) := by
 obtain ⟨o_r, c_r, rfl, hs_r, hr_r⟩ := h_r.open_
 have hbs_r := hs_r.big; have hcs_r := hs_r.cap
 refine zX (vs := [_]) func67 rfl rfl rfl fun a0 hfr0 => ?_
 have hst0 := zW hA (zf [] _ w m)
 have hM : MLe m m := MLe.refl m
 refine zB fun _ hK1 => ?_
 refine rp0 hst0 hfr0 (.cons rfl (zv rfl rfl) <| .cons rfl (zC rfl) <| .nil) fun a1 w1 m1 hst1 hle1 hk1 => ?_
 have hfr1 := hk1.fr (.nil)
 obtain ⟨g2, e2, hc1⟩ := hk1.ex 1 rfl
 replace hfr1 := hfr1.cons e2
 replace hs_r := hs_r.mono hle1
 clear hst0 hfr0 hk1
 refine hK1 _ _ ?_
 refine zB fun _ hK3 => ?_
 refine rp0 hst1 hfr1 (.cons rfl (zA (off := 1) rfl underlying29 rfl rfl sizeOf3 rfl) <| .cons rfl (zE rfl hc1 isAgg3 rfl) <| .cons rfl (zV rfl rfl) <| .cons rfl (zD rfl) <| .cons rfl (zA (off := 0) rfl underlying29 rfl rfl sizeOf27 rfl) <| .cons rfl (zE rfl hc1 isAgg27 rfl) <| .cons rfl (zc rfl (.cons rfl <| .cons rfl <| .nil) call81 (fun w m hK => by have hle_ := KC.le hK; have hA := KC.agree hK; have hs_r := hs_r.mono hle_; exact containsfS_c (φ := fun s => !decide (s = zDg)) (cap := []) hA hs_r call82 (fun w m2 t hm ha ht => calm1_c ha))) <| .cons rfl (Zn rfl) <| .cons rfl (ZI rfl rfl rfl) <| .cons rfl (zC rfl) <| .nil) fun a2 w2 m2 hst2 hle2 hk2 => ?_
 have hfr2 := hk2.fr (.n 2 <| .nil)
 clear hst1 hfr1 hk2
 refine hK3 _ _ ?_
 refine zK ?_
 repeat (with_reducible first | refine zI ?_ | refine zF ?_)
 exact zL hst2 hfr2 rfl (.tmp rfl <| .nil) (rfl)
set_option maxHeartbeats 400000 in
theorem quiet_c {w : World} {m : Mem} {t : Tm} {vs_t : List Value} (hA : Agree w m) (h_t : TmR m t vs_t) (hb : zP t ≤ 1000000000) : FnV Tryd.prog 53 #[.agg vs_t.toArray] w m (fun _ _ v => v = .bool (quietT t)) := by
 obtain ⟨⟨oK_t, cK_t, oA_t, cA_t, oR_t, cR_t, t0_t, t1_t, t2_t, t3_t, t4_t, t5_t, u0_t, u1_t, u2_t, u3_t, u4_t, u5_t⟩, rfl, hon_t, hkk_t, haa_t, hrr_t⟩ := h_t.open_
 dsimp only at hkk_t haa_t hrr_t
 have hbg_t := hkk_t.big; have hcp_t := hkk_t.cap; have hbh_t := haa_t.big; have hcq_t := haa_t.cap
 refine zX (vs := [_]) func53 rfl rfl rfl fun a0 hfr0 => ?_
 have hst0 := zW hA (zf [] _ w m)
 have hM : MLe m m := MLe.refl m
 refine zB fun _ hK1 => ?_
 refine rp0 hst0 hfr0 (.cons rfl (zv rfl rfl) <| .cons rfl (zC rfl) <| .nil) fun a1 w1 m1 hst1 hle1 hk1 => ?_
 have hfr1 := hk1.fr (.nil)
 obtain ⟨g2, e2, hc1⟩ := hk1.ex 1 rfl
 replace hfr1 := hfr1.cons e2
 replace h_t := h_t.mono hle1
 replace hrr_t := hrr_t.mono hle1
 clear hst0 hfr0 hk1
 refine hK1 _ _ ?_
 refine zB fun _ hK3 => ?_
 refine rp0 hst1 hfr1 (.cons rfl (zO rfl hc1 isAgg33 sizeOf33 rfl rfl) <| .cons rfl (zc rfl (.cons rfl <| .nil) call66 (fun w m hK => by have hle_ := KC.le hK; have hA := KC.agree hK; have h_t := h_t.mono hle_; exact plain_c t hA h_t hb)) <| .cons rfl (zD rfl) <| .cons rfl (zA (off := 13) rfl underlying33 rfl rfl sizeOf29 rfl) <| .cons rfl (Zt rfl hc1 isAgg29 sizeOf29 rfl rfl) <| .cons rfl (zc rfl (.cons rfl <| .nil) call67 (fun w m hK => by have hle_ := KC.le hK; have hA := KC.agree hK; have hrr_t := hrr_t.mono hle_; exact calm_c (r := t.row) hA hrr_t)) <| .cons rfl (zx rfl rfl rfl) <| .cons rfl (zC rfl) <| .nil) fun a2 w2 m2 hst2 hle2 hk2 => ?_
 have hfr2 := hk2.fr (.n 2 <| .nil)
 clear hst1 hfr1 hk2
 refine hK3 _ _ ?_
 refine zK ?_
 repeat (with_reducible first | refine zI ?_ | refine zF ?_)
 exact zL hst2 hfr2 rfl (.tmp rfl <| .nil) (rfl)
end Go.Proofs.YtmdhhjmomilhjaaDoor
namespace Go.Proofs.YtmdhhjmomilhjaaDoor
open Go.Proofs.Tryd
set_option linter.all false
set_option maxRecDepth 4000
open Go.RowKit
theorem Zr {α : Type} {l r : List α} {k : Nat} {x d : α} (h : l.drop k = x :: r) : l.getD k d = x := by
 rw [List.getD_eq_getElem?_getD, zAz h]; rfl
def zEG (a : Ar) : Prop := a.vars.length = 2 ∧ a.vars.getD 0 [] ≠ a.vars.getD 1 [] ∧ a.body.kind = 6 ∧ a.body.kids.length = 2 ∧ a.vars.getD 1 [] ≠ uS ∧ (a.body.kids.getD 0 Zv).kind = 1 ∧ (a.body.kids.getD 0 Zv).name = a.vars.getD 1 [] ∧ Ze (a.vars.getD 1 []) (a.body.kids.getD 1 Zv) = 0
instance (a : Ar) : Decidable (zEG a) := by unfold zEG; infer_instance
def zBf (a : Ar) : Tm × Bool := if zEG a then (a.body.kids.getD 1 Zv, true) else (Zv, false)
theorem zBp {a : Ar} (h : ¬ zEG a) : zBf a = (Zv, false) := if_neg h
theorem lastP_yes {a : Ar} (h : zEG a) {x : Tm} (hx : a.body.kids.getD 1 Zv = x) : zBf a = (x, true) := by unfold zBf; rw [if_pos h, hx]
def MP.lastV (a : Ar) : MP := MP.mem (fun y : (Tm × TmY) × Bool => .tuple #[.agg (tmV y.1.1 y.1.2).toArray, .bool y.2]) (fun y m => TmR m y.1.1 (tmV y.1.1 y.1.2) ∧ (y.1.1, y.2) = zBf a) fun hm h => ⟨h.1.mono hm, h.2⟩
def Zb (s : Str) : Tm := ⟨1, 0, s, [], 0, [], [], ⟨[], 0⟩⟩
theorem inI0 : Z8 0 := ⟨by decide, by decide⟩
theorem inI1 : Z8 1 := ⟨by decide, by decide⟩
def Zh (f a : Tm) : Tm := ⟨6, 0, [], [], 0, [f, a], [], ⟨[], 1⟩⟩
set_option maxHeartbeats 1600000 in
theorem v_c {w : World} {m : Mem} {s : Str} (hA : Agree w m)  : FnV Tryd.prog 29 #[S s] w m (fun _ m v => (MP.tm (Zb s)).p m v) := by
 refine zX (vs := [_]) func29 rfl rfl rfl fun a0 hfr0 => ?_
 have hst0 := zW hA (zf [] _ w m)
 have hM : MLe m m := MLe.refl m
 refine zB fun _ hK1 => ?_
 replace hst0 := hst0.more (r := .free) trivial List.nodup_nil (by simp [Res.blocks])
 refine ra0 (tch := [(0, 0, (fun v => .blk v _))]) hst0 hfr0 (.consT rfl rfl (fun _ => rfl) rfl (zQ zeroValue33 rfl) <| .nil) fun a1 w1 m1 hst1 hle1 hk1 => ?_
 have hfr1 := hk1.fr (.o 0 <| .nil)
 obtain ⟨g2, e2, _⟩ := hk1.ex 2 rfl
 replace hfr1 := hfr1.cons e2
 replace hst1 := hst1.fin (L' := [_]) (.cons e2 <| .nil)
 clear hst0 hfr0 hk1
 refine hK1 _ _ ?_
 refine zB fun _ hK3 => ?_
 refine ra0 (tch := [(2, 0, (fun _ => .blk _ _))]) hst1 hfr1 (.cons rfl (zD rfl) <| .cons rfl (zq (.cons rfl <| .cons rfl <| .nil) underlying33 zeroValue33 (.cons sizeOf3 <| .cons sizeOf3 <| .cons sizeOf9 <| .cons sizeOf9 <| .cons sizeOf3 <| .cons sizeOf24 <| .cons sizeOf25 <| .cons sizeOf31 <| .cons sizeOf29 <| .cons sizeOf31 <| .nil) rfl) <| .consT rfl rfl (fun _ => rfl) rfl (za rfl rfl rfl sizeOf33 rfl rfl rfl) <| .nil) fun a2 w2 m2 hst2 hle2 hk2 => ?_
 have hfr2 := hk2.fr (.o 2 <| .nil)
 replace hst2 := hst2.fin (L' := [_]) (.cons rfl <| .nil)
 try simp only [List.take_succ_cons, List.take_zero, List.drop_succ_cons, List.drop_zero, List.cons_append, List.nil_append, List.append_nil, List.length_cons, List.length_nil, Nat.zero_add, Nat.reduceAdd] at hst2
 clear hst1 hfr1 hk2
 refine hK3 _ _ ?_
 refine zK ?_
 repeat (with_reducible first | refine zI ?_ | refine zF ?_)
 exact zL hst2 hfr2 rfl (.cell rfl (zn (zl (hst2.loc.at_ (k := 0) rfl)) isAgg33 sizeOf33) <| .nil) (⟨TmY.zero none 0 none 0, rfl, TmR.build TmY.zero_one Sl.empty Sl.empty ⟨_, _, rfl, Sl.empty, inI0⟩⟩)
set_option maxHeartbeats 1600000 in
theorem call_c {w : World} {m : Mem} {f : Tm} {vs_f : List Value} {a : Tm} {vs_a : List Value} (hA : Agree w m) (h_f : TmR m f vs_f) (h_a : TmR m a vs_a) : FnV Tryd.prog 28 #[.agg vs_f.toArray, .agg vs_a.toArray] w m (fun _ m v => (MP.tm (Zh f a)).p m v) := by
 obtain ⟨⟨oK_f, cK_f, oA_f, cA_f, oR_f, cR_f, t0_f, t1_f, t2_f, t3_f, t4_f, t5_f, u0_f, u1_f, u2_f, u3_f, u4_f, u5_f⟩, rfl, hon_f, hkk_f, haa_f, hrr_f⟩ := h_f.open_
 dsimp only at hkk_f haa_f hrr_f
 have hbg_f := hkk_f.big; have hcp_f := hkk_f.cap; have hbh_f := haa_f.big; have hcq_f := haa_f.cap
 obtain ⟨⟨oK_a, cK_a, oA_a, cA_a, oR_a, cR_a, t0_a, t1_a, t2_a, t3_a, t4_a, t5_a, u0_a, u1_a, u2_a, u3_a, u4_a, u5_a⟩, rfl, hon_a, hkk_a, haa_a, hrr_a⟩ := h_a.open_
 dsimp only at hkk_a haa_a hrr_a
 have hbg_a := hkk_a.big; have hcp_a := hkk_a.cap; have hbh_a := haa_a.big; have hcq_a := haa_a.cap
 refine zX (vs := [_, _]) func28 rfl rfl rfl fun a0 hfr0 => ?_
 have hst0 := zW hA (zf [] _ w m)
 have hM : MLe m m := MLe.refl m
 refine zB fun _ hK1 => ?_
 replace hst0 := hst0.more (r := .free) trivial List.nodup_nil (by simp [Res.blocks])
 refine ra0 (tch := [(2, 0, (fun v => .blk v _))]) hst0 hfr0 (.cons rfl (zv rfl rfl) <| .cons rfl (zv rfl rfl) <| .consT rfl rfl (fun _ => rfl) rfl (zQ zeroValue33 rfl) <| .nil) fun a1 w1 m1 hst1 hle1 hk1 => ?_
 have hfr1 := hk1.fr (.nil)
 obtain ⟨g2, e2, hc2⟩ := hk1.ex 2 rfl
 replace hfr1 := hfr1.cons e2
 obtain ⟨g3, e3, hc3⟩ := hk1.ex 3 rfl
 replace hfr1 := hfr1.cons e3
 obtain ⟨g4, e4, _⟩ := hk1.ex 4 rfl
 replace hfr1 := hfr1.cons e4
 replace hst1 := hst1.fin (L' := [_]) (.cons e4 <| .nil)
 replace h_f := h_f.mono hle1
 replace h_a := h_a.mono hle1
 clear hst0 hfr0 hk1
 refine hK1 _ _ ?_
 refine zB fun _ hK5 => ?_
 refine ra0 (tch := [(5, 0, (fun _ => .blkx _ _ _))]) hst1 hfr1 (.cons rfl (zO rfl hc2 isAgg33 sizeOf33 rfl rfl) <| .cons rfl (zO rfl hc3 isAgg33 sizeOf33 rfl rfl) <| .cons rfl (Z4 rfl rfl underlying24 sizeOf33 zeroValue33 rfl rfl rfl rfl rfl) <| .cons rfl (zq (.cons rfl <| .nil) underlying29 zeroValue29 (.cons sizeOf27 <| .cons sizeOf3 <| .nil) rfl) <| .cons rfl (zh 7 rfl rfl rfl fun y7 => zq (.cons rfl <| .cons rfl <| .cons rfl <| .nil) underlying33 zeroValue33 (.cons sizeOf3 <| .cons sizeOf3 <| .cons sizeOf9 <| .cons sizeOf9 <| .cons sizeOf3 <| .cons sizeOf24 <| .cons sizeOf25 <| .cons sizeOf31 <| .cons sizeOf29 <| .cons sizeOf31 <| .nil) rfl) <| .consT rfl rfl (fun _ => rfl) rfl (ZJ 9 rfl rfl rfl fun y9 => za rfl rfl rfl sizeOf33 rfl rfl rfl) <| .nil) fun a2 w2 m2 hst2 hle2 hk2 => ?_
 have hfr2 := hk2.fr (.o 4 <| .nil)
 replace hst2 := hst2.fin (L' := [_]) (.cons rfl <| .nil)
 try simp only [List.take_succ_cons, List.take_zero, List.drop_succ_cons, List.drop_zero, List.cons_append, List.nil_append, List.append_nil, List.length_cons, List.length_nil, Nat.zero_add, Nat.reduceAdd] at hst2
 obtain ⟨gf, hgf, hst2⟩ := hst2.unx (k := 0) rfl (fun _ => rfl)
 replace h_f := h_f.mono hle2
 replace h_a := h_a.mono hle2
 clear hst1 hfr1 hk2
 refine hK5 _ _ ?_
 refine zK ?_
 repeat (with_reducible first | refine zI ?_ | refine zF ?_)
 exact zL hst2 hfr2 rfl (.cell rfl (zn (zl (hst2.loc.at_ (k := 0) rfl)) isAgg33 sizeOf33) <| .nil) (⟨TmY.zero (some ⟨gf, 0, none⟩) 2 none 0, rfl, TmR.build TmY.zero_one (by refine Sl.two (R := fun m vs t => TmR m t vs) ?_ ?_ ?_ h_f h_a; exact hgf; rfl; rfl) Sl.empty ⟨_, _, rfl, Sl.empty, inI1⟩⟩)
set_option maxHeartbeats 3200000 in
theorem last_c {w : World} {m : Mem} {a : Ar} {vs_a : List Value} (hA : Agree w m) (h_a : ArR m a vs_a) (hsh : ShT a.body) (hb : zP a.body ≤ 1000000000) : FnV Tryd.prog 54 #[.agg vs_a.toArray] w m (fun _ m v => (MP.lastV a).p m v) := by
 obtain ⟨oV_a, cV_a, bs_a, rfl, hva_a, hbd_a⟩ := h_a.open_
 have hbv_a := hva_a.big; have hcv_a_ := hva_a.cap
 obtain ⟨⟨oK_ab, cK_ab, oA_ab, cA_ab, oR_ab, cR_ab, t0_ab, t1_ab, t2_ab, t3_ab, t4_ab, t5_ab, u0_ab, u1_ab, u2_ab, u3_ab, u4_ab, u5_ab⟩, rfl, hon_ab, hkk_ab, haa_ab, hrr_ab⟩ := hbd_a.open_
 dsimp only at hkk_ab haa_ab hrr_ab
 have hbg_ab := hkk_ab.big; have hcp_ab := hkk_ab.cap; have hbh_ab := haa_ab.big; have hcq_ab := haa_ab.cap
 refine zX (vs := [_]) func54 rfl rfl rfl fun a0 hfr0 => ?_
 have hst0 := zW hA (zf [] _ w m)
 have hM : MLe m m := MLe.refl m
 have hce := zr a.body
 refine zB fun _ hK1 => ?_
 replace hst0 := hst0.more (r := .free) trivial List.nodup_nil (by simp [Res.blocks])
 refine ra0 (tch := [(1, 0, (fun v => .blk v _))]) hst0 hfr0 (.cons rfl (zv rfl rfl) <| .consT rfl rfl (fun _ => rfl) rfl (zQ zeroValue33 rfl) <| .cons rfl (zC rfl) <| .nil) fun a1 w1 m1 hst1 hle1 hk1 => ?_
 have hfr1 := hk1.fr (.nil)
 obtain ⟨g2, e2, hc1⟩ := hk1.ex 1 rfl
 replace hfr1 := hfr1.cons e2
 obtain ⟨g3, e3, _⟩ := hk1.ex 2 rfl
 replace hfr1 := hfr1.cons e3
 replace hst1 := hst1.fin (L' := [_]) (.cons e3 <| .nil)
 replace hva_a := hva_a.mono hle1
 replace hbd_a := hbd_a.mono hle1
 replace hkk_ab := hkk_ab.mono hle1
 clear hst0 hfr0 hk1
 refine hK1 _ _ ?_
 refine zB fun _ hK4 => ?_
 replace hst1 := hst1.more (r := .free) trivial List.nodup_nil (by simp [Res.blocks])
 refine ra0 (tch := [(2, 1, (fun v => .blk v _)), (3, 1, (fun v => .blk v _))]) hst1 hfr1 (.cons rfl (zA (off := 2) rfl underlying72 rfl rfl sizeOf33 rfl) <| .cons rfl (Zt rfl hc1 isAgg33 sizeOf33 rfl rfl) <| .consT rfl rfl (fun _ => rfl) rfl (zQ zeroValue33 rfl) <| .consT rfl rfl (fun _ => rfl) rfl (zU 4 rfl rfl rfl fun y4 => zb rfl rfl rfl rfl rfl sizeOf33 rfl rfl hbd_a.one) <| .nil) fun a2 w2 m2 hst2 hle2 hk2 => ?_
 have hfr2 := hk2.fr (.o 1 <| .o 2 <| .nil)
 obtain ⟨g5, e5, _⟩ := hk2.ex 4 rfl
 replace hfr2 := hfr2.cons e5
 replace hst2 := hst2.fin (L' := [_, _]) (.cons e5 <| .cons e5 <| .nil)
 try simp only [List.take_succ_cons, List.take_zero, List.drop_succ_cons, List.drop_zero, List.cons_append, List.nil_append, List.append_nil, List.length_cons, List.length_nil, Nat.zero_add, Nat.reduceAdd] at hst2
 replace hva_a := hva_a.mono hle2
 replace hkk_ab := hkk_ab.mono hle2
 replace hc1 := hc1.mono hle2
 clear hst1 hfr1 hk2
 refine hK4 _ _ ?_
 refine zB fun _ hK6 => ?_
 refine zB fun _ hK7 => ?_
 rcases Nat.decEq a.vars.length 2 with hl2 | hl2
 ·skip
  refine ZC (fun _ => mixed) hst2 hfr2 (by kernel_rfl) (by kernel_rfl) (.cons rfl (zA (off := 1) rfl underlying72 rfl rfl sizeOf27 rfl) <| .cons rfl (zE rfl hc1 isAgg27 rfl) <| .cons rfl (zY rfl underlying27) <| .cons rfl (ZP rfl rfl) <| .cons rfl (zD rfl) <| .cons rfl (ZA (κ := .eq (.bool false)) (b := false) 13 rfl rfl (fun h => by first | (simp at h; omega) | omega)) <| .cons rfl (ZA (κ := .eq (.bool false)) (b := false) 13 rfl rfl (fun h => by first | (simp at h; omega) | omega)) <| .cons rfl (ZA (κ := .eq (.bool false)) (b := false) 13 rfl rfl (fun h => by first | (simp at h; omega) | omega)) <| .cons rfl (ZA (κ := .eq (.bool false)) (b := false) 13 rfl rfl (fun h => by first | (simp at h; omega) | omega)) <| .cons rfl (ZA (κ := .eq (.bool false)) (b := false) 13 rfl rfl (fun h => by first | (simp at h; omega) | omega)) <| .cons rfl (ZA (κ := .eq (.bool false)) (b := false) 13 rfl rfl (fun h => by first | (simp at h; omega) | omega)) <| .cons rfl (ZA (κ := .eq (.bool false)) (b := false) 13 rfl rfl (fun h => by first | (simp at h; omega) | omega)) <| .cons rfl (ZA (κ := .eq (.bool false)) (b := false) 13 rfl rfl (fun h => by first | (simp at h; omega) | omega)) <| .cons rfl (ZA (κ := .eq (.bool false)) (b := false) 13 rfl rfl (fun h => by first | (simp at h; omega) | omega)) <| .cons rfl (zx rfl rfl rfl) <| .cons rfl (zD rfl) <| .cons rfl (zA (off := 0) rfl underlying33 rfl rfl sizeOf3 rfl) <| .cons rfl (zM (j := 1) rfl rfl isAgg3 rfl) <| .cons rfl (ZP rfl rfl) <| .cons rfl (zx rfl rfl rfl) <| .cons rfl (zD rfl) <| .cons rfl (zA (off := 5) rfl underlying33 rfl rfl sizeOf24 rfl) <| .cons rfl (zM (j := 1) rfl rfl isAgg24 rfl) <| .cons rfl (zY rfl underlying24) <| .cons rfl (ZP rfl rfl) <| .cons rfl (zx rfl rfl rfl) <| .nil) fun a3 w3 m3 hst3 hle3 hk3 => ?_
  have hfr3 := hk3.fr (.o 1 <| .o 2 <| .o 4 <| .n 34 <| .nil)
  clear hst2 hfr2 hk3
  refine hK7 _ _ ?_
  refine zG hfr3 rfl rfl (fun hb34 => ?_) (fun hb34 => ?_)
  ·try simp only [nqs] at hb34
   refine zB fun _ hK8 => ?_
   refine ra0 (tch := [(1, 0, (fun _ => .blk _ _))]) hst3 hfr3 (.cons rfl (zq (.nil) underlying33 zeroValue33 (.cons sizeOf3 <| .cons sizeOf3 <| .cons sizeOf9 <| .cons sizeOf9 <| .cons sizeOf3 <| .cons sizeOf24 <| .cons sizeOf25 <| .cons sizeOf31 <| .cons sizeOf29 <| .cons sizeOf31 <| .nil) rfl) <| .consT rfl rfl (fun _ => rfl) rfl (za rfl rfl rfl sizeOf33 rfl rfl rfl) <| .cons rfl (zC rfl) <| .nil) fun a4 w4 m4 hst4 hle4 hk4 => ?_
   have hfr4 := hk4.fr (.o 2 <| .n 3 <| .nil)
   replace hst4 := hst4.fin (L' := [_, _]) (.cons rfl <| .nil)
   try simp only [List.take_succ_cons, List.take_zero, List.drop_succ_cons, List.drop_zero, List.cons_append, List.nil_append, List.append_nil, List.length_cons, List.length_nil, Nat.zero_add, Nat.reduceAdd] at hst4
   clear hst3 hfr3 hk4
   refine hK8 _ _ ?_
   refine zK ?_
   repeat (with_reducible first | refine zI ?_ | refine zF ?_)
   exact zL hst4 hfr4 rfl (.cell rfl (zn (zl (hst4.loc.at_ (k := 0) rfl)) isAgg33 sizeOf33) <| .tmp rfl <| .nil) (⟨((Zv, TmY.zero none 0 none 0), false), rfl, zBz, (zBp (fun hh => by obtain ⟨h1, h2, h3, h4, h5, h6, h7, h8⟩ := hh; first | omega | (rcases hb34 with ((h | h) | h) | h <;> first | omega | exact h2 (hgA.trans (h.trans hgB.symm)) | exact h h3))).symm⟩)
  ·exfalso
   first | omega | (simp at hb34; omega)
 ·skip
  obtain ⟨p10, vs10, x10, ho10, hd10, hm_x10, ht10, hcv10, hl10, hv10⟩ := hva_a.nth (k := 0) (by omega)
  cases ho10
  subst hv10
  have hgA : a.vars.getD 0 [] = x10 := Zr hd10
  obtain ⟨p11, vs11, x11, ho11, hd11, hm_x11, ht11, hcv11, hl11, hv11⟩ := hva_a.nth (k := 1) (by omega)
  cases ho11
  subst hv11
  have hgB : a.vars.getD 1 [] = x11 := Zr hd11
  refine ZC (fun _ => mixed) hst2 hfr2 (by kernel_rfl) (by kernel_rfl) (.cons rfl (zA (off := 1) rfl underlying72 rfl rfl sizeOf27 rfl) <| .cons rfl (zE rfl hc1 isAgg27 rfl) <| .cons rfl (zY rfl underlying27) <| .cons rfl (ZP rfl rfl) <| .cons rfl (zD rfl) <| .cons rfl (zA (off := 1) rfl underlying72 rfl rfl sizeOf27 rfl) <| .cons rfl (zE rfl hc1 isAgg27 rfl) <| .cons rfl (zH (k := 0) rfl rfl underlying27 sizeOf9 rfl (by omega)) <| .cons rfl (ZN rfl hcv10 isAgg9 rfl) <| .cons rfl (zA (off := 1) rfl underlying72 rfl rfl sizeOf27 rfl) <| .cons rfl (zE rfl hc1 isAgg27 rfl) <| .cons rfl (zH (k := 1) rfl rfl underlying27 sizeOf9 rfl (by omega)) <| .cons rfl (ZN rfl hcv11 isAgg9 rfl) <| .cons rfl (z6 rfl rfl) <| .cons rfl (zx rfl rfl rfl) <| .cons rfl (zD rfl) <| .cons rfl (zA (off := 0) rfl underlying33 rfl rfl sizeOf3 rfl) <| .cons rfl (zM (j := 1) rfl rfl isAgg3 rfl) <| .cons rfl (ZP rfl rfl) <| .cons rfl (zx rfl rfl rfl) <| .cons rfl (zD rfl) <| .cons rfl (zA (off := 5) rfl underlying33 rfl rfl sizeOf24 rfl) <| .cons rfl (zM (j := 1) rfl rfl isAgg24 rfl) <| .cons rfl (zY rfl underlying24) <| .cons rfl (ZP rfl rfl) <| .cons rfl (zx rfl rfl rfl) <| .nil) fun a3 w3 m3 hst3 hle3 hk3 => ?_
  have hfr3 := hk3.fr (.o 1 <| .o 2 <| .o 4 <| .n 34 <| .nil)
  clear hst2 hfr2 hk3
  refine hK7 _ _ ?_
  refine zG hfr3 rfl rfl (fun hb34 => ?_) (fun hb34 => ?_)
  ·try simp only [nqs] at hb34
   refine zB fun _ hK12 => ?_
   refine ra0 (tch := [(1, 0, (fun _ => .blk _ _))]) hst3 hfr3 (.cons rfl (zq (.nil) underlying33 zeroValue33 (.cons sizeOf3 <| .cons sizeOf3 <| .cons sizeOf9 <| .cons sizeOf9 <| .cons sizeOf3 <| .cons sizeOf24 <| .cons sizeOf25 <| .cons sizeOf31 <| .cons sizeOf29 <| .cons sizeOf31 <| .nil) rfl) <| .consT rfl rfl (fun _ => rfl) rfl (za rfl rfl rfl sizeOf33 rfl rfl rfl) <| .cons rfl (zC rfl) <| .nil) fun a4 w4 m4 hst4 hle4 hk4 => ?_
   have hfr4 := hk4.fr (.o 2 <| .n 3 <| .nil)
   replace hst4 := hst4.fin (L' := [_, _]) (.cons rfl <| .nil)
   try simp only [List.take_succ_cons, List.take_zero, List.drop_succ_cons, List.drop_zero, List.cons_append, List.nil_append, List.append_nil, List.length_cons, List.length_nil, Nat.zero_add, Nat.reduceAdd] at hst4
   clear hst3 hfr3 hk4
   refine hK12 _ _ ?_
   refine zK ?_
   repeat (with_reducible first | refine zI ?_ | refine zF ?_)
   exact zL hst4 hfr4 rfl (.cell rfl (zn (zl (hst4.loc.at_ (k := 0) rfl)) isAgg33 sizeOf33) <| .tmp rfl <| .nil) (⟨((Zv, TmY.zero none 0 none 0), false), rfl, zBz, (zBp (fun hh => by obtain ⟨h1, h2, h3, h4, h5, h6, h7, h8⟩ := hh; first | omega | (rcases hb34 with ((h | h) | h) | h <;> first | omega | exact h2 (hgA.trans (h.trans hgB.symm)) | exact h h3))).symm⟩)
  ·try simp only [nqs] at hb34
   refine zJ ?_
   refine hK6 _ _ ?_
   refine zB fun _ hK14 => ?_
   replace hc1 := hc1.mono hle3
   replace hcv11 := hcv11.mono hle3
   refine rp0 hst3 hfr3 (.cons rfl (zA (off := 1) rfl underlying72 rfl rfl sizeOf27 rfl) <| .cons rfl (zE rfl hc1 isAgg27 rfl) <| .cons rfl (zH (k := 1) rfl rfl underlying27 sizeOf9 rfl (by omega)) <| .cons rfl (ZN rfl hcv11 isAgg9 rfl) <| .cons rfl (zC rfl) <| .nil) fun a4 w4 m4 hst4 hle4 hk4 => ?_
   have hfr4 := hk4.fr (.o 2 <| .o 4 <| .n 5 <| .nil)
   clear hst3 hfr3 hk4
   refine hK14 _ _ ?_
   refine zB fun _ hK15 => ?_
   have zq1 := hle3.trans hle4
   replace hkk_ab := hkk_ab.mono zq1
   obtain ⟨p16, vs16, x16, ho16, hd16, hm_x16, ht16, hcv16, hl16, hv16⟩ := hkk_ab.nth (k := 0) (by omega)
   cases ho16
   obtain ⟨⟨oK16, cK16, oA16, cA16, oR16, cR16, t016, t116, t216, t316, t416, t516, u016, u116, u216, u316, u416, u516⟩, rfl, hon16, hkk16, haa16, hrr16⟩ := hv16.open_
   dsimp only at hkk16 haa16 hrr16
   have hbg16 := hkk16.big; have hcp16 := hkk16.cap; have hbh16 := haa16.big; have hcq16 := haa16.cap
   replace hst4 := hst4.more (r := .free) trivial List.nodup_nil (by simp [Res.blocks])
   refine ra0 (tch := [(4, 2, (fun v => .blk v _)), (5, 2, (fun v => .blk v _))]) hst4 hfr4 (.cons rfl (zA (off := 5) rfl underlying33 rfl rfl sizeOf24 rfl) <| .cons rfl (zM (j := 1) rfl rfl isAgg24 rfl) <| .cons rfl (zH (k := 0) rfl rfl underlying24 sizeOf33 rfl (by omega)) <| .cons rfl (zO rfl hcv16 isAgg33 sizeOf33 rfl rfl) <| .consT rfl rfl (fun _ => rfl) rfl (zQ zeroValue33 rfl) <| .consT rfl rfl (fun _ => rfl) rfl (zU 6 rfl rfl rfl fun y6 => zb rfl rfl rfl rfl rfl sizeOf33 rfl rfl hv16.one) <| .nil) fun a5 w5 m5 hst5 hle5 hk5 => ?_
   have hfr5 := hk5.fr (.o 2 <| .o 4 <| .o 5 <| .nil)
   obtain ⟨g17, e17, _⟩ := hk5.ex 6 rfl
   replace hfr5 := hfr5.cons e17
   replace hst5 := hst5.fin (L' := [_, _, _]) (.cons e17 <| .cons e17 <| .nil)
   try simp only [List.take_succ_cons, List.take_zero, List.drop_succ_cons, List.drop_zero, List.cons_append, List.nil_append, List.append_nil, List.length_cons, List.length_nil, Nat.zero_add, Nat.reduceAdd] at hst5
   clear hst4 hfr4 hk5
   have hgF : a.body.kids.getD 0 Zv = x16 := Zr hd16
   refine hK15 _ _ ?_
   refine zB fun _ hK18 => ?_
   refine zB fun _ hK19 => ?_
   replace hkk_ab := hkk_ab.mono hle5
   obtain ⟨p20, vs20, x20, ho20, hd20, hm_x20, ht20, hcv20, hl20, hv20⟩ := hkk_ab.nth (k := 1) (by omega)
   cases ho20
   obtain ⟨⟨oK20, cK20, oA20, cA20, oR20, cR20, t020, t120, t220, t320, t420, t520, u020, u120, u220, u320, u420, u520⟩, rfl, hon20, hkk20, haa20, hrr20⟩ := hv20.open_
   dsimp only at hkk20 haa20 hrr20
   have hbg20 := hkk20.big; have hcp20 := hkk20.cap; have hbh20 := haa20.big; have hcq20 := haa20.cap
   refine rp0 hst5 hfr5 (.cons rfl (zD rfl) <| .cons rfl (z6 rfl rfl) <| .cons rfl (zD rfl) <| .cons rfl (zA (off := 0) rfl underlying33 rfl rfl sizeOf3 rfl) <| .cons rfl (zM (j := 2) rfl rfl isAgg3 rfl) <| .cons rfl (ZP rfl rfl) <| .cons rfl (zx rfl rfl rfl) <| .cons rfl (zD rfl) <| .cons rfl (zA (off := 2) rfl underlying33 rfl rfl sizeOf9 rfl) <| .cons rfl (zM (j := 2) rfl rfl isAgg9 rfl) <| .cons rfl (zD rfl) <| .cons rfl (Z7 rfl rfl) <| .cons rfl (zx rfl rfl rfl) <| .cons rfl (zD rfl) <| .cons rfl (zA (off := 5) rfl underlying33 rfl rfl sizeOf24 rfl) <| .cons rfl (zM (j := 1) rfl rfl isAgg24 rfl) <| .cons rfl (zH (k := 1) rfl rfl underlying24 sizeOf33 rfl (by omega)) <| .cons rfl (zO rfl hcv20 isAgg33 sizeOf33 rfl rfl) <| .cons rfl (zD rfl) <| .cons rfl (zc rfl (.cons rfl <| .cons rfl <| .nil) call68 (fun w m hK => by have hle_ := KC.le hK; have hA := KC.agree hK; have hv20 := hv20.mono hle_; exact usesP_c (t := x20) hA hv20 (hsh.kid hm_x20) (by have := ZH hm_x20; omega))) <| .cons rfl (zAw rfl rfl) <| .cons rfl (zx rfl rfl rfl) <| .nil) fun a6 w6 m6 hst6 hle6 hk6 => ?_
   have hfr6 := hk6.fr (.o 2 <| .o 4 <| .n 65 <| .nil)
   clear hst5 hfr5 hk6
   have hgK : a.body.kids.getD 1 Zv = x20 := Zr hd20
   refine hK19 _ _ ?_
   refine zG hfr6 rfl rfl (fun hb65 => ?_) (fun hb65 => ?_)
   ·try simp only [nqs] at hb65
    refine zB fun _ hK21 => ?_
    refine ra0 (tch := [(1, 0, (fun _ => .blk _ _))]) hst6 hfr6 (.cons rfl (zq (.nil) underlying33 zeroValue33 (.cons sizeOf3 <| .cons sizeOf3 <| .cons sizeOf9 <| .cons sizeOf9 <| .cons sizeOf3 <| .cons sizeOf24 <| .cons sizeOf25 <| .cons sizeOf31 <| .cons sizeOf29 <| .cons sizeOf31 <| .nil) rfl) <| .consT rfl rfl (fun _ => rfl) rfl (za rfl rfl rfl sizeOf33 rfl rfl rfl) <| .cons rfl (zC rfl) <| .nil) fun a7 w7 m7 hst7 hle7 hk7 => ?_
    have hfr7 := hk7.fr (.o 2 <| .n 3 <| .nil)
    replace hst7 := hst7.fin (L' := [_, _, _]) (.cons rfl <| .nil)
    try simp only [List.take_succ_cons, List.take_zero, List.drop_succ_cons, List.drop_zero, List.cons_append, List.nil_append, List.append_nil, List.length_cons, List.length_nil, Nat.zero_add, Nat.reduceAdd] at hst7
    clear hst6 hfr6 hk7
    refine hK21 _ _ ?_
    refine zK ?_
    repeat (with_reducible first | refine zI ?_ | refine zF ?_)
    exact zL hst7 hfr7 rfl (.cell rfl (zn (zl (hst7.loc.at_ (k := 0) rfl)) isAgg33 sizeOf33) <| .tmp rfl <| .nil) (⟨((Zv, TmY.zero none 0 none 0), false), rfl, zBz, (zBp (fun hh => by obtain ⟨h1, h2, h3, h4, h5, h6, h7, h8⟩ := hh; first | omega | (rw [hgB] at h5 h7 h8; rw [hgF] at h6 h7; rw [hgK] at h8; rcases hb65 with ((h | h) | h) | h <;> first | omega | exact h5 h | exact h h6 | exact h h7))).symm⟩)
   ·try simp only [nqs] at hb65
    refine zJ ?_
    refine hK18 _ _ ?_
    refine zB fun _ hK23 => ?_
    replace hcv20 := hcv20.mono hle6
    replace hv20 := hv20.mono hle6
    refine ra0 (tch := [(4, 0, (fun _ => .blk _ _))]) hst6 hfr6 (.cons rfl (zA (off := 5) rfl underlying33 rfl rfl sizeOf24 rfl) <| .cons rfl (zM (j := 1) rfl rfl isAgg24 rfl) <| .cons rfl (zH (k := 1) rfl rfl underlying24 sizeOf33 rfl (by omega)) <| .cons rfl (zO rfl hcv20 isAgg33 sizeOf33 rfl rfl) <| .consT rfl rfl (fun _ => rfl) rfl (za rfl rfl rfl sizeOf33 rfl rfl hv20.one) <| .cons rfl (zC rfl) <| .nil) fun a7 w7 m7 hst7 hle7 hk7 => ?_
    have hfr7 := hk7.fr (.o 2 <| .n 3 <| .nil)
    replace hst7 := hst7.fin (L' := [_, _, _]) (.cons rfl <| .nil)
    try simp only [List.take_succ_cons, List.take_zero, List.drop_succ_cons, List.drop_zero, List.cons_append, List.nil_append, List.append_nil, List.length_cons, List.length_nil, Nat.zero_add, Nat.reduceAdd] at hst7
    clear hst6 hfr6 hk7
    refine hK23 _ _ ?_
    refine zK ?_
    repeat (with_reducible first | refine zI ?_ | refine zF ?_)
    replace hv20 := hv20.mono hle7
    exact zL hst7 hfr7 rfl (.cell rfl (zn (zl (hst7.loc.at_ (k := 0) rfl)) isAgg33 sizeOf33) <| .tmp rfl <| .nil) (⟨((x20, _), true), rfl, hv20, (lastP_yes ⟨by omega, by rw [hgA, hgB]; exact hb34.1.1.2, by omega, by omega, by rw [hgB]; exact hb65.1.1.1, by rw [hgF]; omega, by rw [hgF, hgB]; exact hb65.1.2, by rw [hgB, hgK]; omega⟩ hgK).symm⟩)
end Go.Proofs.YtmdhhjmomilhjaaDoor
